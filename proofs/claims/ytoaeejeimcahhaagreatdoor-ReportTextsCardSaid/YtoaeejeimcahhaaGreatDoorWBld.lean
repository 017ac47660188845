/- What strings.Builder's methods answer for a builder of the call's own. -/
import Derived.Test.YtoaeejeimcahhaaGreatDoorChecked
import Derived.Shelf.Strings.BuilderF
import Derived.Lib.FrozenHead2
import Derived.Lib.AppendStr
import Derived.Maps.AppendAt
import Derived.WalkKit
section
set_option linter.unusedVariables false
namespace Go.Proofs.YtoaeejeimcahhaaGreatDoor
open Go.Shelf Go.RowKit
/-- all but two blocks stands -/
structure KeptBut (b : Nat) (row : Option Nat) (w w' : World) : Prop where
  os : w'.os = w.os
  tape : w'.tape = w.tape
  output : w'.output = w.output
  size : w.heap.size ≤ w'.heap.size
  block : ∀ k, k < w.heap.size → k ≠ b → some k ≠ row → w'.heap[k]? = w.heap[k]?
/-- a builder of the call's own: its block, its row -/
def Bld (b : Nat) (row : Option Nat) (bs : List Value) (w : World) : Prop :=
  ∃ p v, (p = .pointer none ∨ p = .pointer (some ⟨b, 0, none⟩)) ∧ w.heap[b]? = some (.cells #[p, v] 50 (0, 0)) ∧ w.ownsRow (b + 1) 5 1 v bs.length bs ∧ row = v.ownBlock
set_option maxRecDepth 100000 in
set_option maxHeartbeats 1000000 in
theorem copyCheck_fresh (b : Nat) (w : World) (h0 : w.cell? ⟨b, 0, none⟩ = some (.pointer none)) (hsh : w.shape? b = some (50, 2)) (hfz : w.frozen? ⟨b, 0, none⟩ = false) :
    Calls Tryz.prog 31 #[.pointer (some ⟨b, 0, none⟩)] w fun e w' => e = .returned (.tuple #[]) ∧ w' = w.setCell ⟨b, 0, none⟩ (.pointer (some ⟨b, 0, none⟩)) := by
  obtain ⟨j, hj, hjs⟩ : ∃ j, Tryz.prog.info? 50 = some j ∧ j.size = 2 := Option.map_eq_some_iff.1 (show (Tryz.prog.info? 50).map (·.size) = some 2 by kernel_rfl)
  have hl : liesAt Tryz.prog Tryz.prog.depth 50 (2 / Tryz.prog.cellsOf 50) 0 50 1 = true := by kernel_rfl
  go_enter Tryz.func31, Tryz.ntmps31
  go_wp2
  rw [Lib.run_to_unsafe w ⟨b, 0, none⟩ Tryz.underlying48 Tryz.underlying131 hj (by rw [hjs]; decide) hsh (Nat.zero_lt_succ 1)]
  simp only [Result.andThen]
  rw [Oper.upon_value]
  go_wp2
  rw [run_callFunc_extern Tryz.func62 (by kernel_rfl) (by kernel_rfl) (by kernel_rfl) (e := Extern.AbiNoEscape.same) (by kernel_rfl)]
  rw [Lib.run_noEscape]
  simp only [Result.andThen]
  rw [Oper.upon_value]
  go_wp2
  rw [Lib.run_from_unsafe w ⟨b, 0, none⟩ Tryz.underlying131 Tryz.underlying48 hj hsh hl]
  simp only [Result.andThen]
  rw [Oper.upon_value]
  go_wp2
  go_end0
  exact ⟨rfl, rfl⟩
set_option maxRecDepth 100000 in
set_option maxHeartbeats 1000000 in
theorem copyCheck_used (b : Nat) (w : World) (h0 : w.cell? ⟨b, 0, none⟩ = some (.pointer (some ⟨b, 0, none⟩))) :
    Calls Tryz.prog 31 #[.pointer (some ⟨b, 0, none⟩)] w fun e w' => e = .returned (.tuple #[]) ∧ w' = w := by
  obtain ⟨j, hj, hjs⟩ : ∃ j, Tryz.prog.info? 50 = some j ∧ j.size = 2 := Option.map_eq_some_iff.1 (show (Tryz.prog.info? 50).map (·.size) = some 2 by kernel_rfl)
  go_enter Tryz.func31, Tryz.ntmps31
  go_wp2
  rw [Lib.run_neq_ptr_same w _ Tryz.underlying48 hj]
  go_wp2
  go_end0
  exact ⟨rfl, rfl⟩
theorem KeptBut.refl (b : Nat) (row : Option Nat) (w : World) : KeptBut b row w w := ⟨rfl, rfl, rfl, Nat.le_refl _, fun _ _ _ _ => rfl⟩
theorem KeptBut.trans {b : Nat} {row : Option Nat} {w w1 w2 : World} (h : KeptBut b row w w1) (k : KeptBut b row w1 w2) : KeptBut b row w w2 :=
  ⟨k.os.trans h.os, k.tape.trans h.tape, k.output.trans h.output, Nat.le_trans h.size k.size, fun j h1 h2 h3 => (k.block j (Nat.lt_of_lt_of_le h1 h.size) h2 h3).trans (h.block j h1 h2 h3)⟩
theorem KeptBut.cell {b : Nat} {row : Option Nat} {w w' : World} (h : KeptBut b row w w') {k o : Nat} (h1 : k < w.heap.size) (h2 : k ≠ b) (h3 : some k ≠ row) : w'.cell? ⟨k, o, none⟩ = w.cell? ⟨k, o, none⟩ :=
  World.cell?_of_block (h.block k h1 h2 h3)
theorem Bld.low {b : Nat} {row : Option Nat} {bs : List Value} {w : World} (h : Bld b row bs w) : b < w.heap.size := by
  obtain ⟨p, v, _, hb, _⟩ := h
  rcases Nat.lt_or_ge b w.heap.size with k | k
  · exact k
  · simp [Array.getElem?_eq_none k] at hb
theorem Bld.row_ne {b : Nat} {row : Option Nat} {bs : List Value} {w : World} (h : Bld b row bs w) : row ≠ some b := by
  obtain ⟨p, v, _, hb, hown, rfl⟩ := h
  rcases hown.2 with ⟨rfl, _⟩ | ⟨g, cap, cur, rfl, hg, _⟩
  · simp [Value.ownBlock]
  · simp only [Value.ownBlock, ne_eq, Option.some.injEq]; omega
theorem Bld.row_low {b : Nat} {row : Option Nat} {bs : List Value} {w : World} (h : Bld b row bs w) {k : Nat} (hk : row = some k) : b < k ∧ k < w.heap.size := by
  obtain ⟨p, v, _, hb, hown, rfl⟩ := h
  rcases hown.2 with ⟨rfl, _⟩ | ⟨g, cap, cur, rfl, hg, hc, _⟩
  · simp [Value.ownBlock] at hk
  · simp only [Value.ownBlock, Option.some.injEq] at hk
    subst hk
    refine ⟨by omega, ?_⟩
    rcases Nat.lt_or_ge g w.heap.size with k | k
    · exact k
    · simp [Array.getElem?_eq_none k] at hc
/-- copyCheck, of either -/
theorem copyCheck_any (b : Nat) (row : Option Nat) (bs : List Value) (w : World) (h : Bld b row bs w) :
    Calls Tryz.prog 31 #[.pointer (some ⟨b, 0, none⟩)] w fun e w' => e = .returned (.tuple #[]) ∧ KeptBut b none w w' ∧ ∃ v, w'.heap[b]? = some (.cells #[.pointer (some ⟨b, 0, none⟩), v] 50 (0, 0)) ∧ w'.ownsRow (b + 1) 5 1 v bs.length bs ∧ row = v.ownBlock := by
  have hne := h.row_ne
  have hlow := h.low
  obtain ⟨p, v, hp, hb, hown, hrow⟩ := h
  rcases hp with rfl | rfl
  · refine (copyCheck_fresh b w (by simp [World.cell?, hb]) (by simp [World.shape?, hb]) (by simp [World.frozen?, hb])).mono ?_
    rintro e w' ⟨rfl, rfl⟩
    have hoth : ∀ k, k ≠ b → (w.setCell ⟨b, 0, none⟩ (.pointer (some ⟨b, 0, none⟩))).heap[k]? = w.heap[k]? := fun k hk => by
      simp only [World.setCell]
      rw [Array.getElem?_modify]
      rw [if_neg (by omega)]
    refine ⟨rfl, ⟨rfl, rfl, rfl, by simp, fun k _ hk _ => hoth k hk⟩, v, ?_, ?_, hrow⟩
    · simp only [World.setCell]; rw [Array.getElem?_modify, if_pos rfl, hb]; simp
    · refine ⟨hown.1, hown.2.imp id ?_⟩
      rintro ⟨g, cap, cur, hv, hg, hc, hrest⟩
      exact ⟨g, cap, cur, hv, hg, by rw [hoth g (by omega)]; exact hc, hrest⟩
  · refine (copyCheck_used b w (by simp [World.cell?, hb])).mono ?_
    rintro e w' ⟨rfl, rfl⟩
    exact ⟨rfl, KeptBut.refl _ _ _, v, hb, hown, hrow⟩
theorem infoU8 : (Tryz.prog.info? 5).map (fun i => (i.zero, i.size, i.bytes)) = some (some (.int .u8 0), 1, 1) := by kernel_rfl
/-- the builder's second cell is filled anew -/
theorem Bld.put {b : Nat} {v v' : Value} {bs : List Value} {w : World} {row : Option Nat} (hb : w.heap[b]? = some (.cells #[.pointer (some ⟨b, 0, none⟩), v] 50 (0, 0))) (hown : w.ownsRow (b + 1) 5 1 v' bs.length bs) (hrow : row = v'.ownBlock) :
    Bld b row bs (w.setCell ⟨b, 1, none⟩ v') ∧ KeptBut b none w (w.setCell ⟨b, 1, none⟩ v') := by
  have hoth : ∀ k, k ≠ b → (w.setCell ⟨b, 1, none⟩ v').heap[k]? = w.heap[k]? := fun k hk => by
    simp only [World.setCell]
    rw [Array.getElem?_modify]
    rw [if_neg (by omega)]
  refine ⟨⟨_, v', .inr rfl, ?_, ⟨hown.1, hown.2.imp id ?_⟩, hrow⟩, ⟨rfl, rfl, rfl, by simp, fun k _ hk _ => hoth k hk⟩⟩
  · simp only [World.setCell]; rw [Array.getElem?_modify, if_pos rfl, hb]; simp
  · rintro ⟨g, cap, cur, hv, hg, hc, hrest⟩
    exact ⟨g, cap, cur, hv, hg, by rw [hoth g (by omega)]; exact hc, hrest⟩
theorem run_append_str_at (w : World) (base : Nat) (t u ty e : TypeId) (i : TypeInfo) (ht : Tryz.prog.underlying t = some (.slice e)) (hu : Tryz.prog.underlying u = some .string) (hi : Tryz.prog.info? e = some i) (hz : i.zero = some (.int .u8 0))
    (hsize : i.size = 1) (hby : i.bytes = 1) (v : Value) (n : Nat) (xs : List Value) (hown : w.ownsRow base e 1 v n xs) (s : ByteArray)
    (h63 : n + s.size ≤ maxLen) (hbytes : n + s.size ≤ 140737488355328) (hbase : base ≤ w.heap.size) :
    ∃ v' w', (Builtin.append_ #[t, u] ty #[v, .string s]).run Tryz.prog w = .ok v' w' ∧ w'.ownsRow base e 1 v' (n + s.size) (xs ++ Lib.strCells s) ∧ w.grownBy w' v.ownBlock ∧
      (v'.ownBlock = v.ownBlock ∨ v'.ownBlock = some w.heap.size) := by
  obtain ⟨v', w', hr, h2, h3, _⟩ := Lib.run_append_own_string (P := Tryz.prog) w base t u ty e i ht hu hi hz hsize hby v n xs hown s h63 hbytes hbase
  have hat : ∃ v1 w1, (Builtin.append_ #[t, u] ty #[v, .string s]).run Tryz.prog w = .ok v1 w1 ∧ (v1.ownBlock = v.ownBlock ∨ v1.ownBlock = some w.heap.size) := by
    have hsmall : n + s.size ≤ 9223372036854775807 := by simp only [maxLen] at h63; omega
    have hxl : xs.length = n := by simpa using hown.1
    rcases hown.2 with ⟨rfl, rfl⟩ | ⟨g, cap, cur, rfl, hbg, hg, hnc, hcm, hcs, htake⟩
    · by_cases hm : s.size = 0
      · have hf := Lib.run_firstCells_string (P := Tryz.prog) w 1 s
        rw [hm] at hf
        exact ⟨.slice none 0 0, w, by simp [Builtin.append_, run_underlying ht, run_underlying hu, sizeOf, typeInfo, hi, hsize, Builtin.lenOf, hm, hf], .inl rfl⟩
      · exact ⟨_, _, run_append_nil_string (P := Tryz.prog) w t u ty e i (.int .u8 0) ht hu hi hz s (by omega) (by omega) (by rw [hby]; omega), .inr rfl⟩
    · by_cases hroom : n + s.size ≤ cap
      · have hcs' : cur.size = cap := by simpa using hcs
        exact ⟨_, _, Lib.run_append_room_string (P := Tryz.prog) w t u ty e i ht hu hi hsize g n cap cur hg s hroom (by omega), .inl rfl⟩
      · have holds : ∀ j u, xs[j]? = some u → w.cell? ((⟨g, 0, none⟩ : Addr).add j) = some u := World.ownsRow.cells hown (g := g) rfl
        exact ⟨_, _, Lib.run_append_grow_string (P := Tryz.prog) w t u ty e i (.int .u8 0) ht hu hi hz ⟨g, 0, none⟩ n cap xs (by rw [hsize]; simpa using hxl) holds s (by omega) (by omega) (by rw [hby]; exact growslice_fits (by omega) (by omega)), .inr rfl⟩
  obtain ⟨v1, w1, hr1, hat⟩ := hat
  rw [hr] at hr1
  injection hr1 with e1 e2
  subst e1
  exact ⟨v', w', hr, h2, h3, hat⟩
theorem append_str_at {w : World} {ops : Array Oper} {rest : List Oper} {o : Oper} {a : Act} {Q : Exit → Act → World → Prop} (hgd : o.guard = none) (sl x : Operand) (t u : TypeId)
    (ho : o.op = .call { callee := .builtin .append, args := #[sl, x], argTypes := #[t, u] })
    (base : Nat) (e : TypeId) (i : TypeInfo) (ht : Tryz.prog.underlying t = some (.slice e)) (hu : Tryz.prog.underlying u = some .string) (hi : Tryz.prog.info? e = some i) (hz : i.zero = some (.int .u8 0))
    (hsize : i.size = 1) (hby : i.bytes = 1) (v : Value) (n : Nat) (xs : List Value) (hs : a.eval sl = v) (hown : w.ownsRow base e 1 v n xs) (s : ByteArray) (hx : a.eval x = .string s)
    (h63 : n + s.size ≤ maxLen) (hbytes : n + s.size ≤ 140737488355328) (hbase : base ≤ w.heap.size)
    (h : ∀ v' w', w'.ownsRow base e 1 v' (n + s.size) (xs ++ Lib.strCells s) → w.grownBy w' v.ownBlock → (v'.ownBlock = v.ownBlock ∨ v'.ownBlock = some w.heap.size) → wpList Tryz.prog ops Q rest (a.put o.dst v') w') : wpList Tryz.prog ops Q (o :: rest) a w := by
  refine wpList_plain hgd fun K hK => ?_
  obtain ⟨v', w', hr, h2, h3, h4⟩ := run_append_str_at w base t u o.type e i ht hu hi hz hsize hby v n xs hown s h63 hbytes hbase
  unfold Oper.wp execOp
  simp only [ho, resolve, invoke, builtin, Sem.run_bind, Sem.run_pure, Result.andThen_ok, List.map_toArray, List.map_cons, List.map_nil, hs, hx, hr]
  exact hK _ _ (h v' w' h2 h3 h4)
/-- what a writer leaves -/
def Wrote (b : Nat) (row : Option Nat) (bs : List Value) (w w' : World) : Prop :=
  ∃ row', Bld b row' bs w' ∧ KeptBut b row w w' ∧ (row' = row ∨ ∃ k, w.heap.size ≤ k ∧ row' = some k)
theorem kept_none {b : Nat} {row : Option Nat} {w w' : World} (h : KeptBut b none w w') : KeptBut b row w w' := ⟨h.os, h.tape, h.output, h.size, fun k h1 h2 _ => h.block k h1 h2 (by simp)⟩
theorem kept_grown {b : Nat} {row : Option Nat} {w w' : World} (h : w.grownBy w' row) : KeptBut b row w w' := ⟨h.os, h.tape, h.output, h.size, fun k h1 _ h3 => h.block k h1 h3⟩
theorem kept_alloc (b : Nat) (row : Option Nat) (w : World) (o : Obj) : KeptBut b row w (w.alloc o) := ⟨rfl, rfl, rfl, by simp, fun k h1 _ _ => Below.heap_alloc w o k h1⟩
set_option maxRecDepth 100000 in
set_option maxHeartbeats 1000000 in
theorem writeByte_any (b : Nat) (row : Option Nat) (bs : List Value) (c : Int) (w : World) (h : Bld b row bs w) (hlen : bs.length + 1 ≤ 140737488355328) :
    Calls Tryz.prog 64 #[.pointer (some ⟨b, 0, none⟩), .int .u8 c] w fun e w' => e = .returned .nilIface ∧ Wrote b row (bs ++ [.int .u8 c]) w w' := by
  obtain ⟨i0, hi, hz0, hz1, hz2⟩ := info_parts infoU8
  go_enter Tryz.func64, Tryz.ntmps64
  go_wp2_with (go_at_call 31; refine (copyCheck_any b row bs _ h).mono ?_)
  rintro e w1 ⟨rfl, hk1, v, hbk, hown, hrow⟩
  have c0 : w1.cell? ⟨b, 0, none⟩ = some (.pointer (some ⟨b, 0, none⟩)) := by rw [Lib.cell_of_heap hbk]; rfl
  have c1 : w1.cell? ⟨b, 1, none⟩ = some v := by rw [Lib.cell_of_heap hbk]; rfl
  have hlow := h.low
  go_wp2_with (at_builtin; go_loud (refine wpList_append_own_at _ rfl _ _ 46 rfl (b + 1) 5 i0 (.int .u8 0) 1 1 Tryz.underlying46 hi hz0 hz1 hz2 rfl (by decide) _ _ _ rfl (hown.alloc _) ⟨w1.heap.size, 0, none⟩ 1 1 [.int .u8 c] rfl rfl ?c1 ?c2 ?c3 ?c4 ?c5 ?_))
  case c1 =>
    intro j u hj
    match j, hj with
    | 0, hj => simp at hj; subst hj; simp [Addr.add]
  case c2 => intro u hu; simp at hu; subst hu; rfl
  case c3 => unfold maxLen; omega
  case c4 => omega
  case c5 => have := hk1.size; simp; omega
  intro v' w2 hown' hgrow _ hat
  have hlt : b < w1.heap.size := Nat.lt_of_lt_of_le hlow hk1.size
  have hne : v.ownBlock ≠ some b := by
    rcases hown.2 with ⟨rfl, _⟩ | ⟨g, cap, cur, rfl, hg, _⟩
    · simp [Value.ownBlock]
    · simp only [Value.ownBlock, ne_eq, Option.some.injEq]; omega
  have hb2 : w2.heap[b]? = some (.cells #[.pointer (some ⟨b, 0, none⟩), v] 50 (0, 0)) := by
    rw [hgrow.block b (by simp; omega) (fun e => hne e.symm), Below.heap_alloc _ _ _ hlt]
    exact hbk
  have d0 : w2.cell? ⟨b, 0, none⟩ = some (.pointer (some ⟨b, 0, none⟩)) := by rw [Lib.cell_of_heap hb2]; rfl
  have d1 : w2.cell? ⟨b, 1, none⟩ = some v := by rw [Lib.cell_of_heap hb2]; rfl
  have f1 : w2.frozen? ⟨b, 1, none⟩ = false := Lib.frozen_of_heap hb2 1
  obtain ⟨ao, n', cap, rfl⟩ : ∃ ao n' cap, v' = .slice ao n' cap := by
    rcases hown'.2 with ⟨hv, _⟩ | ⟨g, cap, cur, hv, _⟩
    · exact ⟨_, _, _, hv⟩
    · exact ⟨_, _, _, hv⟩
  have hput := Bld.put (row := (Value.slice ao n' cap).ownBlock) (bs := bs ++ [.int .u8 c]) hb2 (by simpa using hown') rfl
  have hkall : KeptBut b row w (w2.setCell ⟨b, 1, none⟩ (.slice ao n' cap)) := (kept_none hk1).trans ((kept_alloc b row w1 _).trans (KeptBut.trans (by rw [hrow]; exact kept_grown hgrow) (kept_none hput.2)))
  have hrow' : (Value.slice ao n' cap).ownBlock = row ∨ ∃ k, w.heap.size ≤ k ∧ (Value.slice ao n' cap).ownBlock = some k := by
    rcases hat with h | h
    · exact .inl (by rw [hrow]; exact h)
    · exact .inr ⟨_, by have := hk1.size; simp; omega, h⟩
  have hfin : Wrote b row (bs ++ [.int .u8 c]) w (w2.setCell ⟨b, 1, none⟩ (.slice ao n' cap)) := ⟨_, hput.1, hkall, hrow'⟩
  clear hput hkall hrow' hat hrow hown' hgrow
  go_wp2
  go_ret
  exact ⟨rfl, hfin⟩
set_option maxRecDepth 100000 in
set_option maxHeartbeats 1000000 in
theorem writeString_any (b : Nat) (row : Option Nat) (bs : List Value) (s : ByteArray) (w : World) (h : Bld b row bs w) (hlen : bs.length + s.size ≤ 140737488355328) :
    Calls Tryz.prog 17 #[.pointer (some ⟨b, 0, none⟩), .string s] w fun e w' => e = .returned (.tuple #[.int .i64 s.size, .nilIface]) ∧ Wrote b row (bs ++ Lib.strCells s) w w' := by
  obtain ⟨i0, hi, hz0, hz1, hz2⟩ := info_parts infoU8
  go_enter Tryz.func17, Tryz.ntmps17
  go_wp2_with (go_at_call 31; refine (copyCheck_any b row bs _ h).mono ?_)
  rintro e w1 ⟨rfl, hk1, v, hbk, hown, hrow⟩
  have c0 : w1.cell? ⟨b, 0, none⟩ = some (.pointer (some ⟨b, 0, none⟩)) := by rw [Lib.cell_of_heap hbk]; rfl
  have c1 : w1.cell? ⟨b, 1, none⟩ = some v := by rw [Lib.cell_of_heap hbk]; rfl
  have hlow := h.low
  go_wp2_with (at_builtin; refine append_str_at rfl _ _ 46 9 rfl (b + 1) 5 i0 Tryz.underlying46 Tryz.underlying9 hi hz0 hz1 hz2 _ _ _ rfl hown s rfl ?c3 ?c4 ?c5 ?_)
  case c3 => unfold maxLen; omega
  case c4 => omega
  case c5 => have := hk1.size; omega
  intro v' w2 hown' hgrow hat
  have hlt : b < w1.heap.size := Nat.lt_of_lt_of_le hlow hk1.size
  have hne : v.ownBlock ≠ some b := by
    rcases hown.2 with ⟨rfl, _⟩ | ⟨g, cap, cur, rfl, hg, _⟩
    · simp [Value.ownBlock]
    · simp only [Value.ownBlock, ne_eq, Option.some.injEq]; omega
  have hb2 : w2.heap[b]? = some (.cells #[.pointer (some ⟨b, 0, none⟩), v] 50 (0, 0)) := by
    rw [hgrow.block b hlt (fun e => hne e.symm)]
    exact hbk
  have d0 : w2.cell? ⟨b, 0, none⟩ = some (.pointer (some ⟨b, 0, none⟩)) := by rw [Lib.cell_of_heap hb2]; rfl
  have d1 : w2.cell? ⟨b, 1, none⟩ = some v := by rw [Lib.cell_of_heap hb2]; rfl
  have f1 : w2.frozen? ⟨b, 1, none⟩ = false := Lib.frozen_of_heap hb2 1
  obtain ⟨ao, n', cap, rfl⟩ : ∃ ao n' cap, v' = .slice ao n' cap := by
    rcases hown'.2 with ⟨hv, _⟩ | ⟨g, cap, cur, hv, _⟩
    · exact ⟨_, _, _, hv⟩
    · exact ⟨_, _, _, hv⟩
  have hput := Bld.put (row := (Value.slice ao n' cap).ownBlock) (bs := bs ++ Lib.strCells s) hb2 (by simpa [Lib.strCells_length] using hown') rfl
  have hkall : KeptBut b row w (w2.setCell ⟨b, 1, none⟩ (.slice ao n' cap)) := (kept_none hk1).trans (KeptBut.trans (by rw [hrow]; exact kept_grown hgrow) (kept_none hput.2))
  have hrow' : (Value.slice ao n' cap).ownBlock = row ∨ ∃ k, w.heap.size ≤ k ∧ (Value.slice ao n' cap).ownBlock = some k := by
    rcases hat with h | h
    · exact .inl (by rw [hrow]; exact h)
    · exact .inr ⟨_, by have := hk1.size; omega, h⟩
  have hfin : Wrote b row (bs ++ Lib.strCells s) w (w2.setCell ⟨b, 1, none⟩ (.slice ao n' cap)) := ⟨_, hput.1, hkall, hrow'⟩
  clear hput hkall hrow' hat hrow hown' hgrow
  go_wp2
  go_ret2
  exact ⟨rfl, hfin⟩
end Go.Proofs.YtoaeejeimcahhaaGreatDoor
end
