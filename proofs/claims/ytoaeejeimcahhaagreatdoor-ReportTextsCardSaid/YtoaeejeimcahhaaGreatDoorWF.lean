/- What the laws' inner function edits answers for any row. -/
import Derived.Test.YtoaeejeimcahhaaGreatDoorWE
import Derived.RegionTactic
import Derived.ChangeAlike
section
set_option linter.unusedVariables false
namespace Go.Proofs.YtoaeejeimcahhaaGreatDoor
open Go.Shelf Go.RowKit
def flatE (ys : List Ed) : List Value := ys.flatMap fun y => y.cells.toList
theorem flatE_len (ys : List Ed) : (flatE ys).length = ys.length * 7 := by
  induction ys with
  | nil => rfl
  | cons y ys ih =>
    have : flatE (y :: ys) = y.cells.toList ++ flatE ys := by simp [flatE]
    rw [this, List.length_append, ih, List.length_cons]
    have : y.cells.toList.length = 7 := rfl
    omega
theorem flatE_snoc (ys : List Ed) (y : Ed) : flatE (ys ++ [y]) = flatE ys ++ y.cells.toList := by simp [flatE]
/-- a row of edits of the call's own -/
structure OwnE (e : TypeId) (base : Nat) (v : Value) (ys : List Ed) (w : World) : Prop where
  own : w.ownsRow base e 7 v ys.length (flatE ys)
theorem OwnE.alloc {e : TypeId} {base : Nat} {v : Value} {ys : List Ed} {w : World} (h : OwnE e base v ys w) (o : Obj) : OwnE e base v ys (w.alloc o) := ⟨h.own.alloc o⟩
theorem OwnE.drew {e : TypeId} {base : Nat} {v : Value} {ys : List Ed} {w : World} (h : OwnE e base v ys w) : OwnE e base v ys w.drew := ⟨h.own⟩
theorem OwnE.lt {e : TypeId} {base : Nat} {v : Value} {ys : List Ed} {w : World} (h : OwnE e base v ys w) {g : Nat} (hg : v.ownBlock = some g) : base ≤ g ∧ g < w.heap.size := h.own.lt g hg
theorem OwnE.other {e : TypeId} {base : Nat} {v : Value} {ys : List Ed} {w w' : World} {row : Option Nat} (h : OwnE e base v ys w) (hg : w.grownBy w' row) (hne : ∀ g, v.ownBlock = some g → row ≠ some g) : OwnE e base v ys w' := by
  have hl := fun g (hg : v.ownBlock = some g) => h.lt hg
  refine ⟨⟨h.own.1, h.own.2.imp id fun ⟨g, cap, cur, h1, h2, h3, h4⟩ => ⟨g, cap, cur, h1, h2, ?_, h4⟩⟩⟩
  have hb : v.ownBlock = some g := by rw [h1]; rfl
  rw [hg.block g (hl g hb).2 (fun e => hne g hb e.symm)]; exact h3
theorem info28 : (Tryz.prog.info? 28).map (fun i => (i.zero, i.size, i.bytes)) = some (some (.agg #[.int .i64 0, .int .i64 0, .int .i64 0, .int .i64 0, .int .i64 0, .string ⟨#[]⟩, .string ⟨#[]⟩]), 7, 72) := by kernel_rfl
theorem info37 : (Tryz.prog.info? 37).map (fun i => (i.zero, i.size, i.bytes)) = some (some (.agg #[.int .i64 0, .int .i64 0, .int .i64 0, .int .i64 0, .int .i64 0, .string ⟨#[]⟩, .string ⟨#[]⟩]), 7, 72) := by kernel_rfl
theorem app_eds {w : World} {ops : Array Oper} {rest : List Oper} {o : Oper} {a : Act} {Q : Exit → Act → World → Prop} (hgd : o.guard = none) (s x : Operand) (t e : TypeId) (ht : Tryz.prog.underlying t = some (.slice e))
    (hin : (Tryz.prog.info? e).map (fun i => (i.zero, i.size, i.bytes)) = some (some (.agg #[.int .i64 0, .int .i64 0, .int .i64 0, .int .i64 0, .int .i64 0, .string ⟨#[]⟩, .string ⟨#[]⟩]), 7, 72))
    (ho : o.op = .call { callee := .builtin .append, args := #[s, x], argTypes := #[t, t] }) (base : Nat) (v : Value) (ys : List Ed) (hs : a.eval s = v) (hown : OwnE e base v ys w)
    (ad : Addr) (c : Nat) (y : Ed) (hx : a.eval x = .slice (some ad) 1 c) (hnews : ∀ (j : Nat) (u : Value), y.cells.toList[j]? = some u → w.cell? (ad.add j) = some u) (hlen : ys.length ≤ 1000) (hbase : base ≤ w.heap.size)
    (h : ∀ v' w', OwnE e base v' (ys ++ [y]) w' → w.grownBy w' v.ownBlock → (v'.ownBlock = v.ownBlock ∨ v'.ownBlock = some w.heap.size) → wpList Tryz.prog ops Q rest (a.put o.dst v') w') : wpList Tryz.prog ops Q (o :: rest) a w := by
  obtain ⟨i0, hi, hz0, hz1, hz2⟩ := info_parts hin
  refine wpList_append_own_at _ hgd _ _ t ho base e i0 _ 7 72 ht hi hz0 hz1 hz2 rfl (by decide) v ys.length (flatE ys) hs hown.own ad 1 c y.cells.toList hx rfl hnews (fun u hu => ?_) (by unfold maxLen; omega) (by omega) hbase fun v' w' h1 h2 _ h4 => h v' w' ⟨?_⟩ h2 h4
  · simp only [Ed.cells, ecells, List.mem_cons, List.not_mem_nil, or_false] at hu
    rcases hu with rfl | rfl | rfl | rfl | rfl | rfl | rfl <;> rfl
  · rw [flatE_snoc, List.length_append]; exact h1
def cutS (s : ByteArray) : ByteArray := s.extract 0 (min (s.size : Int) 200).toNat
def cutE (x : Ed) : Ed := ⟨x.f0, x.f1, x.f2, x.f3, x.f4, cutS x.f5, cutS x.f6⟩
def cutT (xs : List Ed) (k : Nat) : List Ed := (xs.take k).map cutE
theorem cutT_len (xs : List Ed) (k : Nat) : (cutT xs k).length ≤ k := by unfold cutT; rw [List.length_map]; exact List.length_take_le _ _
/-- both rows -/
structure EI (w : World) (xs : List Ed) (k : Nat) (p q : Value) (wr : World) : Prop where
  pe : OwnE 37 w.heap.size p (cutT xs k) wr
  qe : OwnE 28 w.heap.size q (cutT xs k) wr
  ne : ∀ g, p.ownBlock = some g → q.ownBlock ≠ some g
  below : Below w.heap.size w wr
theorem take_cut (xs : List Ed) (k : Nat) (hk : k < xs.length) (x : Ed) (hx : x = xs.getD k Ed.z) : cutT xs (k + 1) = cutT xs k ++ [cutE x] := by
  have hg : xs[k] = x := by rw [hx, List.getD_eq_getElem?_getD, List.getElem?_eq_getElem hk]; rfl
  unfold cutT
  rw [List.take_succ_eq_append_getElem hk, List.map_append, hg]; rfl
theorem ed_cells (w : World) (b : Nat) (e : TypeId) (y : Ed) (h : w.heap[b]? = some (.cells y.cells e (0, 0))) : ∀ (j : Nat) (u : Value), y.cells.toList[j]? = some u → w.cell? ((⟨b, 0, none⟩ : Addr).add j) = some u := fun j u hj => by
  rw [addr_add0]
  simp only [World.cell?, h]
  simpa using hj
theorem EI.pe2 {w : World} {xs : List Ed} {k : Nat} {p q : Value} {wr : World} (h : EI w xs k p q wr) (A B : Obj) {w2 : World} (hg2 : (((wr.alloc A).alloc B).drew).grownBy w2 q.ownBlock) : OwnE 37 w.heap.size p (cutT xs k) w2 :=
  ((h.pe.alloc A).alloc B).drew.other hg2 h.ne
theorem EI.step {w : World} {xs : List Ed} {k : Nat} {p q : Value} {wr : World} (h : EI w xs k p q wr) (hk : k < xs.length) {x : Ed} (hx : x = xs.getD k Ed.z) {y : Ed} (hy : cutE x = y) (A B C : Obj) {q' p' : Value} {w2 w3 : World}
    (hq : OwnE 28 w.heap.size q' (cutT xs k ++ [y]) w2) (hg2 : (((wr.alloc A).alloc B).drew).grownBy w2 q.ownBlock) (hat2 : q'.ownBlock = q.ownBlock ∨ (∃ m, wr.heap.size + 2 ≤ m ∧ q'.ownBlock = some m))
    (hp : OwnE 37 w.heap.size p' (cutT xs k ++ [y]) w3) (hg3 : (w2.alloc C).grownBy w3 p.ownBlock) (hat3 : p'.ownBlock = p.ownBlock ∨ (∃ m, w2.heap.size + 1 ≤ m ∧ p'.ownBlock = some m)) : EI w xs (k + 1) p' q' w3 := by
  have hz : (((wr.alloc A).alloc B).drew).heap.size = wr.heap.size + 2 := by simp
  have hz2 : (w2.alloc C).heap.size = w2.heap.size + 1 := by simp
  have h2 := hg2.size
  have hpq : ∀ g, p.ownBlock = some g → q'.ownBlock ≠ some g := fun g hg e => by
    rcases hat2 with k | ⟨m, hm, k⟩
    · rw [k] at e; exact h.ne g hg e
    · rw [k] at e
      have h1 := (h.pe.lt hg).2
      have h3 := Option.some.inj e
      omega
  refine ⟨by rw [take_cut xs k hk x hx, hy]; exact hp, by rw [take_cut xs k hk x hx, hy]; exact (hq.alloc C).other hg3 fun g hg e => hpq g e hg, fun g hg e => ?_, ?_⟩
  · rcases hat3 with k | ⟨m, hm, k⟩
    · rw [k] at hg; exact hpq g hg e
    · rw [k] at hg
      have h1 := (hq.lt e).2
      have h3 := Option.some.inj hg
      omega
  · have b1 := ((h.below.alloc h.below.size A).alloc (by have := h.below.size; simp; omega) B).drew
    have b2 := Below.grown b1 hg2 (by have := h.below.size; omega) (fun g hg => (h.qe.lt hg).1)
    exact Below.grown (b2.alloc (by have := h.below.size; omega) C) hg3 (by have := h.below.size; omega) (fun g hg => (h.pe.lt hg).1)
theorem box_kept {w : World} {xs : List Ed} {k : Nat} {p q : Value} {wr : World} (h : EI w xs k p q wr) (A B : Obj) {w2 : World} (hg2 : (((wr.alloc A).alloc B).drew).grownBy w2 q.ownBlock) : w2.heap[wr.heap.size]? = some A := by
  rw [hg2.block wr.heap.size (by simp; omega) (fun e => by have := (h.qe.lt e.symm).2; omega)]
  have h1 : (((wr.alloc A).alloc B).drew).heap[wr.heap.size]? = ((wr.alloc A).alloc B).heap[wr.heap.size]? := rfl
  rw [h1, Below.heap_alloc (wr.alloc A) B wr.heap.size (by simp)]
  exact heap_alloc_new _ _
theorem new2 (wr : World) (A : Obj) (y : Ed) (e : TypeId) : ∀ (j : Nat) (u : Value), y.cells.toList[j]? = some u → (((wr.alloc A).alloc (.cells y.cells e)).drew).cell? ((⟨wr.heap.size + 1, 0, none⟩ : Addr).add j) = some u := by
  refine ed_cells _ (wr.heap.size + 1) e y ?_
  have h1 : (((wr.alloc A).alloc (.cells y.cells e)).drew).heap[wr.heap.size + 1]? = ((wr.alloc A).alloc (.cells y.cells e)).heap[wr.heap.size + 1]? := rfl
  have h2 : (wr.alloc A).heap.size = wr.heap.size + 1 := by simp
  rw [h1, ← h2]
  exact heap_alloc_new _ _
theorem new1 (w : World) (y : Ed) (e : TypeId) : ∀ (j : Nat) (u : Value), y.cells.toList[j]? = some u → (w.alloc (.cells y.cells e)).cell? ((⟨w.heap.size, 0, none⟩ : Addr).add j) = some u :=
  ed_cells _ w.heap.size e y (heap_alloc_new _ _)
def EdPost (w : World) (xs : List Ed) (n : Nat) (e : Ending) (w' : World) : Prop := ∃ p q, e = .returned (.tuple #[p, q]) ∧ EI w xs (min n 60) p q w'
set_option maxRecDepth 100000 in
set_option maxHeartbeats 4000000 in
theorem edits_any (a : Addr) (n cap : Nat) (xs : List Ed) (hn : xs.length = n) (w : World) (h : EdsAt w a xs) (hcap : n ≤ cap) (hmax : n ≤ 9223372036854775807) :
    Calls Tryz.prog 7 #[.slice (some a) n cap] w (EdPost w xs n) := by
  have HN := Lib.hid hn
  clear hn
  have HE := Lib.hid h
  clear h
  have hi0 : EI w xs 0 (.slice none 0 0) (.slice none 0 0) w := ⟨⟨⟨rfl, .inl ⟨rfl, rfl⟩⟩⟩, ⟨⟨rfl, .inl ⟨rfl, rfl⟩⟩⟩, fun g hg => (by cases hg), Below.refl _ _⟩
  have HI0 := Lib.hid hi0
  clear hi0
  go_enter Tryz.func7, Tryz.ntmps7
  go_wp2_with fail
  go_loopw [4, 5, 6] (fun p q i wr => ∃ k : Nat, k ≤ n ∧ k ≤ 60 ∧ i = .int .i64 k ∧ EI w xs k p q wr) (fun _ _ i _ => n - (intOf i).toNat)
  case atStart => exact ⟨0, Nat.zero_le _, Nat.zero_le _, rfl, HI0.out⟩
  case round =>
    obtain ⟨k, hk, hk2, rfl, hi⟩ := hrel
    have HI := Lib.hid hi
    clear hi
    by_cases hlt : k < n
    · by_cases h60 : k < 60
      · obtain ⟨x, hx⟩ : ∃ x, x = xs.getD k Ed.z := ⟨_, rfl⟩
        have HX := Lib.hid hx
        clear hx
        obtain ⟨d0, d1, d2, d3, d4, d5, d6⟩ := (HE.out.below HI.out.below).at (k := k) (by rw [HN.out]; exact hlt) HX.out
        obtain ⟨g0, g1, g2, g3, g4, g5, g6⟩ := x
        simp only at d0 d1 d2 d3 d4 d5 d6
        go_wp2_with fail
        have m5 : 0 ≤ min (g5.size : Int) 200 := by omega
        have m6 : 0 ≤ min (g6.size : Int) 200 := by omega
        have q5 : min (g5.size : Int) 200 ≤ g5.size := by omega
        have q6 : min (g6.size : Int) 200 ≤ g6.size := by omega
        go_region
        obtain ⟨c5, hc5⟩ : ∃ c5, c5 = g5.extract 0 (min (g5.size : Int) 200).toNat := ⟨_, rfl⟩
        obtain ⟨c6, hc6⟩ : ∃ c6, c6 = g6.extract 0 (min (g6.size : Int) 200).toNat := ⟨_, rfl⟩
        rw [← hc5, ← hc6]
        have HY := Lib.hid (show cutE ⟨g0, g1, g2, g3, g4, g5, g6⟩ = ⟨g0, g1, g2, g3, g4, c5, c6⟩ by rw [hc5, hc6]; rfl)
        clear hc5 hc6 m5 m6 q5 q6 d0 d1 d2 d3 d4 d5 d6
        have hbw : w.heap.size ≤ wr.heap.size := HI.out.below.size
        go_wp2_with (at_builtin; refine app_eds rfl _ _ 22 28 Tryz.underlying22 info28 rfl w.heap.size _ _ rfl ((HI.out.qe.alloc _).alloc _).drew ⟨wr.heap.size + 1, 0, none⟩ 1 ⟨g0, g1, g2, g3, g4, c5, c6⟩ rfl ?c1 ?c2 ?c3 ?_)
        case c1 => exact new2 wr _ ⟨g0, g1, g2, g3, g4, c5, c6⟩ 28
        case c2 => have := cutT_len xs k; omega
        case c3 => simp; omega
        intro q' w2 hq' hg2 hat
        have hbox : w2.heap[wr.heap.size]? = some (.cells (Ed.cells ⟨g0, g1, g2, g3, g4, c5, c6⟩) 28 (0, 0)) := box_kept HI.out _ _ hg2
        have e0 : w2.cell? ⟨wr.heap.size, 0, none⟩ = some (.int .i64 g0) := by simp only [World.cell?, hbox]; rfl
        have e1 : w2.cell? ⟨wr.heap.size, 1, none⟩ = some (.int .i64 g1) := by simp only [World.cell?, hbox]; rfl
        have e2 : w2.cell? ⟨wr.heap.size, 2, none⟩ = some (.int .i64 g2) := by simp only [World.cell?, hbox]; rfl
        have e3 : w2.cell? ⟨wr.heap.size, 3, none⟩ = some (.int .i64 g3) := by simp only [World.cell?, hbox]; rfl
        have e4 : w2.cell? ⟨wr.heap.size, 4, none⟩ = some (.int .i64 g4) := by simp only [World.cell?, hbox]; rfl
        have e5 : w2.cell? ⟨wr.heap.size, 5, none⟩ = some (.string c5) := by simp only [World.cell?, hbox]; rfl
        have e6 : w2.cell? ⟨wr.heap.size, 6, none⟩ = some (.string c6) := by simp only [World.cell?, hbox]; rfl
        have HQ2 := Lib.hid hq'
        have HG2 := Lib.hid hg2
        have HA2 := Lib.hid hat
        clear hbox hq' hat
        have hw2 : w.heap.size ≤ w2.heap.size := by have := hg2.size; simp at this; omega
        clear hg2
        go_wp2_with (at_builtin; refine app_eds rfl _ _ 23 37 Tryz.underlying23 info37 rfl w.heap.size _ _ rfl ((HI.out.pe2 _ _ HG2.out).alloc _) ⟨w2.heap.size, 0, none⟩ 1 ⟨g0, g1, g2, g3, g4, c5, c6⟩ rfl ?c1 ?c2 ?c3 ?_)
        case c1 => exact new1 w2 ⟨g0, g1, g2, g3, g4, c5, c6⟩ 37
        case c2 => have := cutT_len xs k; omega
        case c3 => simp; omega
        intro p' w3 hp' hg3 hat3
        have HI3 := Lib.hid (HI.out.step (by rw [HN.out]; exact hlt) HX.out HY.out _ _ _ HQ2.out HG2.out (HA2.out.imp id fun h => ⟨_, by simp, h⟩) hp' hg3 (hat3.imp id fun h => ⟨_, by simp, h⟩))
        clear hp' hg3 hat3 e0 e1 e2 e3 e4 e5 e6
        go_wp2_with fail
        go_roundw
        case rel => exact ⟨k + 1, by omega, by omega, by go_num, HI3.out⟩
        case measure => simp [intOf]; omega
      · have h60' : ¬ ((k : Int) < 60) := by omega
        go_wp2_with fail
        go_ret2
        have hm : min n 60 = k := by omega
        exact ⟨_, _, rfl, by rw [hm]; exact HI.out⟩
    · go_wp2_with fail
      go_ret2
      have hm : min n 60 = k := by omega
      exact ⟨_, _, rfl, by rw [hm]; exact HI.out⟩
set_option maxRecDepth 100000 in
set_option maxHeartbeats 4000000 in
theorem edits_nil (w : World) : Calls Tryz.prog 7 #[.slice none 0 0] w (EdPost w [] 0) := by
  have hi0 : EI w [] 0 (.slice none 0 0) (.slice none 0 0) w := ⟨⟨⟨rfl, .inl ⟨rfl, rfl⟩⟩⟩, ⟨⟨rfl, .inl ⟨rfl, rfl⟩⟩⟩, fun g hg => (by cases hg), Below.refl _ _⟩
  have HI0 := Lib.hid hi0
  clear hi0
  go_enter Tryz.func7, Tryz.ntmps7
  go_wp2_with fail
  go_loopw [4, 5, 6] (fun p q i wr => i = .int .i64 0 ∧ EI w [] 0 p q wr) (fun _ _ i _ => 0)
  case atStart => exact ⟨rfl, HI0.out⟩
  case round =>
    obtain ⟨rfl, hi⟩ := hrel
    have HI := Lib.hid hi
    clear hi
    go_wp2_with fail
    go_ret2
    exact ⟨_, _, rfl, HI.out⟩
theorem OwnE.sl {e : TypeId} {base : Nat} {v : Value} {ys : List Ed} {w : World} (h : OwnE e base v ys w) : EdSl w v ys := by
  have hc := h.own
  rcases hc.2 with ⟨rfl, h0⟩ | ⟨g, cap, cur, rfl, h1, h2, h3⟩
  · exact .inl ⟨rfl, List.eq_nil_of_length_eq_zero h0⟩
  · refine .inr ⟨⟨g, 0, none⟩, cap, rfl, ?_, fun i hi j v hv => ?_⟩
    · intro _
      show g < w.heap.size
      rcases Nat.lt_or_ge g w.heap.size with k | k
      · exact k
      · rw [Array.getElem?_eq_none k] at h2; cases h2
    · refine World.ownsRow.cells hc (g := g) rfl (i * 7 + j) v ?_
      have hj : j < 7 := by
        have := (Array.getElem?_eq_some_iff.1 hv).1
        exact this
      have key : ∀ (ys : List Ed) (i : Nat), i < ys.length → (flatE ys)[i * 7 + j]? = (ys.getD i Ed.z).cells[j]? := by
        intro ys
        induction ys with
        | nil => intro i hi; simp at hi
        | cons y ys ih =>
          intro i hi
          have e1 : flatE (y :: ys) = y.cells.toList ++ flatE ys := by simp [flatE]
          have e2 : y.cells.toList.length = 7 := rfl
          rw [e1]
          cases i with
          | zero => rw [List.getElem?_append_left (by omega)]; simp
          | succ i =>
            rw [List.getElem?_append_right (by omega), e2, show (i + 1) * 7 + j - 7 = i * 7 + j by omega, ih i (by simpa using hi)]
            simp
      rw [key ys i hi]; exact hv
/-- scarflaw21.edits -/
theorem edits_sl {w : World} {v : Value} {xs : List Ed} (h : EdSl w v xs) (hcap : ∀ a cap, v = .slice (some a) xs.length cap → xs.length ≤ cap) (hmax : xs.length ≤ 9223372036854775807) :
    Calls Tryz.prog 7 #[v] w fun e w' => ∃ p q, e = .returned (.tuple #[p, q]) ∧ EdSl w' p (cutT xs 60) ∧ EdSl w' q (cutT xs 60) ∧ Below w.heap.size w w' := by
  have key : ∀ n, xs.length = n → cutT xs (min n 60) = cutT xs 60 := fun n hn => by
    unfold cutT
    by_cases h : n ≤ 60
    · rw [Nat.min_eq_left h, List.take_of_length_le (by omega), List.take_of_length_le (by omega)]
    · rw [Nat.min_eq_right (by omega)]
  rcases h with ⟨rfl, rfl⟩ | ⟨a, cap, rfl, h⟩
  · refine (edits_nil w).mono fun e w' ⟨p, q, he, hi⟩ => ⟨p, q, he, ?_, ?_, hi.below⟩
    · have := hi.pe.sl; rwa [key 0 rfl] at this
    · have := hi.qe.sl; rwa [key 0 rfl] at this
  · refine (edits_any a _ cap xs rfl w h (hcap a cap rfl) hmax).mono fun e w' ⟨p, q, he, hi⟩ => ⟨p, q, he, ?_, ?_, hi.below⟩
    · have := hi.pe.sl; rwa [key _ rfl] at this
    · have := hi.qe.sl; rwa [key _ rfl] at this
end Go.Proofs.YtoaeejeimcahhaaGreatDoor
end
