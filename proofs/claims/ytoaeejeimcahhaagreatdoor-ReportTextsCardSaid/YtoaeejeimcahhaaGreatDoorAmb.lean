/- The machine for closed calls, second part: the remaining operations and whole runs. -/
import Derived.Test.YtoaeejeimcahhaaGreatDoorAma
import Derived.Lib.UnsafeStr
import Derived.Scope
import Derived.Recover
import Derived.Lib.Bytealg
section
set_option linter.unusedVariables false
set_option linter.unusedSimpArgs false
namespace Go.AM
open Go.RowKit
section
variable {P : Program} {dst : Option Tmp} {ty : TypeId} {pos : String} {after : Array Edge} {guard : Option (Nat × Bool)} {ρ : Env} {H H' : Heap} {v : Value}
variable {B : Nat} {w0 w : World} {G : Mem} {γ : Gm}

theorem Rel.heap {w' : World} (R : Rel B w0 G γ w) (hh : w'.heap = w.heap) (hb : Below B w w') : Rel B w0 G γ w' :=
  ⟨fun b x hx h0 => (R.blk b x hx h0).kept (GSub.refl γ) (fun _ => rfl) (fun _ _ _ => by rw [hh]), fun b g k hk => by
    obtain ⟨h1, h2, h3⟩ := R.dom b g k hk
    exact ⟨h1, h2, by rw [hh]; exact h3⟩, R.inj, R.own, R.below.trans hb, by rw [hh]; exact R.base⟩
theorem Rel.drew (R : Rel B w0 G γ w) : Rel B w0 G γ w.drew := R.heap rfl (Below.refl B w).drew
theorem Rel.unnamed (R : Rel B w0 G γ w) {b : Nat} (h : G b = none) : ∀ g, γ b g = none := fun g => by
  cases hk : γ b g with
  | none => rfl
  | some k => obtain ⟨⟨x, hx⟩, _⟩ := R.dom b g k hk; rw [h] at hx; cases hx
theorem Rel.grow {G' : Mem} {w' : World} {b r : Nat} {x : Blk} (R : Rel B w0 G γ w) (hfree : ∀ g, γ b g = none) (hg : Grow w w') (hG : ∀ j, j ≠ b → G' j = G j) (hb : G' b = some x)
    (hB : BRel (setG γ b 0 w.heap.size r) x b w') : Rel B w0 G' (setG γ b 0 w.heap.size r) w' := by
  refine R.step hG hb hB (fun j hj g => setG_other γ hj g) (setG_sub (hfree 0) R.low) (by rw [setG_same]; simp) (fun j g k _ hk => ?_) (fun g k hk => ?_) (fun g k hk _ => ?_) ?_
  · exact hg.below.block _ (R.dom _ _ _ hk).2.2
  · by_cases hg0 : g = 0
    · subst hg0; rw [setG_same] at hk; obtain rfl := Option.some.inj hk; exact .inl ⟨Nat.le_refl _, by rw [hg.size]; omega⟩
    · rw [setG_gen _ hg0, hfree] at hk; cases hk
  · by_cases hg0 : g = 0
    · subst hg0; rw [setG_same] at hk; obtain rfl := Option.some.inj hk; exact R.base
    · rw [setG_gen _ hg0, hfree] at hk; cases hk
  · exact hg.below.mono R.base
theorem New.one {n r k : Nat} : New n (n + 1) γ (setG γ n 0 k r) := fun b h1 h2 => by
  by_cases e : b = n
  · subst e; exact ⟨Nat.le_refl _, Nat.lt_succ_self _⟩
  · rw [setG_other _ e] at h2; exact absurd h1 h2
theorem Fresh.alloc {x : Blk} (hf : Fresh H) : Fresh (H.alloc x) := fun j hj => by
  show (H.tr.set H.next x).get j = none
  have hj' : H.next + 1 ≤ j := hj
  rw [Tr.get_set, if_neg (by omega)]
  exact hf j (by omega)
theorem alloc_other {x : Blk} {j : Nat} (h : j ≠ H.next) : (H.alloc x).tr.get j = H.tr.get j := by
  show (H.tr.set H.next x).get j = _
  rw [Tr.get_set, if_neg (fun e => h e.symm)]
theorem alloc_same (x : Blk) : (H.alloc x).tr.get H.next = some x := by
  show (H.tr.set H.next x).get H.next = _
  rw [Tr.get_set, if_pos rfl]
/-- What makes a block acts. -/
theorem make_act {o : Oper} {blk : Blk} (h : MakeOk P o ρ H.next v blk) : ActOk P o ρ H v (H.alloc blk) := by
  intro hf B w0 γ w ρ' R hr
  have hfree := R.unnamed (hf H.next (Nat.le_refl _))
  obtain ⟨w', v', r, hd, hg, hb, hv⟩ := h γ w ρ' hfree R.low hr
  exact ⟨w', _, v', hd, setG_sub (hfree 0) R.low, New.one, R.grow hfree hg (fun j hj => alloc_other hj) (alloc_same _) hb, hv, hf.alloc, Nat.le_succ _⟩
theorem read_act {o : Oper} (h : ReadOk P o ρ H v) : ActOk P o ρ H v H := by
  intro hf B w0 γ w ρ' R hr
  obtain ⟨v', hd, hv⟩ := h B w0 H.tr.get γ w ρ' (fun _ _ h => h) R hr
  exact ⟨w, γ, v', hd, GSub.refl γ, fun b h1 h2 => absurd h1 h2, R, hv, hf, Nat.le_refl _⟩

/-- what is appended, or copied -/
structure Els (P : Program) (w : World) (size n : Nat) (x : Value) (news : List Value) : Prop where
  len : ∀ w1, (Builtin.lenOf x).run P w1 = .ok n w1
  cells : ∀ m, m ≤ n → ∀ w1, w1.heap = w.heap → (Builtin.firstCells size m x).run P w1 = .ok (news.take (m * size)).toArray w1
theorem cell_heap {w1 w : World} (h : w1.heap = w.heap) (a : Addr) : w1.cell? a = w.cell? a := by simp [World.cell?, h]
theorem run_bytes_some (s : ByteArray) (m : Nat) (hm : m ≤ s.size) (w : World) : (Builtin.firstCells 1 m (.string s)).run P w = .ok ((bytesV s.data.toList).take (m * 1)).toArray w := by
  simp only [Builtin.firstCells, Sem.run_pure, Nat.mul_one]
  congr 1
  apply Array.ext'
  rw [bytesV_eq]
  simp [ByteArray.data_extract, List.map_take]
theorem elems_ok {size n : Nat} {x x' : Value} {new : List Value} (h : elemsOf H size x = some (n, new)) (R : Rel B w0 H.tr.get γ w) (hv : VR γ x x') :
    ∃ news, LR γ new news ∧ new.length = n * size ∧ Els P w size n x' news := by
  unfold elemsOf at h
  split at h
  · rename_i n' c
    obtain ⟨rfl, rfl, rfl⟩ := hv.nil_inv
    obtain ⟨rfl, rfl⟩ := Prod.mk.inj (Option.some.inj h)
    refine ⟨[], LR.nil γ, by simp, fun w1 => rfl, fun m hm w1 _ => ?_⟩
    rw [run_firstCells_none]; simp
  · rename_i a n' c
    rw [bc_eq, natbeq] at h
    obtain ⟨d, cap, rfl, hcap, ha⟩ := hv.slice_inv
    split at h
    · rename_i h0
      have h0' : n' = 0 := by simpa using h0
      subst h0'
      obtain ⟨rfl, rfl⟩ := Prod.mk.inj (Option.some.inj h)
      refine ⟨[], LR.nil γ, by simp, fun w1 => rfl, fun m hm w1 _ => ?_⟩
      have : m = 0 := by omega
      subst this
      have := run_firstCells_some (P := P) w1 size 0 d 0 cap [] (by simp) (fun j v hj => by simp at hj)
      simpa using this
    · rename_i h0
      have h0' : n' ≠ 0 := by simpa using h0
      split at h
      · rename_i l hl
        obtain ⟨rfl, rfl⟩ := Prod.mk.inj (Option.some.inj h)
        rcases ha with ha | ⟨e, _⟩
        · obtain ⟨l', h1, h2, h3⟩ := R.rdN (H := H) (fun _ _ h => h) ha hl
          refine ⟨l', h1, h2, fun w1 => rfl, fun m hm w1 hw1 => ?_⟩
          have hlen : l'.length = n' * size := by rw [← h1.1]; exact h2
          have hle : m * size ≤ n' * size := Nat.mul_le_mul_right _ hm
          exact run_firstCells_some (P := P) w1 size m d n' cap (l'.take (m * size)) (by rw [List.length_take, hlen]; omega) (fun j v hj => by
            rw [cell_heap hw1]
            have hj' : l'[j]? = some v := by
              rw [List.getElem?_take] at hj; split at hj
              · exact hj
              · cases hj
            exact h3 j v hj')
        · exact absurd e h0'
      · cases h
  · rename_i s
    rw [bc_eq, natbeq] at h
    split at h
    · rename_i h1
      have h1' : size = 1 := by simpa using h1
      subst h1'
      obtain ⟨rfl, rfl⟩ := Prod.mk.inj (Option.some.inj h)
      have hx := hv.str_inv
      subst hx
      have hsz : lenL s.data.toList = s.size := by rw [lenL_eq, Array.length_toList]; rfl
      refine ⟨bytesV s.data.toList, ?_, ?_, fun w1 => by rw [hsz]; rfl, fun m hm w1 _ => run_bytes_some s m (by rw [← hsz]; exact hm) w1⟩
      · rw [bytesV_eq]; exact LR.map _ _ _ fun b _ => .int _ _
      · rw [bytesV_eq, List.length_map, lenL_eq]; omega
    · cases h
  · cases h
theorem notInt_some {u : TypeId} (h : notInt P u = true) : (∃ e', P.underlying u = some (.slice e')) ∨ P.underlying u = some .string := by
  unfold notInt at h
  split at h
  · exact .inl ⟨_, by assumption⟩
  · exact .inr (by assumption)
  · cases h
theorem Els.src {size n : Nat} {u : TypeId} {x : Value} {news : List Value} (h : Els P w size n x news) (hk : (∃ e', P.underlying u = some (.slice e')) ∨ P.underlying u = some .string) (hl : news.length = n * size) (h1 : ∀ v ∈ news, v.oneCell' = true) :
    Src P size u x n news w :=
  ⟨hk, h.len, by have := h.cells n (Nat.le_refl _) w rfl; rwa [← hl, List.take_length] at this, by have := h.cells n (Nat.le_refl _) w.drew rfl; rwa [← hl, List.take_length] at this, hl, h1⟩
theorem run_append_in {t tx e : TypeId} {i : TypeInfo} (ty : TypeId) (ht : P.underlying t = some (.slice e)) (hi : P.info? e = some i) {a : Addr} {sLen sCap n : Nat} {x : Value} {news : List Value} (hs : Src P i.size tx x n news w) (hroom : sLen + n ≤ sCap)
    {w' : World} (hst : (storeCells (a.add (sLen * i.size)) news).run P w = .ok () w') :
    (Builtin.append_ #[t, tx] ty #[.slice (some a) sLen sCap, x]).run P w = .ok (.slice (some a) (sLen + n) sCap) w' := by
  rcases hs.kind with ⟨e', hk⟩ | hk <;> simp [Builtin.append_, run_underlying ht, run_underlying hk, sizeOf, typeInfo, hi, hs.len, hroom, hs.cells, hst]
theorem run_append_zero {t tx e : TypeId} {i : TypeInfo} (ty : TypeId) (ht : P.underlying t = some (.slice e)) (hi : P.info? e = some i) {a : Option Addr} {sLen sCap : Nat} {x : Value} {news : List Value} (hs : Src P i.size tx x 0 news w) (hroom : sLen ≤ sCap) :
    (Builtin.append_ #[t, tx] ty #[.slice a sLen sCap, x]).run P w = .ok (.slice a sLen sCap) w := by
  have hn : news = [] := List.eq_nil_of_length_eq_zero (by rw [hs.newsLen]; omega)
  subst hn
  cases a <;> rcases hs.kind with ⟨e', hk⟩ | hk <;> simp [Builtin.append_, run_underlying ht, run_underlying hk, sizeOf, typeInfo, hi, hs.len, hroom, hs.cells, storeCells]
end
end Go.AM
end
section
set_option linter.unusedVariables false
set_option linter.unusedSimpArgs false
namespace Go.AM
open Go.RowKit
section
variable {P : Program} {dst : Option Tmp} {ty : TypeId} {pos : String} {after : Array Edge} {guard : Option (Nat × Bool)} {ρ : Env} {H H' : Heap} {v : Value}
variable {B : Nat} {w0 w : World} {G : Mem} {γ : Gm}

theorem appT_some {e : TypeId} {need : Nat} (h : appT P e need = true) : ∃ i z, P.info? e = some i ∧ i.zero = some z ∧ need * i.bytes ≤ 140737488355328 ∧ z.cells.size = i.size := by
  unfold appT at h
  split at h
  · rename_i i hi
    split at h
    · rename_i z hz
      simp only [natble, natbeq, lenL_eq, Bool.and_eq_true, decide_eq_true_eq] at h
      exact ⟨i, z, hi, hz, h.1, by rw [← h.2, Array.length_toList]⟩
    · cases h
  · cases h
theorem zeroCells_len (z : Array Value) (n : Nat) : (Builtin.zeroCells z n).toList.length = n * z.size := by simp [Builtin.zeroCells]
/-- the row that append makes -/
theorem grow_row {t u e : TypeId} {i : TypeInfo} {z : Value} (ht : P.underlying t = some (.slice e)) (hi : P.info? e = some i) (hz : i.zero = some z) (hzs : z.cells.size = i.size) (ty : TypeId)
    {base : Option Addr} {sLen sCap n : Nat} {olds news : List Value} {x : Value} (hold : (Builtin.firstCells i.size sLen (.slice base sLen sCap)).run P w.drew = .ok olds.toArray w.drew) (hol : olds.length = sLen * i.size)
    (hs : Src P i.size u x n news w) (hg : sCap < sLen + n) (hsmall : sLen + n ≤ 1000000) (hb : (sLen + n) * i.bytes ≤ 140737488355328) :
    ∃ cap' more, sLen + n ≤ cap' ∧ cap' * i.size ≤ (olds ++ news ++ more).length ∧
      (Builtin.append_ #[t, u] ty #[.slice base sLen sCap, x]).run P w = .ok (.slice (some ⟨w.heap.size, 0, none⟩) (sLen + n) cap') (w.drew.alloc (.cells ⟨olds ++ news ++ more⟩ e)) := by
  refine ⟨grownCap w (sLen + n) sCap e, (Builtin.zeroCells z.cells (grownCap w (sLen + n) sCap e - (sLen + n))).toList, grownCap_ge _ _ _ _, ?_, ?_⟩
  · rw [List.length_append, List.length_append, zeroCells_len, hzs, hol, hs.newsLen, ← Nat.add_mul, ← Nat.add_mul]
    have := grownCap_ge w (sLen + n) sCap e
    rw [Nat.add_sub_cancel' this]
    exact Nat.le_refl _
  · rw [run_append_grow_src w t u ty e i z ht hi hz base sLen sCap olds hold x n news hs hg (by omega) (growslice_fits hg hb)]
    congr 3
    apply Array.ext'
    simp
/-- the abstract row behind an append -/
noncomputable def grown (c : CBlk) (new : List Value) (m : Nat) : CBlk := ⟨wrCells (c.gen + 1) new c.cs c.n, c.n + m, c.elem, c.gen + 1, c.fz, c.sm, c.ro⟩
theorem grown_cell {γ : Gm} {c : CBlk} {b m : Nat} {new : List Value} (hc : CRel γ c b w) {i : Nat} {q : Value × Nat} (h : (grown c new m).cs.get i = some q) :
    (c.n ≤ i ∧ i < c.n + new.length ∧ new[i - c.n]? = some q.1 ∧ q.2 = c.gen + 1) ∨ (i < c.n ∧ c.cs.get i = some q ∧ q.2 ≤ c.gen) := by
  have h' : (wrCells (c.gen + 1) new c.cs c.n).get i = some q := h
  rcases written h' with h1 | ⟨h1, h2⟩
  · exact .inl h1
  · have h3 := hc.only i q h2
    obtain ⟨q', h4, h5⟩ := hc.full i h3
    rw [h2] at h4
    obtain rfl := Option.some.inj h4
    exact .inr ⟨h3, h2, h5⟩
theorem grown_rel {γ γ' : Gm} {c : CBlk} {b m k r : Nat} {new : List Value} {w' : World} (hc : CRel γ c b w) (hnew : new.length = m) (hγ : γ' = setG γ b (c.gen + 1) k r) (hsub : GSub γ γ')
    (hat : CAt γ' (grown c new m) (c.gen + 1) k w') (hold : ∀ g k', g ≤ c.gen → γ b g = some k' → CAt γ c g k' w → CAt γ' (grown c new m) g k' w') : CRel γ' (grown c new m) b w' := by
  refine ⟨fun i hi => ?_, fun i q hq => ?_, fun g hg => ?_, fun g hg => ?_, ?_⟩
  · have hi' : i < c.n + m := hi
    rcases Nat.lt_or_ge i c.n with h | h
    · obtain ⟨q, h1, h2⟩ := hc.full i h
      refine ⟨q, ?_, Nat.le_succ_of_le h2⟩
      show (wrCells (c.gen + 1) new c.cs c.n).get i = some q
      rw [wrCells_get, if_neg (by omega)]; exact h1
    · have hlt : i - c.n < new.length := by omega
      refine ⟨(new[i - c.n], c.gen + 1), ?_, Nat.le_refl _⟩
      show (wrCells (c.gen + 1) new c.cs c.n).get i = _
      rw [wrCells_get, if_pos (by omega), List.getElem?_eq_getElem hlt]; rfl
  · show i < c.n + m
    rcases grown_cell hc hq with ⟨_, h2, _⟩ | ⟨h1, _⟩ <;> omega
  · have hg' : g ≤ c.gen + 1 := hg
    by_cases he : g = c.gen + 1
    · subst he; exact ⟨k, by rw [hγ]; exact setG_same _ _ _ _ _, hat⟩
    · obtain ⟨k', h1, h2⟩ := hc.at_ g (by omega)
      exact ⟨k', hsub.sub _ _ _ h1, hold g k' (by omega) h1 h2⟩
  · have hg' : c.gen + 1 < g := hg
    rw [hγ, setG_gen _ (by omega)]; exact hc.gens g (by omega)
  · have := hc.fz
    show c.fz ≤ c.n + m
    omega
theorem append_row {t u e : TypeId} {i : TypeInfo} {z : Value} {a d : Addr} {c : CBlk} {len cap n : Nat} {new news : List Value} {xv' : Value} (ht : P.underlying t = some (.slice e)) (hi : P.info? e = some i) (hz : i.zero = some z) (hzs : z.cells.size = i.size) (ty : TypeId)
    (hf : Fresh H) (R : Rel B w0 H.tr.get γ w) (hx : H.tr.get a.block = some (.cells c)) (hro : c.ro = false) (hoff : a.off = 0) (hgen : gen a = c.gen) (hcn : len * i.size = c.n) (hce : c.elem = e)
    (ha : AR γ a d) (hroom : d.off = 0 → cap * i.size ≤ γ.room d.block) (hcap : len ≤ cap) (hl : LR γ new news) (hnn : news.length = n * i.size) (hone : new.all one = true) (hs : Src P i.size u xv' n news w) (hsmall : len + n ≤ 1000000) (hb : (len + n) * i.bytes ≤ 140737488355328) :
    ∃ w' γ' v', (Builtin.append_ #[t, u] ty #[.slice (some d) len cap, xv']).run P w = .ok v' w' ∧ GSub γ γ' ∧ New H.next H.next γ γ' ∧ Rel B w0 (H.setC a.block (grown c new (n * i.size))).tr.get γ' w' ∧
      VR γ' (.slice (some ⟨a.block, 0, some (c.gen + 1)⟩) (len + n) i.size) v' ∧ Fresh (H.setC a.block (grown c new (n * i.size))) := by
  obtain ⟨hc, _, hat⟩ := R.row ha hx
  rw [hgen] at hat
  obtain ⟨cs0, lo0, hi0, hk0, hfull⟩ := CAt.full hc hat
  obtain ⟨cs, lo, hi', hk, hcells, hfro, hsm, hrm⟩ := hat
  have e0 : cs0 = cs := by rw [hk] at hk0; injection hk0 with e; injection e with e1 _ _; exact e1.symm
  subst e0
  have hnl : new.length = n * i.size := by rw [hl.1]; exact hnn
  have hd : d = ⟨d.block, 0, none⟩ := by have := ha.eta; rw [hoff] at this; exact this
  have hd0 : d.off = 0 := by rw [hd]
  have hrm' := hroom hd0
  have hfree : γ a.block (c.gen + 1) = none := hc.gens _ (Nat.lt_succ_self _)
  have hblk : ∀ (w' : World) (γ' : Gm) (k r : Nat), γ' = setG γ a.block (c.gen + 1) k r → GSub γ γ' → CRel γ' (grown c new (n * i.size)) a.block w' → (∀ j g k', j ≠ a.block → γ j g = some k' → w'.heap[k']? = w.heap[k']?) →
      ((w.heap.size ≤ k ∧ k < w'.heap.size) ∨ ∃ g0, γ a.block g0 = some k) → B ≤ k → Below B w w' → Rel B w0 (H.setC a.block (grown c new (n * i.size))).tr.get γ' w' := by
    intro w' γ' k r hγ hsub hB hheap hnew hkB hbel
    refine R.step (b := a.block) (x' := .cells (grown c new (n * i.size))) (fun j hj => ?_) ?_ hB (fun j hj g => by rw [hγ]; exact setG_other γ hj g) hsub ?_ hheap (fun g k' hk' => ?_) (fun g k' hk' _ => ?_) hbel
    · show (H.tr.set a.block _).get j = _
      rw [Tr.get_set, if_neg (fun e => hj e.symm)]
    · show (H.tr.set a.block _).get a.block = _
      rw [Tr.get_set, if_pos rfl]
    · rw [hγ, setG_gen _ (by omega)]; exact (R.dom _ _ _ ha.1).2.1
    · by_cases hg : g = c.gen + 1
      · subst hg; rw [hγ, setG_same] at hk'; obtain rfl := Option.some.inj hk'; exact hnew
      · rw [hγ, setG_gen _ hg] at hk'; exact .inr ⟨g, hk'⟩
    · by_cases hg : g = c.gen + 1
      · subst hg; rw [hγ, setG_same] at hk'; obtain rfl := Option.some.inj hk'; exact hkB
      · rw [hγ, setG_gen _ hg] at hk'; exact R.own _ _ _ _ hx hro hk'
  have hnewG : ∀ k r, New H.next H.next γ (setG γ a.block (c.gen + 1) k r) := fun k r b h1 h2 => by
    exfalso; apply h2
    by_cases hb : b = a.block
    · subst hb; rw [setG_gen _ (by omega)]; exact h1
    · rw [setG_other _ hb]; exact h1
  have hfr : Fresh (H.setC a.block (grown c new (n * i.size))) := hf.setC hx
  by_cases hin : len + n ≤ cap
  · have hmul : len * i.size + n * i.size ≤ cap * i.size := by rw [← Nat.add_mul]; exact Nat.mul_le_mul_right _ hin
    have hst : (storeCells (d.add (len * i.size)) news).run P w = .ok () (w.setRow d.block (midRow cs0 c.n news)) := by
      have hfz := hc.fz
      have := run_storeCells_free P d.block (len * i.size) c.elem (lo, hi') news 0 cs0 w hk (fun j h1 h2 hh => by have := hfro.2 j (by omega) hh.1 hh.2; omega) (by omega) (hl.one hone)
      rw [hd, addr_add, Nat.zero_add]
      simpa [midRow, hcn] using this
    have hsub : GSub γ (setG γ a.block (c.gen + 1) d.block (γ.room d.block)) := setG_sub0 hfree (fun _ _ _ => rfl)
    have hown : B ≤ d.block := R.own _ _ _ _ hx hro ha.1
    have hkn := setRow_heap w d.block cs0 (midRow cs0 c.n news) c.elem (lo, hi') hk
    refine ⟨_, _, _, run_append_in ty ht hi hs hin hst, hsub, hnewG _ _, hblk _ _ _ _ rfl hsub ?_ (fun j g k' hj hk' => setRow_other _ _ _ _ (fun (e : k' = d.block) => hj (R.inj j g a.block (gen a) k' hk' (e ▸ ha.1)))) (.inr ⟨_, ha.1⟩) hown (setRow_below _ _ _ hown),
      .slice ⟨setG_same _ _ _ _ _, by rw [hd], by rw [hd]⟩ hin (fun _ => by rw [setG_room]; exact hrm'), hfr⟩
    refine grown_rel hc hnl rfl hsub ?_ (fun g k' hg hk' hat' => ?_)
    · refine CAt.mid (c := c) (c' := grown c new (n * i.size)) hkn (by omega) hl hsub (g := c.gen + 1) (fun i q hq _ => ?_) (fun i q hq _ => ?_) hfro hsm (by rw [setG_room]; exact hrm)
      · obtain ⟨q', h4, h5⟩ := hc.full i (hc.only i q hq)
        rw [hq] at h4; obtain rfl := Option.some.inj h4
        exact hcells i q hq h5
      · rcases grown_cell hc hq with ⟨h1, h2, h3, _⟩ | ⟨h1, h2, _⟩
        · exact .inl ⟨h1, h2, h3⟩
        · exact .inr ⟨by omega, h2⟩
    · obtain ⟨cs1, lo1, hi1, p1, p2, p3, p4, p5⟩ := hat'
      by_cases hkk : k' = d.block
      · subst hkk
        have e1 : cs0 = cs1 ∧ lo = lo1 ∧ hi' = hi1 := by rw [hk] at p1; injection p1 with e; injection e with e1 _ e2; injection e2 with e2 e3; exact ⟨e1, e2, e3⟩
        obtain ⟨rfl, rfl, rfl⟩ := e1
        refine CAt.mid (c := c) (c' := grown c new (n * i.size)) hkn (by omega) hl hsub (g := g) p2 (fun i q hq hqg => ?_) hfro hsm (by rw [setG_room]; exact hrm)
        rcases grown_cell hc hq with ⟨h1, h2, h3, h4⟩ | ⟨h1, h2, _⟩
        · omega
        · exact .inr ⟨by omega, h2⟩
      · refine ⟨cs1, lo1, hi1, by rw [setRow_other _ _ _ _ hkk]; exact p1, fun i q hq hqg => ?_, p3, p4, by rw [hsub.rm _ _ _ hk']; exact p5⟩
        rcases grown_cell hc hq with ⟨h1, h2, h3, h4⟩ | ⟨h1, h2, _⟩
        · omega
        · obtain ⟨v, hv, hr⟩ := p2 i q h2 hqg
          exact ⟨v, hv, hr.mono hsub⟩
  · have hol : (cs0.toList.take c.n).length = len * i.size := by
      have : cs0.toList.length = cs0.size := Array.length_toList
      rw [List.length_take, hcn]; omega
    have hold : (Builtin.firstCells i.size len (.slice (some d) len cap)).run P w.drew = .ok (cs0.toList.take c.n).toArray w.drew :=
      run_firstCells_some (P := P) w.drew i.size len d len cap _ hol (fun j v hj => by
        rw [hd, addr_add, Nat.zero_add]
        show w.cell? _ = _
        rw [List.getElem?_take] at hj
        split at hj
        · simp only [World.cell?, hk]; rw [← Array.getElem?_toList]; exact hj
        · cases hj)
    obtain ⟨cap', more, h1, h2, h3⟩ := grow_row (P := P) ht hi hz hzs ty hold hol hs (by omega) hsmall hb
    have hsub : GSub γ (setG γ a.block (c.gen + 1) w.heap.size (cap' * i.size)) := setG_sub hfree R.low
    have hnewrow : (w.drew.alloc (.cells ⟨cs0.toList.take c.n ++ news ++ more⟩ e)).heap[w.heap.size]? = some (.cells ⟨cs0.toList.take c.n ++ news ++ more⟩ e) := heap_alloc_new w.drew _
    have hkeep : ∀ k', k' < w.heap.size → (w.drew.alloc (.cells ⟨cs0.toList.take c.n ++ news ++ more⟩ e)).heap[k']? = w.heap[k']? := fun k' hk' => Below.heap_alloc w.drew _ k' hk'
    refine ⟨_, _, _, h3, hsub, hnewG _ _, hblk _ _ _ _ rfl hsub ?_ (fun j g k' hj hk' => hkeep k' (R.low _ _ _ hk')) (.inl ⟨Nat.le_refl _, by simp⟩) R.base ((Below.refl B w).drew.alloc R.base _),
      .slice ⟨setG_same _ _ _ _ _, rfl, rfl⟩ h1 (fun _ => by rw [setG_room]; exact Nat.le_refl _), hfr⟩
    have hcl : (cs0.toList.take c.n).length = c.n := by rw [hol, hcn]
    refine grown_rel hc hnl rfl hsub ⟨_, 0, 0, by rw [hnewrow, ← hce]; rfl, fun i q hq hqg => ?_, ⟨Nat.le_refl _, fun i _ _ h => by omega⟩, fun _ => .inl rfl, by rw [setG_room]; simpa using h2⟩ (fun g k' hg hk' hat' => ?_)
    · have hget : ∀ j, (⟨cs0.toList.take c.n ++ news ++ more⟩ : Array Value)[j]? = (cs0.toList.take c.n ++ (news ++ more))[j]? := fun j => by rw [← Array.getElem?_toList, List.append_assoc]
      rw [hget]
      rcases grown_cell hc hq with ⟨q1, q2, q3, q4⟩ | ⟨q1, q2, q3⟩
      · obtain ⟨y, hy, hr⟩ := hl.get q3
        refine ⟨y, ?_, hr.mono hsub⟩
        rw [List.getElem?_append_right (by omega), hcl, List.getElem?_append_left (List.getElem?_eq_some_iff.1 hy).1]; exact hy
      · obtain ⟨y, hy, hr⟩ := hcells i q q2 q3
        refine ⟨y, ?_, hr.mono hsub⟩
        rw [List.getElem?_append_left (by omega), List.getElem?_take, if_pos q1, Array.getElem?_toList]; exact hy
    · obtain ⟨cs1, lo1, hi1, p1, p2, p3, p4, p5⟩ := hat'
      refine ⟨cs1, lo1, hi1, by rw [hkeep k' (R.low _ _ _ hk')]; exact p1, fun i q hq hqg => ?_, p3, p4, by rw [hsub.rm _ _ _ hk']; exact p5⟩
      rcases grown_cell hc hq with ⟨q1, q2, q3, q4⟩ | ⟨q1, q2, _⟩
      · omega
      · obtain ⟨v, hv, hr⟩ := p2 i q q2 hqg
        exact ⟨v, hv, hr.mono hsub⟩
theorem append_act {t u e : TypeId} {s : Nat} {sv xv sv' xv' : Value} (hT : seqT P t = .sl s e) (hu : notInt P u = true) (h : appendOp P H s e sv xv = .val v H') (hf : Fresh H)
    (R : Rel B w0 H.tr.get γ w) (hsv : VR γ sv sv') (hxv : VR γ xv xv') (ty : TypeId) :
    ∃ w' γ' v', (Builtin.append_ #[t, u] ty #[sv', xv']).run P w = .ok v' w' ∧ GSub γ γ' ∧ New H.next H'.next γ γ' ∧ Rel B w0 H'.tr.get γ' w' ∧ VR γ' v v' ∧ Fresh H' ∧ H.next ≤ H'.next := by
  obtain ⟨ht, ⟨i, hi, hsz⟩, hpos⟩ := seqT_sl hT
  subst hsz
  unfold appendOp at h
  split at h
  · rename_i n new base len y hel
    obtain ⟨news, hl, hnl, hE⟩ := elems_ok (P := P) hel R hxv
    rw [bc_eq, natbeq] at h
    split at h
    · rename_i h0
      have h0' : n = 0 := by simpa using h0
      subst h0'
      cases h
      have hnn : news.length = 0 * i.size := by rw [← hl.1]; exact hnl
      have hs : Src P i.size u xv' 0 news w := hE.src (notInt_some hu) hnn (fun v hv => by
        have : news = [] := List.eq_nil_of_length_eq_zero (by omega)
        rw [this] at hv; cases hv)
      refine ⟨w, γ, sv', ?_, GSub.refl γ, fun b h1 h2 => absurd h1 h2, R, hsv, hf, Nat.le_refl _⟩
      cases base with
      | none => obtain ⟨rfl, rfl, rfl⟩ := hsv.nil_inv; exact run_append_zero ty ht hi hs (Nat.le_refl _)
      | some a => obtain ⟨c, cap, rfl, hcap, _⟩ := hsv.slice_inv; exact run_append_zero ty ht hi hs hcap
    · rename_i h0
      have hn0 : n ≠ 0 := by simpa using h0
      simp only [bc_eq, allL_eq, natble, natbeq] at h
      split at h
      · rename_i hcond
        simp only [Bool.and_eq_true, decide_eq_true_eq] at hcond
        obtain ⟨⟨hone, hsmall⟩, happ⟩ := hcond
        have hsmall' : len + n ≤ 1000000 := hsmall
        obtain ⟨i', z, hi', hz, hb, hzs⟩ := appT_some happ
        rw [hi] at hi'
        obtain rfl := Option.some.inj hi'
        have hb' : (len + n) * i.bytes ≤ 140737488355328 := hb
        have hnn : news.length = n * i.size := by rw [← hl.1]; exact hnl
        have hs : Src P i.size u xv' n news w := hE.src (notInt_some hu) hnn (hl.one hone)
        cases base with
        | none =>
          cases h
          obtain ⟨rfl, rfl, rfl⟩ := hsv.nil_inv
          obtain ⟨cap', more, h1, h2, h3⟩ := grow_row (P := P) ht hi hz hzs ty (base := none) (sLen := 0) (sCap := 0) (olds := []) (run_firstCells_none w.drew i.size 0 0 0) (by simp) hs (by omega) hsmall' hb'
          have hfree := R.unnamed (hf H.next (Nat.le_refl _))
          rw [List.nil_append] at h2 h3
          rw [Nat.zero_add] at h1 h3
          have hB := newRow_rel (w := w.drew) (b := H.next) (e := e) (sm := false) (vs := new) (vs' := news) (more := more) (lo := 0) (hi := 0) (r := cap' * i.size) hfree (by exact R.low) hl (fun i _ _ h => by omega) (Nat.le_refl _) (fun _ => .inl rfl) h2
          exact ⟨_, _, _, h3, setG_sub (hfree 0) R.low, New.one, R.grow hfree (grow_drew w _) (fun j hj => alloc_other hj) (alloc_same _) hB, new_slice h1, hf.alloc, Nat.le_succ _⟩
        | some a =>
          simp only at h
          split at h
          · rename_i c hc
            split at h
            · rename_i hy
              have hy' : y = i.size := by simpa using hy
              subst hy'
              unfold appendAt at h
              simp only [bc_eq, natbeq] at h
              split at h
              · rename_i hk
                simp only [Bool.and_eq_true, Bool.not_eq_true', decide_eq_true_eq] at hk
                obtain ⟨⟨⟨⟨hro, hoff⟩, hgen⟩, hcn⟩, hce⟩ := hk
                have hcn' : len * i.size = c.n := hcn
                cases h
                have hx := cblk_some hc
                obtain ⟨d, cap, rfl, hcap, har⟩ := hsv.slice_inv2
                rcases har with ⟨ha, hroom⟩ | ⟨_, e0, _⟩
                · obtain ⟨w', γ', v', r1, r2, r3, r4, r5, r6⟩ := append_row (P := P) ht hi hz hzs ty hf R hx hro hoff hgen hcn' hce ha hroom hcap hl hnn hone hs hsmall' hb'
                  exact ⟨w', γ', v', r1, r2, r3, r4, r5, r6, Nat.le_refl _⟩
                · omega
              · cases h
            · cases h
          · cases h
      · cases h
  · cases h
end
end Go.AM
end
section
set_option linter.unusedVariables false
set_option linter.unusedSimpArgs false
namespace Go.AM
open Go.RowKit
section
variable {P : Program} {dst : Option Tmp} {ty : TypeId} {pos : String} {after : Array Edge} {guard : Option (Nat × Bool)} {ρ : Env} {H H' : Heap} {v : Value}
variable {B : Nat} {w0 w : World} {G : Mem} {γ : Gm}

theorem map2 {args : Array Operand} {p q : Value} (he : args.toList.map ρ = [p, q]) : ∃ x y, args = #[x, y] ∧ ρ x = p ∧ ρ y = q := by
  obtain ⟨l⟩ := args
  match l, he with
  | [x, y], he => exact ⟨x, y, rfl, by simpa using (List.cons.inj he).1, by simpa using (List.cons.inj he).2⟩
  | [], he => simp at he
  | [_], he => simp at he
  | _ :: _ :: _ :: _, he => simp at he
theorem ok_append {o : Oper} {args : Array Operand} {ts : Array TypeId} (ho : o.op = .call ⟨.builtin .append, args, ts⟩) (h : opAppend P H ts.toList (mapL ρ args.toList) = .val v H') : ActOk P o ρ H v H' := by
  intro hf B w0 γ w ρ' R hr
  obtain ⟨dst, op, ty, pos, after, guard⟩ := o
  simp only at ho
  subst ho
  unfold opAppend at h
  rw [mapL_eq] at h
  split at h
  · rename_i t u s x ht he
    obtain rfl : ts = #[t, u] := Array.ext' ht
    obtain ⟨a, b, rfl, rfl, rfl⟩ := map2 he
    rw [bc_eq] at h
    split at h
    · rename_i hu
      split at h
      · rename_i k e hT
        have h1 := rel1 hr a (by simp [Op.operands, Call.operands])
        have h2 := rel1 hr b (by simp [Op.operands, Call.operands])
        obtain ⟨w', γ', v', r1, r2, r3, r4, r5, r6, r7⟩ := append_act (P := P) hT hu h hf R h1 h2 ty
        exact ⟨w', γ', v', .inl (by simp [execOp, resolve, invoke, builtin, r1]), r2, r3, r4, r5, r6, r7⟩
      · cases h
    · cases h
  · cases h
theorem seqT_size {t : TypeId} {k : Nat} {e : TypeId} (h : seqT P t = .sl k e) (w : World) : (sizeOf e).run P w = .ok k w := by
  obtain ⟨_, ⟨i, hi, hs⟩, _⟩ := seqT_sl h
  rw [run_sizeOf_of hi, hs]
theorem copy_run {ty t : TypeId} {ts : Array TypeId} (k : Nat) {e : TypeId} (h0 : ts[0]? = some t) (hT : seqT P t = .sl k e) {x : Value} {n dn cap : Nat} {news : List Value} {base : Option Addr} (hE : Els P w k n x news) {w' : World}
    (hst : ∀ a, base = some a → (storeCells a (news.take (Nat.min n dn * k))).run P w = .ok () w') (hb : base = none → w' = w) :
    (Builtin.copy_ ts ty #[.slice base dn cap, x]).run P w = .ok (.int .i64 (Nat.min n dn : Nat)) w' := by
  obtain ⟨ht, _, _⟩ := seqT_sl hT
  have hc := hE.cells (Nat.min n dn) (Nat.min_le_left _ _) w rfl
  cases base with
  | none => obtain rfl := hb rfl; simp [Builtin.copy_, h0, run_underlying ht, hE.len, seqT_size hT, hc, goInt]
  | some a => simp [Builtin.copy_, h0, run_underlying ht, hE.len, seqT_size hT, hc, hst a rfl, goInt]
theorem ok_copy {o : Oper} {args : Array Operand} {ts : Array TypeId} (ho : o.op = .call ⟨.builtin .copy, args, ts⟩) (h : opCopy P H ts.toList (mapL ρ args.toList) = .val v H') : ActOk P o ρ H v H' := by
  intro hf B w0 γ w ρ' R hr
  obtain ⟨dst, op, ty, pos, after, guard⟩ := o
  simp only at ho
  subst ho
  unfold opCopy at h
  rw [mapL_eq] at h
  split at h
  · rename_i t ts' d x ht he
    have h0 : ts[0]? = some t := by rw [← Array.getElem?_toList, ht]; rfl
    obtain ⟨a, b, rfl, rfl, rfl⟩ := map2 he
    have h1 := rel1 hr a (by simp [Op.operands, Call.operands])
    have h2 := rel1 hr b (by simp [Op.operands, Call.operands])
    split at h
    · rename_i k e hT
      unfold copyOp at h
      split at h
      · rename_i base dn y n l hd hel
        obtain ⟨news, hl, hnl, hE⟩ := elems_ok (P := P) hel R h2
        simp only [bc_eq, natbeq] at h
        rw [hd] at h1
        have hexec : ∀ {y : Value} {w' : World}, (Builtin.copy_ ts ty #[ρ' a, ρ' b]).run P w = .ok y w' → Done P ⟨dst, .call ⟨.builtin .copy, #[a, b], ts⟩, ty, pos, after, guard⟩ ρ' w w' y := fun hh =>
          .inl (by simp [execOp, resolve, invoke, builtin, hh])
        split at h
        · rename_i hm
          have hm' : Nat.min n dn = 0 := by simpa using hm
          cases h
          refine ⟨w, γ, .int .i64 ((0 : Nat) : Int), hexec ?_, GSub.refl γ, fun b h1 h2 => absurd h1 h2, R, .int _ _, hf, Nat.le_refl _⟩
          have hst : ∀ c : Addr, (storeCells c (news.take (Nat.min n dn * k))).run P w = .ok () w := fun c => by rw [hm', Nat.zero_mul, List.take_zero]; rfl
          rw [← hm']
          cases base with
          | none => obtain ⟨_, _, hv⟩ := h1.nil_inv; rename_i e1 e2; subst e1; rw [hv]; exact copy_run k h0 hT hE (fun c _ => hst c) (fun _ => rfl)
          | some c0 => obtain ⟨c, cap, hv, _⟩ := h1.slice_inv; rw [hv]; exact copy_run k h0 hT hE (fun c _ => hst c) (fun _ => rfl)
        · rename_i hm
          have hm' : Nat.min n dn ≠ 0 := by simpa using hm
          split at h
          · rename_i c0
            split at h
            · rename_i H1 hw
              cases h
              obtain ⟨c, cap, hv, hcap, ha⟩ := h1.slice_inv
              have hdn : dn ≠ 0 := fun e => hm' (by rw [e]; exact Nat.min_zero n)
              rcases ha with ha | ⟨e, _⟩
              · rw [takeL_eq] at hw
                obtain ⟨w', r1, r2, r3, r4⟩ := wr_ok (P := P) hw hf R ha (hl.take _)
                refine ⟨w', γ, .int .i64 ((Nat.min n dn : Nat) : Int), hexec ?_, GSub.refl γ, fun b h1 h2 => absurd h1 h2, r2, .int _ _, r3, by omega⟩
                rw [hv]
                exact copy_run k h0 hT hE (fun q hq => by obtain rfl := Option.some.inj hq; exact r1) (fun e => by cases e)
              · exact absurd e hdn
            · cases h
          · cases h
      · cases h
    · cases h
  · cases h
end
end Go.AM
end
section
set_option linter.unusedVariables false
set_option linter.unusedSimpArgs false
namespace Go.AM
open Go.RowKit
section
variable {P : Program} {dst : Option Tmp} {ty : TypeId} {pos : String} {after : Array Edge} {guard : Option (Nat × Bool)} {ρ : Env} {H H' : Heap} {v : Value}
variable {B : Nat} {w0 w : World} {G : Mem} {γ : Gm}

/-- a world with a block put anew -/
def putB (w : World) (k : Nat) (o : Obj) : World := { w with heap := w.heap.setIfInBounds k o }
theorem putB_same {k : Nat} {o o' : Obj} (h : w.heap[k]? = some o) : (putB w k o').heap[k]? = some o' := by
  have : k < w.heap.size := (Array.getElem?_eq_some_iff.1 h).1
  simp [putB, this]
theorem putB_other {k j : Nat} {o : Obj} (h : j ≠ k) : (putB w k o).heap[j]? = w.heap[j]? := by
  simp only [putB]
  rw [Array.getElem?_setIfInBounds, if_neg (fun e => h e.symm)]
theorem putB_below {k : Nat} {o : Obj} (h : B ≤ k) : Below B w (putB w k o) := ⟨rfl, rfl, rfl, by simp [putB], fun j hj => putB_other (by omega)⟩
theorem Rel.put {G' : Mem} {r k : Nat} {x x' : Blk} {o : Obj} (R : Rel B w0 G γ w) (hx : G r = some x) (hro : roB x = false) (hk : γ r 0 = some k) (hG : ∀ j, j ≠ r → G' j = G j) (hb : G' r = some x') (hB : BRel γ x' r (putB w k o)) :
    Rel B w0 G' γ (putB w k o) :=
  R.step hG hb hB (fun _ _ _ => rfl) (GSub.refl γ) (by rw [hk]; simp) (fun j g k' hj hk' => putB_other (fun e => hj (R.inj j g r 0 k' hk' (e ▸ hk)))) (fun g k' hk' => .inr ⟨g, hk'⟩) (fun g k' hk' _ => R.own _ _ _ _ hx hro hk')
    (putB_below (R.own _ _ _ _ hx hro hk))
theorem setTr_same {b : Nat} {x : Blk} : (⟨H.tr.set b x, H.next⟩ : Heap).tr.get b = some x := by
  show (H.tr.set b x).get b = _
  rw [Tr.get_set, if_pos rfl]
theorem setTr_other {b j : Nat} {x : Blk} (h : j ≠ b) : (⟨H.tr.set b x, H.next⟩ : Heap).tr.get j = H.tr.get j := by
  show (H.tr.set b x).get j = _
  rw [Tr.get_set, if_neg (fun e => h e.symm)]
theorem run_setObj_map' {k : Nat} {es : Array MapEntry} {clock : Nat} (o : Obj) (h : w.heap[k]? = some (.map es clock)) : (setObj k o).run P w = .ok () (putB w k o) := by
  simp [setObj, Sem.run, h, putB]
theorem run_setObj_iter {k : Nat} {m : Option Nat} {s : Nat} {seen : Array Nat} {c : Nat} (o : Obj) (h : w.heap[k]? = some (.mapIter m s seen c)) : (setObj k o).run P w = .ok () (putB w k o) := by
  simp [setObj, Sem.run, h, putB]

theorem modL_eq (f : MEntry → MEntry) : ∀ (l : List MEntry) (i : Nat), modL i f l = l.modify i f
  | [], i => by cases i <;> rfl
  | e :: l, i => by
    show bc (Nat.beq i 0) (f e :: l) (e :: modL (Nat.pred i) f l) = _
    rw [bc_eq, natbeq, modL_eq f l]
    cases i with
    | zero => simp
    | succ i => simp
theorem MapR.modify {es : List MEntry} {es' : List MapEntry} (h : MapR γ es es') {i : Nat} {f : MEntry → MEntry} {f' : MapEntry → MapEntry} (hf : ∀ e e', ER γ e e' → ER γ (f e) (f' e')) : MapR γ (es.modify i f) (es'.modify i f') := by
  refine ⟨by simp [h.1], fun j e e' he he' => ?_⟩
  rw [List.getElem?_modify] at he he'
  obtain ⟨a, ha, ha'⟩ := Option.map_eq_some_iff.1 he
  obtain ⟨b, hb, hb'⟩ := Option.map_eq_some_iff.1 he'
  have hab := h.2 j a b ha hb
  subst ha' hb'
  split
  · exact hf a b hab
  · exact hab
theorem MapR.snoc {es : List MEntry} {es' : List MapEntry} (h : MapR γ es es') {e : MEntry} {e' : MapEntry} (he : ER γ e e') : MapR γ (es ++ [e]) (es' ++ [e']) := by
  refine ⟨by simp [h.1], fun j a b ha hb => ?_⟩
  rcases Nat.lt_or_ge j es.length with hj | hj
  · rw [List.getElem?_append_left hj] at ha
    rw [List.getElem?_append_left (by rw [← h.1]; exact hj)] at hb
    exact h.2 j a b ha hb
  · rw [List.getElem?_append_right hj] at ha
    rw [List.getElem?_append_right (by rw [← h.1]; exact hj), ← h.1] at hb
    have h0 : j - es.length = 0 := by
      have := (List.getElem?_eq_some_iff.1 ha).1
      simp at this; omega
    rw [h0] at ha hb
    simp at ha hb
    subst ha hb
    exact he
theorem ok_mapUpdate {t : TypeId} {m k x : Operand} (h : opMapUpdate P t H (ρ m) (ρ k) (ρ x) = .val v H') : ActOk P ⟨dst, .mapUpdate t m k x, ty, pos, after, guard⟩ ρ H v H' := by
  intro hf B w0 γ w ρ' R hr
  unfold opMapUpdate at h
  split at h
  · rename_i kt r hkt hm
    split at h
    · rename_i es clock hes
      rw [bc_eq] at h
      split at h
      · rename_i hsc
        have h1 := rel1 hr m (by simp [Op.operands])
        have h2 := rel1 hr k (by simp [Op.operands])
        have h3 := rel1 hr x (by simp [Op.operands])
        rw [hm] at h1
        obtain ⟨q, es', hy, hq, hqo, hl⟩ := mapOf_rel R (fun _ _ h => h) hes h1
        have hk : ρ' k = ρ k := scal_eq 3 hsc h2
        obtain ⟨e, hu⟩ := keyT_some hkt
        have hobj : (getObj q).run P w = .ok (.map ⟨es'⟩ clock) w := by simp [getObj, Sem.run, hqo]
        have hzero : ∀ g, 0 < g → γ r g = none := (R.blk _ _ hes (by rw [hq]; simp)).1
        have fin : ∀ (es2 : List MEntry) (es2' : List MapEntry) (clock2 : Nat), MapR γ es2 es2' → (Instr.mapUpdate t (ρ' m) (ρ' k) (ρ' x)).run P w = .ok () (putB w q (.map ⟨es2'⟩ clock2)) →
            v = undef → H' = ⟨H.tr.set r (.map es2 clock2), H.next⟩ →
            ∃ w' γ' v', Done P ⟨dst, .mapUpdate t m k x, ty, pos, after, guard⟩ ρ' w w' v' ∧ GSub γ γ' ∧ New H.next H'.next γ γ' ∧ Rel B w0 H'.tr.get γ' w' ∧ VR γ' v v' ∧ Fresh H' ∧ H.next ≤ H'.next := by
          intro es2 es2' clock2 hl2 hrun hv hH
          subst hv hH
          refine ⟨_, γ, undef, .inr ⟨by simp [execOp, hrun], rfl⟩, GSub.refl γ, fun b h1 h2 => absurd h1 h2, R.put (o := .map ⟨es2'⟩ clock2) hes rfl hq (fun j hj => setTr_other hj) setTr_same ?_, VR.undef γ, hf.setC hes, Nat.le_refl _⟩
          exact ⟨hzero, q, es2', hq, putB_same hqo, hl2⟩
        unfold updateAt at h
        split at h
        · rename_i i hfind
          obtain ⟨hck, hfk, hlt⟩ := findA_ok hfind hl.keys w
          split at h
          · rename_i en hen
            rw [getL_eq] at hen
            obtain ⟨e', he', her, hat⟩ := atIx_some hl hen
            rw [bc_eq] at h
            split at h
            · rename_i hsame
              rw [modL_eq] at h
              cases h
              refine fin (es.modify i fun e => ⟨ρ k, ρ x, e.born⟩) (es'.modify i fun e => { e with key := ρ' k, val := ρ' x }) clock (hl.modify fun a b hab => ⟨hk, hsc, h3, hab.2.2.2⟩) ?_ rfl rfl
              have hgk : ((⟨es'⟩ : Array MapEntry)[i]?).map (·.key) = some en.key := by
                rw [← Array.getElem?_toList]; simp [he', her.1]
              have hmod : (⟨es'⟩ : Array MapEntry).modify i (fun e => { e with key := ρ' k, val := ρ' x }) = ⟨es'.modify i fun e => { e with key := ρ' k, val := ρ' x }⟩ := by
                apply Array.ext'; simp
              have hset := run_setObj_map' (P := P) (.map ⟨es'.modify i fun e => { e with key := ρ' k, val := ρ' x }⟩ clock) hqo
              rw [hk] at hmod hset ⊢
              simp only [Instr.mapUpdate, Sem.run_bind, run_underlying hu, Result.andThen_ok, hy, hobj, hck, hfk, hat, hgk, Option.getD_some, Instr.keyThatStays, hsame, if_true, Sem.run_pure, hmod, hset]
            · cases h
          · cases h
        · rename_i hfind
          obtain ⟨hck, hfk, _⟩ := findA_ok hfind hl.keys w
          rw [catL_eq] at h
          cases h
          refine fin _ (es' ++ [{ key := ρ' k, val := ρ' x, born := clock }]) (clock + 1) (hl.snoc ⟨hk, hsc, h3, rfl⟩) ?_ rfl rfl
          have hpush : (⟨es'⟩ : Array MapEntry).push { key := ρ' k, val := ρ' x, born := clock } = ⟨es' ++ [{ key := ρ' k, val := ρ' x, born := clock }]⟩ := by
            apply Array.ext'; simp
          have hset := run_setObj_map' (P := P) (.map ⟨es' ++ [{ key := ρ' k, val := ρ' x, born := clock }]⟩ (clock + 1)) hqo
          have hnone : atIx es' 0 none = none := rfl
          rw [hk] at hpush hset ⊢
          simp only [Instr.mapUpdate, Sem.run_bind, run_underlying hu, Result.andThen_ok, hy, hobj, hck, hfk, hnone, Sem.run_pure, hpush, hset]
        · cases h
      · cases h
    · cases h
  · cases h
end
end Go.AM
end
section
set_option linter.unusedVariables false
set_option linter.unusedSimpArgs false
namespace Go.AM
open Go.RowKit
section
variable {P : Program} {dst : Option Tmp} {ty : TypeId} {pos : String} {after : Array Edge} {guard : Option (Nat × Bool)} {ρ : Env} {H H' : Heap} {v : Value}
variable {B : Nat} {w0 w : World} {G : Mem} {γ : Gm}

theorem iter_new {x : Operand} {t : TypeId} (hf : Fresh H) (R : Rel B w0 H.tr.get γ w) {m m' : Option Nat} {since stepped : Nat} (hm : MR γ m m') {ρ' : Env}
    (hrun : (Instr.range t (ρ' x)).run P w = .ok (.pointer (some ⟨w.heap.size, 0, none⟩)) (w.alloc (.mapIter m' since #[] stepped))) :
    ∃ w' γ' v', Done P ⟨dst, .range t x, ty, pos, after, guard⟩ ρ' w w' v' ∧ GSub γ γ' ∧ New H.next (H.alloc (.iter m since [] stepped)).next γ γ' ∧ Rel B w0 (H.alloc (.iter m since [] stepped)).tr.get γ' w' ∧ VR γ' (.pointer (some ⟨H.next, 0, none⟩)) v' ∧ Fresh (H.alloc (.iter m since [] stepped)) ∧ H.next ≤ (H.alloc (.iter m since [] stepped)).next := by
  have hfree := R.unnamed (hf H.next (Nat.le_refl _))
  have hsub : GSub γ (setG γ H.next 0 w.heap.size 0) := setG_sub (hfree 0) R.low
  refine ⟨w.alloc (.mapIter m' since #[] stepped), setG γ H.next 0 w.heap.size 0, _, .inl (by simp only [execOp, Sem.run_bind, hrun, Result.andThen_ok, Sem.run_pure]), hsub, New.one, R.alloc (o := .mapIter m' since #[] stepped) hfree (fun j hj => alloc_other hj) (alloc_same _) ?_, new_ptr, hf.alloc, Nat.le_succ _⟩
  refine ⟨fun g hg => by rw [setG_gen _ (by omega)]; exact hfree g, w.heap.size, m', setG_same _ _ _ _ _, heap_alloc_new _ _, ?_⟩
  cases m with
  | none => exact hm
  | some r => obtain ⟨j, h1, h2⟩ := hm; exact ⟨j, hsub.sub _ _ _ h1, h2⟩
theorem ok_range {t : TypeId} {x : Operand} (h : opRange P t H (ρ x) = .val v H') : ActOk P ⟨dst, .range t x, ty, pos, after, guard⟩ ρ H v H' := by
  intro hf B w0 γ w ρ' R hr
  have h1 := rel1 hr x (by simp [Op.operands])
  unfold opRange at h
  split at h
  · rename_i hm hx
    obtain ⟨k, e, hu⟩ := mapT_some hm
    cases h
    rw [hx] at h1
    have hy : ρ' x = .map none := by generalize ρ' x = u at h1; cases h1; rfl
    exact iter_new hf R (m := none) (m' := none) rfl (by simp [Instr.range, run_underlying hu, hy])
  · rename_i m hm hx
    obtain ⟨k, e, hu⟩ := mapT_some hm
    split at h
    · rename_i es clock hes
      cases h
      rw [hx] at h1
      obtain ⟨q, es', hy, hq, hqo, hl⟩ := mapOf_rel R (fun _ _ h => h) hes h1
      have hobj : (getObj q).run P w = .ok (.map ⟨es'⟩ clock) w := by simp [getObj, Sem.run, hqo]
      exact iter_new hf R (m := some m) (m' := some q) ⟨q, hq, rfl⟩ (by simp [Instr.range, run_underlying hu, hy, hobj])
    · cases h
  · cases h
theorem seenB_eq (seen : List Nat) (b : Nat) : seenB seen b = seen.contains b := by
  induction seen with
  | nil => rfl
  | cons x l ih =>
    show bc (Nat.beq x b) true (seenB l b) = _
    rw [bc_eq, natbeq, ih, List.contains_cons]
    by_cases h : x = b
    · subst h; simp
    · have : (b == x) = false := by simpa using fun e => h e.symm
      simp [h, this]
theorem MapR.nil_inv {es' : List MapEntry} (h : MapR γ [] es') : es' = [] := List.eq_nil_of_length_eq_zero (by have := h.1; simpa using this.symm)
theorem MapR.cons_inv {e : MEntry} {es : List MEntry} {l : List MapEntry} (h : MapR γ (e :: es) l) : ∃ e' es', l = e' :: es' ∧ ER γ e e' ∧ MapR γ es es' := by
  cases l with
  | nil => have := h.1; simp at this
  | cons e' es' => exact ⟨e', es', rfl, h.2 0 e e' rfl rfl, by have := h.1; simpa using this, fun i x y hx hy => h.2 (i + 1) x y (by simpa using hx) (by simpa using hy)⟩
theorem MapR.cons {e : MEntry} {e' : MapEntry} {es : List MEntry} {es' : List MapEntry} (he : ER γ e e') (h : MapR γ es es') : MapR γ (e :: es) (e' :: es') := by
  refine ⟨by simp [h.1], fun i x y hx hy => ?_⟩
  cases i with
  | zero => simp at hx hy; subst hx hy; exact he
  | succ i => simp at hx hy; exact h.2 i x y hx hy
theorem leftOf_cons (seen : List Nat) (e : MEntry) (es : List MEntry) : leftOf seen (e :: es) = bc (seenB seen e.born) (leftOf seen es) (e :: leftOf seen es) := rfl
theorem leftOf_rel (seen : List Nat) : ∀ (es : List MEntry) (es' : List MapEntry), MapR γ es es' → MapR γ (leftOf seen es) (es'.filter fun e => !seen.contains e.born)
  | [], es', h => by rw [h.nil_inv]; exact ⟨rfl, fun i x y hx => by cases i <;> cases hx⟩
  | e :: es, l, h => by
    obtain ⟨e', es', rfl, he, ht⟩ := h.cons_inv
    rw [leftOf_cons, bc_eq, seenB_eq, List.filter_cons, he.2.2.2]
    cases hs : seen.contains e.born with
    | true => simpa using leftOf_rel seen es es' ht
    | false => simpa using (leftOf_rel seen es es' ht).cons he
theorem held_rel {seen : List Nat} {stepped : Nat} : ∀ {es : List MEntry} {es' : List MapEntry}, MapR γ es es' → heldB seen es stepped = true →
    (!(⟨seen⟩ : Array Nat).isEmpty && !(⟨es'⟩ : Array MapEntry).isEmpty && (⟨es'⟩ : Array MapEntry).all (·.born ≥ stepped)) = false := by
  have alls : ∀ (es : List MEntry) (es' : List MapEntry), MapR γ es es' → es'.all (fun e => decide (e.born ≥ stepped)) = allL (fun e => Nat.ble stepped e.born) es := by
    intro es
    induction es with
    | nil => intro es' h; rw [h.nil_inv]; rfl
    | cons e es ih =>
      intro l h
      obtain ⟨e', es', rfl, he, ht⟩ := h.cons_inv
      rw [List.all_cons, ih es' ht, allL_eq, allL_eq, List.all_cons, natble, he.2.2.2]
  intro es es' h hh
  cases seen with
  | nil => rfl
  | cons s seen =>
    cases es with
    | nil => rw [h.nil_inv]; rfl
    | cons e es =>
      have h2 : (!(allL (fun e => Nat.ble stepped e.born) (e :: es))) = true := hh
      have h3 := alls _ _ h
      have : (⟨es'⟩ : Array MapEntry).all (·.born ≥ stepped) = es'.all (fun e => decide (e.born ≥ stepped)) := by simp
      rw [this, h3]
      cases ha : allL (fun e => Nat.ble stepped e.born) (e :: es) with
      | true => rw [ha] at h2; cases h2
      | false => simp
theorem ok_next {x : Operand} {s : Bool} (h : opNext H (ρ x) s = .val v H') : ActOk P ⟨dst, .next x s, ty, pos, after, guard⟩ ρ H v H' := by
  intro hf B w0 γ w ρ' R hr
  have h1 := rel1 hr x (by simp [Op.operands])
  unfold opNext at h
  split at h
  · rename_i r hx
    rw [hx] at h1
    have stay : ∀ {y : Value}, (Instr.next (ρ' x) false ty).run P w = .ok y w → VR γ v y → H' = H → ∃ w' γ' v', Done P ⟨dst, .next x false, ty, pos, after, guard⟩ ρ' w w' v' ∧ GSub γ γ' ∧ New H.next H'.next γ γ' ∧ Rel B w0 H'.tr.get γ' w' ∧ VR γ' v v' ∧ Fresh H' ∧ H.next ≤ H'.next := fun hrun hv hH => by
      subst hH
      exact ⟨w, γ, _, .inl (by simp only [execOp, Sem.run_bind, hrun, Result.andThen_ok, Sem.run_pure]), GSub.refl γ, fun b h1 h2 => absurd h1 h2, R, hv, hf, Nat.le_refl _⟩
    have fls : VR γ (.tuple #[.bool false]) (.tuple #[.bool false]) := VR.mkTuple (LR.cons (.bool false) (LR.nil γ))
    split at h
    · rename_i since seen stepped hit
      cases h
      obtain ⟨k, m', hy, hk, hko, hmr⟩ := iter_rel R (fun _ _ h => h) hit h1
      have hmr' : m' = none := hmr
      subst hmr'
      have hobj : (getObj k).run P w = .ok (.mapIter none since ⟨seen⟩ stepped) w := by simp [getObj, Sem.run, hko]
      exact stay (by simp [Instr.next, hy, hobj]) fls rfl
    · rename_i m since seen stepped hit
      split at h
      · rename_i es clock hes
        obtain ⟨k, m', hy, hk, hko, hmr⟩ := iter_rel R (fun _ _ h => h) hit h1
        obtain ⟨j, hj, rfl⟩ := hmr
        obtain ⟨q, es', hyq, hq, hqo, hl⟩ := mapOf_rel R (fun _ _ h => h) hes (.map hj)
        have hjq : j = q := by injection hyq with e; injection e
        subst hjq
        have hobj : (getObj k).run P w = .ok (.mapIter (some j) since ⟨seen⟩ stepped) w := by simp [getObj, Sem.run, hko]
        have hobj2 : (getObj j).run P w = .ok (.map ⟨es'⟩ clock) w := by simp [getObj, Sem.run, hqo]
        unfold nextOp at h
        rw [bc_eq] at h
        split at h
        · rename_i hheld
          have hh := held_rel hl hheld
          have hlr := leftOf_rel seen es es' hl
          have hfil : (⟨es'⟩ : Array MapEntry).filter (fun e => !(⟨seen⟩ : Array Nat).contains e.born) = ⟨es'.filter fun e => !seen.contains e.born⟩ := by
            apply Array.ext'; simp
          split at h
          · rename_i hleft
            cases h
            rw [hleft] at hlr
            rw [hlr.nil_inv] at hfil
            refine stay ?_ fls rfl
            simp only [Instr.next, Sem.run_bind, hy, hobj, hobj2, Result.andThen_ok, hh, hfil, Bool.false_eq_true, if_false, Sem.run_pure]
            simp [Question.forced]
          · rename_i e hleft
            rw [bc_eq, natble] at h
            split at h
            · rename_i hb
              have hb' : e.born < since := of_decide_eq_true hb
              rw [catL_eq] at h
              cases h
              rw [hleft] at hlr
              obtain ⟨e', l', hl', he, ht⟩ := hlr.cons_inv
              rw [ht.nil_inv] at hl'
              rw [hl'] at hfil
              have hset := run_setObj_iter (P := P) (.mapIter (some j) since ((⟨seen⟩ : Array Nat).push e'.born) clock) hko
              have hb2 : e'.born < since := by rw [he.2.2.2]; exact hb'
              have hzero : ∀ g, 0 < g → γ r g = none := (R.blk _ _ hit (by rw [hk]; simp)).1
              refine ⟨putB w k (.mapIter (some j) since ((⟨seen⟩ : Array Nat).push e'.born) clock), γ, .tuple #[.bool true, e'.key, e'.val], .inl ?_, GSub.refl γ, fun b h1 h2 => absurd h1 h2, R.put (o := .mapIter (some j) since ((⟨seen⟩ : Array Nat).push e'.born) clock) hit rfl hk (fun j hj => setTr_other hj) setTr_same ?_, ?_, hf.setC hit, Nat.le_refl _⟩
              · simp only [execOp, Instr.next, Sem.run_bind, hy, hobj, hobj2, Result.andThen_ok, hh, hfil, Bool.false_eq_true, if_false, Sem.run_pure]
                have hset2 : (setObj k (.mapIter (some j) since (seen ++ [e'.born]).toArray clock)).run P w = .ok () (putB w k (.mapIter (some j) since (seen ++ [e'.born]).toArray clock)) := run_setObj_iter _ hko
                simp [Question.forced, hb2, hset2, Nat.not_le.2 hb2]
              · refine ⟨hzero, k, some j, hk, ?_, j, hj, rfl⟩
                rw [putB_same hko]
                congr 2
                apply Array.ext'; simp [he.2.2.2]
              · refine VR.mkTuple (LR.cons (.bool true) (LR.cons ?_ (LR.cons he.2.2.1 (LR.nil γ))))
                rw [he.1]; exact scal_VR 3 he.2.1
            · cases h
          · cases h
        · cases h
      · cases h
    · cases h
  · cases h
end
end Go.AM
end
section
set_option linter.unusedVariables false
set_option linter.unusedSimpArgs false
namespace Go.AM
open Go.RowKit
section
variable {P : Program} {dst : Option Tmp} {ty : TypeId} {pos : String} {after : Array Edge} {guard : Option (Nat × Bool)} {ρ : Env} {H H' : Heap} {v : Value}
variable {B : Nat} {w0 w : World} {G : Mem} {γ : Gm}

/-- a frozen range and more -/
def frz (lo hi off n : Nat) : Nat × Nat := if lo == hi then (off, off + n) else (min lo off, max hi (off + n))
theorem freeze_same {k off n lo hi : Nat} {cs : Array Value} {e : TypeId} (h : w.heap[k]? = some (.cells cs e (lo, hi))) (hn : n ≠ 0) :
    (w.freeze ⟨k, off, none⟩ n).heap[k]? = some (.cells cs e (frz lo hi off n)) := by
  have hlt : k < w.heap.size := (Array.getElem?_eq_some_iff.1 h).1
  have hv : w.heap[k] = .cells cs e (lo, hi) := (Array.getElem?_eq_some_iff.1 h).2
  unfold World.freeze
  rw [if_neg hn]
  simp only [Array.getElem?_modify, if_true, h, Option.map_some, frz]
theorem freeze_other {k j off n : Nat} (h : j ≠ k) : (w.freeze ⟨k, off, none⟩ n).heap[j]? = w.heap[j]? := by
  unfold World.freeze
  split
  · rfl
  · simp only [Array.getElem?_modify]
    rw [if_neg (fun e => h e.symm)]
theorem freeze_size {k off n : Nat} : (w.freeze ⟨k, off, none⟩ n).heap.size = w.heap.size := by
  unfold World.freeze
  split
  · rfl
  · simp
theorem freeze_below {k off n : Nat} (h : B ≤ k) : Below B w (w.freeze ⟨k, off, none⟩ n) := by
  have h1 : (w.freeze ⟨k, off, none⟩ n).os = w.os ∧ (w.freeze ⟨k, off, none⟩ n).tape = w.tape ∧ (w.freeze ⟨k, off, none⟩ n).output = w.output := by
    unfold World.freeze; split <;> exact ⟨rfl, rfl, rfl⟩
  exact ⟨h1.1, h1.2.1, h1.2.2, by rw [freeze_size]; exact Nat.le_refl _, fun j hj => freeze_other (by omega)⟩
theorem Rel.frz {b k off n f lo hi : Nat} {s : Bool} {x : CBlk} {cs : Array Value} (R : Rel B w0 H.tr.get γ w) (hx : H.tr.get b = some (.cells x)) (hro : x.ro = false) (hk : γ b x.gen = some k) (hn : n ≠ 0)
    (hrow : w.heap[k]? = some (.cells cs x.elem (lo, hi))) (hf : x.fz ≤ f) (hfn : f ≤ x.n) (hs : s = false → x.sm = false)
    (h1 : (frz lo hi off n).1 ≤ (frz lo hi off n).2) (h2 : ∀ i, i < cs.size → (frz lo hi off n).1 ≤ i → i < (frz lo hi off n).2 → i < f) (h3 : s = false → (frz lo hi off n).1 = (frz lo hi off n).2 ∨ (frz lo hi off n).2 ≤ f) :
    Rel B w0 (H.setC b ⟨x.cs, x.n, x.elem, x.gen, f, s, x.ro⟩).tr.get γ (w.freeze ⟨k, off, none⟩ n) := by
  have hc : CRel γ x b w := R.blk _ _ hx (R.dom _ _ _ hk).2.1
  have hsame := freeze_same (off := off) hrow hn
  refine R.step (b := b) (x' := .cells ⟨x.cs, x.n, x.elem, x.gen, f, s, x.ro⟩) (fun j hj => setTr_other hj) setTr_same ?_ (fun _ _ _ => rfl) (GSub.refl γ) (R.dom _ _ _ hk).2.1
    (fun j g k' hj hk' => freeze_other (fun e => hj (R.inj j g b x.gen k' hk' (e ▸ hk)))) (fun g k' hk' => .inr ⟨g, hk'⟩) (fun g k' hk' _ => R.own _ _ _ _ hx hro hk') (freeze_below (R.own _ _ _ _ hx hro hk))
  refine ⟨hc.full, hc.only, fun g hg => ?_, hc.gens, hfn⟩
  obtain ⟨k', hk', cs1, lo1, hi1, p1, p2, p3, p4, p5⟩ := hc.at_ g hg
  refine ⟨k', hk', ?_⟩
  by_cases hkk : k' = k
  · subst hkk
    have e1 : cs = cs1 := by rw [hrow] at p1; injection p1 with e; injection e with e1 _ e2
    subst e1
    exact ⟨cs, _, _, hsame, p2, ⟨h1, h2⟩, h3, p5⟩
  · exact ⟨cs1, lo1, hi1, by rw [freeze_other hkk]; exact p1, p2, ⟨p3.1, fun i a b c => Nat.lt_of_lt_of_le (p3.2 i a b c) hf⟩, fun hs' => (p4 (hs hs')).imp id (fun h => Nat.le_trans h hf), p5⟩
theorem ok_same {s d : TypeId} {x : Operand} (hk : convT P s d = .same) (h : opSame H (ρ x) = .val v H') : ActOk P ⟨dst, .convert s d x, ty, pos, after, guard⟩ ρ H v H' := by
  have cf := convT_fact (P := P) s d
  rw [hk] at cf
  intro hf B w0 γ w ρ' R hr
  have h1 := rel1 hr x (by simp [Op.operands])
  unfold opSame at h
  split at h
  · rename_i a n c hx
    split at h
    · rename_i b hb
      simp only [bc_eq, natbeq] at h
      split at h
      · rename_i hcond
        simp only [Bool.and_eq_true, Bool.not_eq_true', decide_eq_true_eq, decide_eq_false_iff_not] at hcond
        obtain ⟨⟨⟨hfz, hro⟩, hn⟩, hg⟩ := hcond
        cases h
        have hbb := cblk_some hb
        have hxr := h1
        rw [hx] at h1
        obtain ⟨q, cap, hq, hcap, har⟩ := h1.slice_inv2
        rcases har with ⟨ha, hroom⟩ | ⟨e, _⟩
        · cases cf with
          | same c1 c2 c3 c4 =>
            obtain ⟨hc, _, hat⟩ := R.row ha hbb
            rw [hg] at hat
            obtain ⟨cs, lo, hi, hrow, hcells, hfro, hsm, hrm⟩ := hat
            rw [hfz] at hfro
            have hsh : w.shape? q.block = some (b.elem, cs.size) := by simp [World.shape?, hrow]
            have hrun : (convert s d (ρ' x)).run P w = .ok (ρ' x) (w.freeze ⟨q.block, cs.size, none⟩ 1) := by
              have hsd : (s == d) = true := by simpa using c4
              subst c4
              simp only [convert, Sem.run_bind, run_underlying c2, Result.andThen_ok, hq, run_underlying c3, hsd, markStringish, shape]
              simp [Sem.run, hsh, freeze]
            have key : ∀ i, i < cs.size → (frz lo hi cs.size 1).1 ≤ i → i < (frz lo hi cs.size 1).2 → i < b.fz := by
              intro i h1 h2 h3
              exfalso
              unfold AM.frz at h2 h3
              split at h2
              · simp at h2; omega
              · rename_i hne
                have hne' : lo ≠ hi := by simpa using hne
                simp only at h2
                rcases Nat.lt_or_ge lo cs.size with hl | hl
                · have := hfro.2 lo hl (Nat.le_refl _) (by have := hfro.1; omega); omega
                · omega
            have hle : (frz lo hi cs.size 1).1 ≤ (frz lo hi cs.size 1).2 := by
              unfold AM.frz; split
              · simp
              · have := hfro.1; simp only; omega
            have R' := R.frz (f := b.fz) (s := true) (off := cs.size) (n := 1) hbb hro (by rw [← hg]; exact ha.1) (by simp) hrow (Nat.le_refl _) hc.fz (fun h => by cases h) hle key (fun h => by cases h)
            exact ⟨_, γ, ρ' x, .inl (by simp only [execOp, Sem.run_bind, hrun, Result.andThen_ok, Sem.run_pure]), GSub.refl γ, fun b h1 h2 => absurd h1 h2, R', hxr, hf.setC hbb, Nat.le_refl _⟩
        · exact absurd e hn
      · cases h
    · cases h
  · cases h
theorem run_loadNats : ∀ (ns : List Nat) (a : Addr) (acc : ByteArray), (∀ j (v : Value), (ns.map (fun (n : Nat) => Value.int .u8 (n : Int)))[j]? = some v → w.cell? (a.add j) = some v) →
    (loadBytes a acc ns.length).run P w = .ok ⟨acc.data ++ (ns.map UInt8.ofNat).toArray⟩ w
  | [], a, acc, _ => by simp [loadBytes]
  | x :: l, a, acc, h => by
    have h0 : w.cell? a = some (.int .u8 (x : Int)) := by
      have := h 0 _ rfl
      simpa [Addr.add] using this
    have ih := run_loadNats l (a.add 1) (acc.push (UInt8.ofNat x)) (fun j y hy => by
      have := h (j + 1) y (by simpa using hy)
      have e : (a.add 1).add j = a.add (j + 1) := by
        unfold Addr.add
        by_cases hj : j = 0
        · subst hj; simp
        · simp [hj]; omega
      rw [e]; exact this)
    have hx : ((x : Int).toNat).toUInt8 = UInt8.ofNat x := by simp
    simp only [List.length_cons, loadBytes, Sem.run_bind, run_load, h0, Result.andThen, hx]
    rw [ih]
    congr 1
    apply ByteArray.ext
    simp [ByteArray.push]
theorem us_some (ts : Array TypeId) (ty : TypeId) (a : Addr) (l : Value) : Builtin.unsafeString_ ts ty #[.pointer (some a), l] =
    (do
      let n ← asInt l
      let some pt := ts[0]? | stuck "unsafe.String: no argument types"
      if n < 0 then runtimePanic (.error "unsafe.String: len out of range")
      if n > IntKind.i64.max then unsupported (.unsafePointer "String: a length above the largest int")
      if n = 0 then pure (.string .empty)
      else if ← variablesAt a (← elemOf pt) n.toNat then do
        let s ← loadBytes a .empty n.toNat
        freeze a n.toNat
        pure (.string s)
      else unsupported (.unsafePointer "String: not so many bytes at ptr")) := rfl
theorem us_none (ts : Array TypeId) (ty : TypeId) (l : Value) : Builtin.unsafeString_ ts ty #[.pointer none, l] =
    (do
      let n ← asInt l
      let some pt := ts[0]? | stuck "unsafe.String: no argument types"
      if n < 0 then runtimePanic (.error "unsafe.String: len out of range")
      if n > IntKind.i64.max then unsupported (.unsafePointer "String: a length above the largest int")
      if n = 0 then pure (.string .empty)
      else runtimePanic (.error "unsafe.String: ptr is nil and len is not zero")) := rfl
theorem ok_unsafeString {o : Oper} {args : Array Operand} {ts : Array TypeId} (ho : o.op = .call ⟨.builtin .unsafeString, args, ts⟩) (h : opUnsafeString P H ts.toList (mapL ρ args.toList) = .val v H') : ActOk P o ρ H v H' := by
  intro hf B w0 γ w ρ' R hr
  obtain ⟨dst, op, ty, pos, after, guard⟩ := o
  simp only at ho
  subst ho
  unfold opUnsafeString at h
  rw [mapL_eq] at h
  split at h
  · rename_i t ts' p l ht he
    have h0 : ts[0]? = some t := by rw [← Array.getElem?_toList, ht]; rfl
    obtain ⟨x, y, rfl, hx, rfl⟩ := map2 he
    have h1 := rel1 hr x (by simp [Op.operands, Call.operands])
    have h2 := rel1 hr y (by simp [Op.operands, Call.operands])
    rw [hx] at h1
    split at h
    · rename_i n hn
      obtain ⟨kk, hk⟩ := natOf_rel hn h2
      have hmax : IntKind.i64.max = 9223372036854775807 := rfl
      simp only [bc_eq, natbeq, natble] at h
      split at h
      · rename_i hz
        have hz' : n = 0 := by simpa using hz
        subst hz'
        cases h
        have hrun : (Builtin.unsafeString_ ts ty #[ρ' x, ρ' y]).run P w = .ok (.string .empty) w := by
          rw [hk]
          cases p with
          | none =>
            rw [h1.ptrNil_inv]
            simp [us_none, asInt, asIntOf, h0, hmax]
          | some a =>
            obtain ⟨c, hc, _⟩ := h1.ptr_inv
            rw [hc]
            simp [us_some, asInt, asIntOf, h0, hmax]
        exact ⟨w, γ, .string .empty, .inl (by simp [execOp, resolve, invoke, builtin, hrun]), GSub.refl γ, fun b h1 h2 => absurd h1 h2, R, .str _, hf, Nat.le_refl _⟩
      · rename_i hz
        have hz' : n ≠ 0 := by simpa using hz
        cases p with
        | none => cases h
        | some a =>
          simp only at h
          split at h
          · rename_i c l' hc hl'
            split at h
            · rename_i hcond
              simp only [Bool.and_eq_true, Bool.not_eq_true', decide_eq_true_eq] at hcond
              obtain ⟨⟨⟨hb, hlies⟩, hg⟩, hro⟩ := hcond
              unfold strAt at h
              simp only [bc_eq, natble] at h
              split at h
              · cases h
              · rename_i hc2
                simp only [Bool.or_eq_true, Bool.not_eq_true', decide_eq_false_iff_not, not_or, Bool.not_eq_true, Nat.not_lt, Decidable.not_not] at hc2
                obtain ⟨⟨hsm0, _⟩, hin⟩ := hc2
                have hin' : a.off + n ≤ c.n := hin
                split at h
                · rename_i bs hbs
                  cases h
                  have hcc := cblk_some hc
                  obtain ⟨d, hd, ha⟩ := h1.ptr_inv
                  obtain ⟨hcr, _, hat⟩ := R.row ha hcc
                  rw [hg] at hat
                  obtain ⟨cs0, lo0, hi0, hk0, hfull⟩ := CAt.full hcr hat
                  obtain ⟨cs, lo, hi, hrow, hcells, hfro, hsm, hrm⟩ := hat
                  have e0 : cs0 = cs := by rw [hrow] at hk0; injection hk0 with e; injection e with e1 _ _; exact e1.symm
                  subst e0
                  obtain ⟨l2, hlr, hlen, hcell⟩ := R.rdN (H := H) (fun _ _ h => h) ha hl'
                  obtain ⟨ns, rfl, rfl⟩ := asBytes_some _ _ hbs
                  have hl2 := ints_LR ns l2 hlr
                  subst hl2
                  have hlen' : ns.length = n := by simpa using hlen
                  subst hlen'
                  have hload := run_loadNats (P := P) (w := w) ns d .empty hcell
                  have hsh : w.shape? d.block = some (c.elem, cs0.size) := by simp [World.shape?, hrow]
                  have hdo : d.off = a.off := ha.2.1
                  unfold liesB at hlies
                  split at hlies
                  · rename_i u hu
                    have hl3 : liesAt P P.depth c.elem (cs0.size / P.cellsOf c.elem) d.off u ns.length = true := by
                      rw [hdo]; exact liesAt_mono P _ _ _ _ _ _ _ (Nat.div_le_div_right hfull) hlies
                    have hrun : (Builtin.unsafeString_ ts ty #[ρ' x, ρ' y]).run P w = .ok (.string ⟨(ns.map UInt8.ofNat).toArray⟩) (w.freeze ⟨d.block, a.off, none⟩ ns.length) := by
                      have hn1 : ¬ ((ns.length : Int) < 0) := by omega
                      have hn2 : ¬ ((9223372036854775807 : Int) < (ns.length : Int)) := by omega
                      have hde : (⟨d.block, a.off, none⟩ : Addr) = d := ha.eta.symm
                      rw [hk, hd, hde]
                      simp [us_some, asInt, asIntOf, h0, hmax, hn1, hn2, hz', variablesAt, hsh, elemOf, run_underlying hu, hl3, hload]
                    have hle : c.fz ≤ Nat.max c.fz (a.off + ns.length) := Nat.le_max_left _ _
                    have hle2 : a.off + ns.length ≤ Nat.max c.fz (a.off + ns.length) := Nat.le_max_right _ _
                    have hor := hsm hsm0
                    have key : ∀ i, i < cs0.size → (frz lo hi a.off ns.length).1 ≤ i → i < (frz lo hi a.off ns.length).2 → i < Nat.max c.fz (a.off + ns.length) := by
                      intro i h1 h2 h3
                      unfold AM.frz at h2 h3
                      split at h3
                      · simp only at h3; omega
                      · rename_i hne
                        have hne' : lo ≠ hi := by simpa using hne
                        simp only at h3
                        rcases hor with e | e
                        · exact absurd e hne'
                        · omega
                    have hle3 : (frz lo hi a.off ns.length).1 ≤ (frz lo hi a.off ns.length).2 := by
                      unfold AM.frz; split
                      · simp
                      · have := hfro.1; simp only; omega
                    have key2 : (frz lo hi a.off ns.length).1 = (frz lo hi a.off ns.length).2 ∨ (frz lo hi a.off ns.length).2 ≤ Nat.max c.fz (a.off + ns.length) := by
                      unfold AM.frz; split
                      · exact .inr hle2
                      · rename_i hne
                        have hne' : lo ≠ hi := by simpa using hne
                        rcases hor with e | e
                        · exact absurd e hne'
                        · right; simp only; omega
                    have R' := R.frz (f := Nat.max c.fz (a.off + ns.length)) (s := c.sm) (off := a.off) (n := ns.length) hcc hro (by rw [← hg]; exact ha.1) hz' hrow hle (Nat.max_le.2 ⟨hcr.fz, hin'⟩) id hle3 key (fun _ => key2)
                    exact ⟨_, γ, _, .inl (by simp only [execOp, resolve, invoke, builtin, Sem.run_bind, Sem.run_pure, Result.andThen_ok]; simp [hrun]), GSub.refl γ, fun b h1 h2 => absurd h1 h2, R', .str _, hf.setC hcc, Nat.le_refl _⟩
                  · cases hlies
                · cases h
            · cases h
          · cases h
    · cases h
  · cases h
end
end Go.AM
end
section
set_option linter.unusedVariables false
set_option linter.unusedSimpArgs false
namespace Go.AM
open Go.RowKit
section
variable {P : Program} {dst : Option Tmp} {ty : TypeId} {pos : String} {after : Array Edge} {guard : Option (Nat × Bool)} {ρ : Env} {H H' : Heap} {v : Value}

theorem ok_sliceData' {o : Oper} {args : Array Operand} {ts : Array TypeId} (ho : o.op = .call ⟨.builtin .unsafeSliceData, args, ts⟩) (h : opSliceData H (mapL ρ args.toList) = .val v H') : H' = H ∧ PureOk P o ρ v := by
  obtain ⟨dst, op, ty, pos, after, guard⟩ := o
  simp only at ho
  subst ho
  rw [mapL_eq] at h
  obtain ⟨l⟩ := args
  match l, h with
  | [x], h => exact ok_sliceData (by simpa using h)
  | [], h => cases h
  | _ :: _ :: _, h => simp [opSliceData] at h
/-- what a kind says of an operation that has been carried out -/
def KindOk (P : Program) (k : OpKind) (o : Oper) (ρ : Env) (H : Heap) (v : Value) (H' : Heap) : Prop :=
  match k with
  | .pure => H' = H ∧ PureOk P o ρ v
  | .reads => H' = H ∧ ReadOk P o ρ H v
  | .makes => ∃ blk, H' = H.alloc blk ∧ MakeOk P o ρ H.next v blk
  | .acts => ActOk P o ρ H v H'
theorem KindOk.act {k : OpKind} {o : Oper} (h : KindOk P k o ρ H v H') : ActOk P o ρ H v H' := by
  cases k with
  | pure => obtain ⟨rfl, h⟩ := h; exact read_act (h.read _)
  | reads => obtain ⟨rfl, h⟩ := h; exact read_act h
  | makes => obtain ⟨blk, rfl, h⟩ := h; exact make_act h
  | acts => exact h
theorem pure_act {o : Oper} (h : pureOp P ρ o H = .val v H') (hs : ∀ cs b, o.op ≠ .select cs b) : ActOk P o ρ H v H' := by
  obtain ⟨rfl, h2⟩ := pureOp_ok h hs
  exact read_act (h2.read _)
theorem builtin_ok {o : Oper} {b : Builtin} {args : Array Operand} {ts : Array TypeId} (ho : o.op = .call ⟨.builtin b, args, ts⟩) (h : opBuiltin P ρ o H b ts.toList (mapL ρ args.toList) = .val v H') : KindOk P (builtinKind b) o ρ H v H' := by
  have hp : pureOp P ρ o H = .val v H' → H' = H ∧ PureOk P o ρ v := fun h => pureOp_ok h (by rw [ho]; simp)
  have ha : pureOp P ρ o H = .val v H' → ActOk P o ρ H v H' := fun h => pure_act h (by rw [ho]; simp)
  cases b with
  | len => exact ok_len ho h
  | append => exact ok_append ho h
  | copy => exact ok_copy ho h
  | unsafeSliceData => exact ok_sliceData' ho h
  | unsafeString => exact ok_unsafeString ho h
  | recover => cases h
  | min => exact hp h
  | max => exact hp h
  | _ => exact ha h
theorem opA_ok {o : Oper} (h : opA P ρ o H = .val v H') : KindOk P (kindOf P o.op) o ρ H v H' := by
  obtain ⟨dst, op, ty, pos, after, guard⟩ := o
  have hp : pureOp P ρ ⟨dst, op, ty, pos, after, guard⟩ H = .val v H' → (∀ cs b, op ≠ .select cs b) → H' = H ∧ PureOk P ⟨dst, op, ty, pos, after, guard⟩ ρ v := fun h hs => pureOp_ok h hs
  have ha : pureOp P ρ ⟨dst, op, ty, pos, after, guard⟩ H = .val v H' → (∀ cs b, op ≠ .select cs b) → ActOk P ⟨dst, op, ty, pos, after, guard⟩ ρ H v H' := fun h hs => pure_act h hs
  cases op with
  | move x => cases h; exact ⟨rfl, ok_move x⟩
  | assign x => cases h; exact ⟨rfl, ok_assign x⟩
  | pick c a b => exact ok_pick h
  | alloc t => exact ok_alloc h
  | box t x => exact ok_box h
  | build t parts => exact ok_build h
  | buildSlice t n parts => exact ok_buildSlice h
  | load t x => exact ok_load h
  | store t x y => exact ok_store h
  | nilCheck x => exact ok_nilCheck h
  | binOp op t x y yt => exact ok_bin h
  | unOp op t x => exact hp h (by simp)
  | convert s d x =>
    have h' : opConvert P ρ ⟨dst, .convert s d x, ty, pos, after, guard⟩ H s d (ρ x) = .val v H' := h
    unfold opConvert at h'
    show KindOk P (convKind P s d) _ _ _ _ _
    unfold convKind
    cases hk : convT P s d with
    | toBytes e => rw [hk] at h'; exact ok_toBytes hk h'
    | same => rw [hk] at h'; exact ok_same hk h'
    | toStr => rw [hk] at h'; exact ok_conv h'
    | away => rw [hk] at h'; exact ok_conv h'
    | back u => rw [hk] at h'; exact ok_conv h'
    | other => rw [hk] at h'; exact ok_conv h'
  | makeInterface t x => exact ok_makeIface h
  | makeFunc fn a b => exact ok_makeFunc h
  | makeMap t r => exact ok_makeMap h
  | makeSlice t l c => exact ok_makeSlice h
  | slice t x lo hi mx => exact ok_slice h
  | fieldAddr s x f => exact ok_fieldAddr h
  | field t x f => exact ok_field h
  | indexAddr t x i => exact ok_indexAddr h
  | index t x i => exact ok_index h
  | lookup t x i ok => exact ok_lookup h
  | mapUpdate t m k x => exact ok_mapUpdate h
  | range t x => exact ok_range h
  | next x s => exact ok_next h
  | entry x => exact ok_entry h
  | extract x i => exact ok_extract h
  | call c =>
    obtain ⟨callee, args, ts⟩ := c
    cases callee with
    | builtin b => exact builtin_ok rfl h
    | value f =>
      have h' : opCallV (ρ f) (mapL ρ args.toList) = .val v H' := h
      unfold opCallV at h'
      split at h' <;> cases h'
    | invoke r n => cases h
  | defer c =>
    have h' : opDefer ρ c = .val v H' := h
    unfold opDefer at h'
    split at h'
    · split at h' <;> cases h'
    · cases h'
  | select cs b => cases h
  | _ => exact ha h (by simp)
end
end Go.AM
end
section
set_option linter.unusedVariables false
set_option linter.unusedSimpArgs false
namespace Go.AM
open Go.RowKit

/-! ### a run, step by step -/
structure DefR (γ : Gm) (d d' : Deferred) : Prop where
  pair : ∃ g cap cap', d.target = .fn (.func g) cap ∧ d'.target = .fn (.func g) cap' ∧ LR γ cap.toList cap'.toList
  args : LR γ d.args.toList d'.args.toList
inductive DR (γ : Gm) : List Deferred → List Deferred → Prop where
  | nil : DR γ [] []
  | cons {d d' : Deferred} {D D' : List Deferred} (h : DefR γ d d') (t : DR γ D D') : DR γ (d :: D) (d' :: D')
theorem DR.mono {γ γ' : Gm} (e : GSub γ γ') {D D' : List Deferred} (h : DR γ D D') : DR γ' D D' := by
  induction h with
  | nil => exact .nil
  | cons h _ ih => exact .cons ⟨let ⟨g, c, c', a, b, k⟩ := h.pair; ⟨g, c, c', a, b, k.mono e⟩, h.args.mono e⟩ ih
structure AcR (γ : Gm) (nt : Nat) (T : Tr Value) (D : List Deferred) (a : Act) : Prop where
  eval : ∀ t, VR γ (ev T (.tmp t)) (a.eval (.tmp t))
  size : nt ≤ a.tmps.size
  defs : DR γ D a.defers
theorem AcR.mono {γ γ' : Gm} (e : GSub γ γ') {nt : Nat} {T : Tr Value} {D : List Deferred} {a : Act} (h : AcR γ nt T D a) : AcR γ' nt T D a :=
  ⟨fun t => (h.eval t).mono e, h.size, h.defs.mono e⟩
theorem ev_set (T : Tr Value) (d t : Nat) (v : Value) : ev (T.set d v) (.tmp t) = if d = t then v else ev T (.tmp t) := by
  show @Option.rec Value (fun _ => Value) undef (fun v => v) ((T.set d v).get t) = _
  rw [Tr.get_set]
  split
  · rfl
  · rfl
theorem AcR.put {γ : Gm} {nt : Nat} {T : Tr Value} {D : List Deferred} {a : Act} (h : AcR γ nt T D a) {d : Nat} (hd : d < nt) {v v' : Value} (hv : VR γ v v') : AcR γ nt (T.set d v) D (a.put (some d) v') := by
  refine ⟨fun t => ?_, by simpa [Act.put] using h.size, h.defs⟩
  rw [ev_set]
  have hlt : d < a.tmps.size := Nat.lt_of_lt_of_le hd h.size
  by_cases e : d = t
  · subst e
    rw [if_pos rfl]
    have : (a.put (some d) v').eval (.tmp d) = v' := by simp [Act.put, Act.eval, hlt]
    rw [this]; exact hv
  · rw [if_neg e]
    have : (a.put (some d) v').eval (.tmp t) = a.eval (.tmp t) := by simp [Act.put, Act.eval, Array.getElem?_setIfInBounds_ne e]
    rw [this]; exact h.eval t
theorem AcR.x {γ : Gm} {nt : Nat} {T : Tr Value} {D : List Deferred} {a : Act} (h : AcR γ nt T D a) {x : Operand} (hx : okX x = true) : VR γ (ev T x) (a.eval x) := by
  cases x with
  | tmp t => exact h.eval t
  | const v => exact scal_VR 4 hx
  | global g => cases hx
  | func f => exact .func f rfl rfl (fun i x y hx => by simp at hx) (fun i x y hx => by simp at hx)
theorem AcR.ops {γ : Gm} {nt : Nat} {T : Tr Value} {D : List Deferred} {a : Act} (h : AcR γ nt T D a) {o : Oper} (ho : allL okX o.op.operands.toList = true) : OpsRel γ o (ev T) a.eval := fun x hx => by
  rw [allL_eq] at ho
  exact h.x (List.all_eq_true.1 ho x hx)
/-- from one naming to another -/
structure Mv (γ : Gm) (n : Nat) (γ' : Gm) (m : Nat) : Prop where
  sub : GSub γ γ'
  new : New n m γ γ'
  le : n ≤ m
theorem Mv.refl (γ : Gm) (n : Nat) : Mv γ n γ n := ⟨GSub.refl γ, fun b h1 h2 => absurd h1 h2, Nat.le_refl n⟩
theorem Mv.trans {a b c : Gm} {n m k : Nat} (h : Mv a n b m) (h' : Mv b m c k) : Mv a n c k :=
  ⟨h.sub.trans h'.sub, fun x h1 h2 => by
    have e1 := h.le
    have e2 := h'.le
    cases hb : b x 0 with
    | none => have := h'.new x hb h2; omega
    | some j => have := h.new x h1 (by rw [hb]; simp); omega, Nat.le_trans h.le h'.le⟩
/-- where a run stands -/
structure St (B : Nat) (w0 : World) (nt : Nat) (T : Tr Value) (D : List Deferred) (H : Heap) (γ : Gm) (a : Act) (w : World) : Prop where
  fresh : Fresh H
  rel : Rel B w0 H.tr.get γ w
  acr : AcR γ nt T D a
/-- what a call hands back -/
structure Gave (B : Nat) (w0 : World) (H : Heap) (γ : Gm) (v : Value) (H' : Heap) (v' : Value) (w' : World) : Prop where
  all : ∃ γ', Mv γ H.next γ' H'.next ∧ Rel B w0 H'.tr.get γ' w' ∧ VR γ' v v' ∧ Fresh H'
def CallOkF (P : Program) (callF : CallF) : Prop :=
  ∀ (f : FuncId) (args : List Value) (H : Heap) (v : Value) (H' : Heap), callF f args H = some (v, H') →
    ∀ (B : Nat) (w0 : World) (γ : Gm) (w : World) (args' : List Value), Fresh H → Rel B w0 H.tr.get γ w → LR γ args args' →
      (∃ v' w', (callFunc f ⟨args'⟩).run P w = .ok (.value v') w' ∧ Gave B w0 H γ v H' v' w') ∨
      ((callFunc f ⟨args'⟩).run P w = .ok (.enter f ⟨args'⟩) w ∧ Calls P f ⟨args'⟩ w fun | .returned v', w' => Gave B w0 H γ v H' v' w' | _, _ => False)
end Go.AM
end
section
set_option linter.unusedVariables false
set_option linter.unusedSimpArgs false
namespace Go.AM
open Go.RowKit

def OR.plain : OR → Bool
  | .fail => true
  | .val _ _ => true
  | _ => false
section
variable {P : Program} {ρ : Env} {o : Oper} {H : Heap}
theorem plain_of (v : Option Value) : (OR.of H v).plain = true := by cases v <;> rfl
theorem plain_pure : (pureOp P ρ o H).plain = true := by
  unfold pureOp
  simp only [bc_eq]
  repeat' split
  all_goals rfl
theorem plain_addr {v : Value} {k : Addr → OR} (h : ∀ a, (k a).plain = true) : (ofAddr v k).plain = true := by
  unfold ofAddr
  split
  · exact h _
  · rfl
theorem plain_bin {op : BinOp} {t : TypeId} {x y : Value} : (opBin P ρ o H op t x y).plain = true := by
  unfold opBin
  simp only [bc_eq]
  repeat' split
  all_goals first | rfl | exact plain_of _ | exact plain_pure
theorem plain_append {ts : List TypeId} {vs : List Value} : (opAppend P H ts vs).plain = true := by
  unfold opAppend appendOp appendAt
  simp only [bc_eq]
  repeat' split
  all_goals first | rfl
theorem plain_builtin {b : Builtin} {ts : List TypeId} {vs : List Value} (h : b ≠ .recover) : (opBuiltin P ρ o H b ts vs).plain = true := by
  unfold opBuiltin
  split
  · unfold opLen
    simp only [bc_eq]
    repeat' split
    all_goals first | rfl | exact plain_pure
  · exact plain_append
  · unfold opCopy copyOp
    simp only [bc_eq]
    repeat' split
    all_goals rfl
  · unfold opSliceData
    simp only [bc_eq]
    repeat' split
    all_goals rfl
  · unfold opUnsafeString strAt
    simp only [bc_eq]
    repeat' split
    all_goals rfl
  · exact absurd rfl h
  · exact plain_pure
theorem opA_plain (h1 : ∀ c, o.op ≠ .call c) (h2 : ∀ c, o.op ≠ .defer c) : (opA P ρ o H).plain = true := by
  obtain ⟨dst, op, ty, pos, after, guard⟩ := o
  cases op with
  | call c => exact absurd rfl (h1 c)
  | defer c => exact absurd rfl (h2 c)
  | move x => rfl
  | assign x => rfl
  | select cs b => rfl
  | pick c a b => show (opPick _ _ _ _).plain = true; unfold opPick; split <;> rfl
  | alloc t => show (opAlloc _ _ _).plain = true; unfold opAlloc; split <;> rfl
  | box t x => show (opBox _ _ _).plain = true; unfold opBox; rw [bc_eq]; split <;> rfl
  | build t parts => show (opBuild _ _ _ _ _).plain = true; unfold opBuild; split <;> rfl
  | buildSlice t n parts => show (opBuildSlice _ _ _ _ _ _).plain = true; unfold opBuildSlice; simp only [bc_eq]; (repeat' split) <;> rfl
  | load t x =>
    show (opLoad _ _ _ _).plain = true
    unfold opLoad
    refine plain_addr fun a => ?_
    split
    · rfl
    · exact plain_of _
    · split <;> rfl
  | store t x y =>
    show (opStore _ _ _ _ _).plain = true
    unfold opStore
    refine plain_addr fun a => ?_
    simp only [bc_eq]
    (repeat' split) <;> rfl
  | nilCheck x => show (opNilCheck _ _).plain = true; unfold opNilCheck; split <;> rfl
  | binOp op t x y yt => exact plain_bin
  | convert s d x =>
    show (opConvert _ _ _ _ _ _ _).plain = true
    unfold opConvert
    split
    · unfold opToBytes; split <;> rfl
    · unfold opSame; simp only [bc_eq]; (repeat' split) <;> rfl
    · unfold opConv; simp only [bc_eq]; (repeat' split) <;> first | rfl | exact plain_pure
  | makeInterface t x => show (opMakeIface _ _ _ _).plain = true; unfold opMakeIface; split <;> rfl
  | makeFunc fn a b => show (opMakeFunc _ _ _ _ _).plain = true; unfold opMakeFunc; split <;> rfl
  | makeMap t r => show (opMakeMap _ _ _ _).plain = true; unfold opMakeMap; split <;> rfl
  | makeSlice t l c => show (opMakeSlice _ _ _ _ _).plain = true; unfold opMakeSlice; simp only [bc_eq]; (repeat' split) <;> rfl
  | slice t x lo hi mx =>
    show (opSlice _ _ _ _ _ _ _).plain = true
    unfold opSlice
    (repeat' split) <;> first | rfl | exact plain_of _
  | fieldAddr s x f => show (opFieldAddr _ _ _ _ _).plain = true; unfold opFieldAddr; refine plain_addr fun a => ?_; split <;> rfl
  | field t x f => show (opField _ _ _ _ _).plain = true; unfold opField; split <;> first | rfl | exact plain_of _
  | indexAddr t x i => show (opIndexAddr _ _ _ _ _).plain = true; unfold opIndexAddr; simp only [bc_eq]; (repeat' split) <;> rfl
  | index t x i => show (opIndex _ _ _ _ _ _ _).plain = true; unfold opIndex; (repeat' split) <;> first | rfl | exact plain_pure
  | lookup t x i ok => show (opLookup _ _ _ _ _ _).plain = true; unfold opLookup; split <;> first | rfl | exact plain_of _
  | mapUpdate t m k x => show (opMapUpdate _ _ _ _ _ _).plain = true; unfold opMapUpdate updateAt; simp only [bc_eq]; (repeat' split) <;> rfl
  | range t x => show (opRange _ _ _ _).plain = true; unfold opRange; (repeat' split) <;> rfl
  | next x s => show (opNext _ _ _).plain = true; unfold opNext nextOp; simp only [bc_eq]; (repeat' split) <;> rfl
  | entry x => show (opEntry _ _).plain = true; unfold opEntry; simp only [bc_eq]; (repeat' split) <;> rfl
  | extract x i => show (opExtract _ _ _).plain = true; unfold opExtract; split <;> first | rfl | exact plain_of _
  | ready g => exact plain_pure (P := P) (ρ := ρ) (o := ⟨dst, .ready g, ty, pos, after, guard⟩) (H := H)
  | waits g => exact plain_pure (P := P) (ρ := ρ) (o := ⟨dst, .waits g, ty, pos, after, guard⟩) (H := H)
  | send c x => exact plain_pure (P := P) (ρ := ρ) (o := ⟨dst, .send c x, ty, pos, after, guard⟩) (H := H)
  | _ => exact plain_pure
theorem opA_call {f : FuncId} {args : List Value} (h : opA P ρ o H = .call f args) :
    ∃ fx xs ts first cap, o.op = .call ⟨.value fx, xs, ts⟩ ∧ ρ fx = .func (.func f) first cap ∧ args = first.toList ++ (xs.toList.map ρ ++ cap.toList) := by
  obtain ⟨dst, op, ty, pos, after, guard⟩ := o
  by_cases hc : ∃ c, op = .call c
  · obtain ⟨c, rfl⟩ := hc
    obtain ⟨callee, xs, ts⟩ := c
    cases callee with
    | value fx =>
      have h' : opCallV (ρ fx) (mapL ρ xs.toList) = .call f args := h
      unfold opCallV at h'
      split at h'
      · rename_i g first cap hfx
        injection h' with e1 e2
        subst e1
        rw [catL_eq, catL_eq, mapL_eq] at e2
        exact ⟨fx, xs, ts, first, cap, rfl, hfx, e2.symm⟩
      · cases h'
    | builtin b =>
      have h' : opBuiltin P ρ ⟨dst, .call ⟨.builtin b, xs, ts⟩, ty, pos, after, guard⟩ H b ts.toList (mapL ρ xs.toList) = .call f args := h
      by_cases hb : b = .recover
      · subst hb; cases h'
      · have := plain_builtin (P := P) (ρ := ρ) (o := ⟨dst, .call ⟨.builtin b, xs, ts⟩, ty, pos, after, guard⟩) (H := H) (ts := ts.toList) (vs := mapL ρ xs.toList) hb
        rw [h'] at this; cases this
    | invoke r n => cases h
  · by_cases hd : ∃ c, op = .defer c
    · obtain ⟨c, rfl⟩ := hd
      have h' : opDefer ρ c = .call f args := h
      unfold opDefer at h'
      split at h'
      · split at h' <;> cases h'
      · cases h'
    · have := opA_plain (P := P) (ρ := ρ) (o := ⟨dst, op, ty, pos, after, guard⟩) (H := H) (fun c e => hc ⟨c, e⟩) (fun c e => hd ⟨c, e⟩)
      rw [h] at this; cases this
theorem opA_dfr {d : Deferred} (h : opA P ρ o H = .dfr d) :
    ∃ c fx g first cap, o.op = .defer c ∧ c.callee = .value fx ∧ ρ fx = .func (.func g) first cap ∧ d = ⟨.fn (.func g) cap, ⟨first.toList ++ c.args.toList.map ρ⟩⟩ := by
  obtain ⟨dst, op, ty, pos, after, guard⟩ := o
  by_cases hc : ∃ c, op = .call c
  · obtain ⟨c, rfl⟩ := hc
    obtain ⟨callee, xs, ts⟩ := c
    cases callee with
    | value fx =>
      have h' : opCallV (ρ fx) (mapL ρ xs.toList) = .dfr d := h
      unfold opCallV at h'
      split at h' <;> cases h'
    | builtin b =>
      have h' : opBuiltin P ρ ⟨dst, .call ⟨.builtin b, xs, ts⟩, ty, pos, after, guard⟩ H b ts.toList (mapL ρ xs.toList) = .dfr d := h
      by_cases hb : b = .recover
      · subst hb; cases h'
      · have := plain_builtin (P := P) (ρ := ρ) (o := ⟨dst, .call ⟨.builtin b, xs, ts⟩, ty, pos, after, guard⟩) (H := H) (ts := ts.toList) (vs := mapL ρ xs.toList) hb
        rw [h'] at this; cases this
    | invoke r n => cases h
  · by_cases hd : ∃ c, op = .defer c
    · obtain ⟨c, rfl⟩ := hd
      have h' : opDefer ρ c = .dfr d := h
      unfold opDefer at h'
      split at h'
      · rename_i f hf
        split at h'
        · rename_i g first cap hg
          rw [catL_eq, mapL_eq] at h'
          injection h' with e
          exact ⟨c, f, g, first, cap, rfl, hf, hg, e.symm⟩
        · cases h'
      · cases h'
    · have := opA_plain (P := P) (ρ := ρ) (o := ⟨dst, op, ty, pos, after, guard⟩) (H := H) (fun c e => hc ⟨c, e⟩) (fun c e => hd ⟨c, e⟩)
      rw [h] at this; cases this
theorem opA_recov (h : opA P ρ o H = .recov) : ∃ xs ts, o.op = .call ⟨.builtin .recover, xs, ts⟩ := by
  obtain ⟨dst, op, ty, pos, after, guard⟩ := o
  by_cases hc : ∃ c, op = .call c
  · obtain ⟨c, rfl⟩ := hc
    obtain ⟨callee, xs, ts⟩ := c
    cases callee with
    | value fx =>
      have h' : opCallV (ρ fx) (mapL ρ xs.toList) = .recov := h
      unfold opCallV at h'
      split at h' <;> cases h'
    | builtin b =>
      have h' : opBuiltin P ρ ⟨dst, .call ⟨.builtin b, xs, ts⟩, ty, pos, after, guard⟩ H b ts.toList (mapL ρ xs.toList) = .recov := h
      by_cases hb : b = .recover
      · subst hb; exact ⟨xs, ts, rfl⟩
      · have := plain_builtin (P := P) (ρ := ρ) (o := ⟨dst, .call ⟨.builtin b, xs, ts⟩, ty, pos, after, guard⟩) (H := H) (ts := ts.toList) (vs := mapL ρ xs.toList) hb
        rw [h'] at this; cases this
    | invoke r n => cases h
  · by_cases hd : ∃ c, op = .defer c
    · obtain ⟨c, rfl⟩ := hd
      have h' : opDefer ρ c = .recov := h
      unfold opDefer at h'
      split at h'
      · split at h' <;> cases h'
      · cases h'
    · have := opA_plain (P := P) (ρ := ρ) (o := ⟨dst, op, ty, pos, after, guard⟩) (H := H) (fun c e => hc ⟨c, e⟩) (fun c e => hd ⟨c, e⟩)
      rw [h] at this; cases this
end
end Go.AM
end
section
set_option linter.unusedVariables false
set_option linter.unusedSimpArgs false
namespace Go.AM
open Go.RowKit
section
variable {P : Program} {callF : CallF} {B : Nat} {w0 : World} {nt : Nat} {Q : Exit → Act → World → Prop}

theorem args_run {ρ : Env} (xs : Array Operand) : xs.map ρ = ⟨xs.toList.map ρ⟩ := Array.ext' (by rw [Array.toList_map])
theorem exec_call {ρ : Env} {o : Oper} {fx : Operand} {xs : Array Operand} {ts : Array TypeId} {f : FuncId} {first cap : Array Value} (ho : o.op = .call ⟨.value fx, xs, ts⟩) (hf : ρ fx = .func (.func f) first cap) (w : World) :
    (execOp ρ o).run P w = (callFunc f ⟨first.toList ++ (xs.toList.map ρ ++ cap.toList)⟩).run P w := by
  have e : first ++ xs.map ρ ++ cap = ⟨first.toList ++ (xs.toList.map ρ ++ cap.toList)⟩ := by apply Array.ext'; simp
  simp only [execOp, ho, resolve, hf, Deferred.ofValue, Sem.run_bind, Sem.run_pure, Result.andThen_ok, invoke]
  rw [e]
theorem VR.func_inv {γ : Gm} {f : FuncId} {a b : Array Value} {v : Value} (h : VR γ (.func (.func f) a b) v) : ∃ a' b', v = .func (.func f) a' b' ∧ LR γ a.toList a'.toList ∧ LR γ b.toList b'.toList := by
  cases h with
  | func f h1 h2 h3 h4 => exact ⟨_, _, rfl, ⟨h1, h3⟩, ⟨h2, h4⟩⟩
/-- a slot is filled -/
theorem put_ok {T : Tr Value} {d : Option Tmp} {v : Value} {k : Tr Value → R} {e : AExit} {T2 : Tr Value} {D2 : List Deferred} {H2 : Heap} (h : AM.put nt T d v k = .ok e T2 D2 H2) {γ : Gm} {D : List Deferred} {a : Act} (ha : AcR γ nt T D a) {v' : Value} (hv : VR γ v v') :
    ∃ T', k T' = .ok e T2 D2 H2 ∧ AcR γ nt T' D (a.put d v') := by
  cases d with
  | none => exact ⟨T, h, ha⟩
  | some d =>
    have h' : @Bool.rec (fun _ => R) .fail (k (T.set d v)) (Nat.ble (Nat.succ d) nt) = .ok e T2 D2 H2 := h
    rw [natble] at h'
    by_cases hd : d < nt
    · have : decide (Nat.succ d ≤ nt) = true := decide_eq_true hd
      rw [this] at h'
      exact ⟨T.set d v, h', ha.put hd hv⟩
    · have : decide (Nat.succ d ≤ nt) = false := decide_eq_false hd
      rw [this] at h'
      cases h'
/-- one operation -/
theorem doOp_ok (hc : CallOkF P callF) {o : Oper} {T : Tr Value} {D : List Deferred} {H : Heap} {k : Tr Value → List Deferred → Heap → R} {e : AExit} {T2 : Tr Value} {D2 : List Deferred} {H2 : Heap}
    (h : doOp P callF false nt o T D H k = .ok e T2 D2 H2) (ho : allL okX o.op.operands.toList = true) {γ : Gm} {a : Act} {w : World} (hst : St B w0 nt T D H γ a w) {K : Act → World → Prop}
    (hk : ∀ T' D' H' γ' a' w', k T' D' H' = .ok e T2 D2 H2 → Mv γ H.next γ' H'.next → St B w0 nt T' D' H' γ' a' w' → K a' w') : o.wp P a w K Q := by
  have hops := hst.acr.ops ho
  unfold doOp at h
  cases hA : opA P (ev T) o H with
  | fail => rw [hA] at h; cases h
  | val v H' =>
    rw [hA] at h
    obtain ⟨w', γ', v', hd, hsub, hnew, hR, hv, hf, hle⟩ := (opA_ok hA).act hst.fresh B w0 γ w a.eval hst.rel hops
    obtain ⟨T', hkk, hac⟩ := put_ok h (hst.acr.mono hsub) hv
    have fin : K (a.put o.dst v') w' := hk T' D H' γ' _ w' hkk ⟨hsub, hnew, hle⟩ ⟨hf, hR, hac⟩
    unfold Oper.wp
    rcases hd with hd | ⟨hd, hu⟩
    · rw [hd]; exact fin
    · rw [hd, Oper.upon_skip]; rw [hu] at fin; exact fin
  | call f args =>
    rw [hA] at h
    have h' : @Option.rec (Value × Heap) (fun _ => R) .fail (fun q => AM.put nt T o.dst q.1 fun T' => k T' D q.2) (callF f args H) = .ok e T2 D2 H2 := h
    cases hcall : callF f args H with
    | none => rw [hcall] at h'; cases h'
    | some q =>
      obtain ⟨v, H'⟩ := q
      rw [hcall] at h'
      obtain ⟨fx, xs, ts, first, cap, hop, hfx, hargs⟩ := opA_call hA
      have h1 := hops fx (by rw [hop]; simp [Op.operands, Call.operands])
      rw [hfx] at h1
      obtain ⟨first', cap', hfx', hl1, hl2⟩ := h1.func_inv
      have hl3 : LR γ (xs.toList.map (ev T)) (xs.toList.map a.eval) := LR.map _ _ _ fun x hx => hops x (by rw [hop]; simp [Op.operands, Call.operands]; right; simpa using hx)
      have hl : LR γ args (first'.toList ++ (xs.toList.map a.eval ++ cap'.toList)) := by rw [hargs]; exact hl1.append (hl3.append hl2)
      have fin : ∀ v' w', Gave B w0 H γ v H' v' w' → K (a.put o.dst v') w' := fun v' w' hg => by
        obtain ⟨γ', hmv, hR, hv, hf⟩ := hg.all
        obtain ⟨T', hkk, hac⟩ := put_ok h' (hst.acr.mono hmv.sub) hv
        exact hk T' D H' γ' _ w' hkk hmv ⟨hf, hR, hac⟩
      unfold Oper.wp
      rw [exec_call hop hfx']
      rcases hc f args H v H' hcall B w0 γ w _ hst.fresh hst.rel hl with ⟨v', w', hrun, hg⟩ | ⟨hrun, hcalls⟩
      · rw [hrun]; exact fin v' w' hg
      · rw [hrun]
        refine Calls.mono hcalls fun e w' he => ?_
        cases e with
        | returned v' => exact fin v' w' he
        | panicked c => exact he.elim
        | outgrown => exact he.elim
  | dfr d =>
    rw [hA] at h
    obtain ⟨c, fx, g, first, cap, hop, hce, hfx, hd⟩ := opA_dfr hA
    obtain ⟨callee, xs, ts⟩ := c
    simp only at hce
    subst hce
    have h1 := hops fx (by rw [hop]; simp [Op.operands, Call.operands])
    rw [hfx] at h1
    obtain ⟨first', cap', hfx', hl1, hl2⟩ := h1.func_inv
    have hl3 : LR γ (xs.toList.map (ev T)) (xs.toList.map a.eval) := LR.map _ _ _ fun x hx => hops x (by rw [hop]; simp [Op.operands, Call.operands]; right; simpa using hx)
    have hdr : DefR γ d ⟨.fn (.func g) cap', first' ++ xs.map a.eval⟩ := by
      rw [hd]
      refine ⟨⟨g, cap, cap', rfl, rfl, hl2⟩, ?_⟩
      have : (first' ++ xs.map a.eval).toList = first'.toList ++ xs.toList.map a.eval := by simp
      rw [this]
      exact hl1.append hl3
    have hac : AcR γ nt T (d :: D) { a with defers := ⟨.fn (.func g) cap', first' ++ xs.map a.eval⟩ :: a.defers } :=
      ⟨fun t => hst.acr.eval t, hst.acr.size, .cons hdr hst.acr.defs⟩
    obtain ⟨T', hkk, hac'⟩ := put_ok h hac (VR.undef γ)
    have fin := hk T' (d :: D) H γ _ w hkk (Mv.refl _ _) ⟨hst.fresh, hst.rel, hac'⟩
    unfold Oper.wp
    have hrun : (execOp a.eval o).run P w = .ok (.defer ⟨.fn (.func g) cap', first' ++ xs.map a.eval⟩) w := by
      simp [execOp, hop, resolve, hfx', Deferred.ofValue]
    rw [hrun]
    exact fin
  | recov => rw [hA] at h; cases h
theorem wanted_ok {ops : Array Oper} {T : Tr Value} {D : List Deferred} {γ : Gm} {a : Act} (ha : AcR γ nt T D a) {o : Oper} {g : Nat × Bool} (hg : o.guard = some g) : Region.wanted o (yielded ops a.tmps) = wantedG ops T g.1 g.2 := by
  obtain ⟨j, want⟩ := g
  unfold Region.wanted wantedG yielded
  rw [hg, getL_eq, Array.getElem?_toList]
  simp only
  cases hj : ops[j]? with
  | none => rfl
  | some q =>
    simp only [Option.bind_some]
    cases hd : q.dst with
    | none => rfl
    | some d =>
      have hv := ha.eval d
      simp only [Option.bind_some]
      have hev : a.eval (.tmp d) = a.tmps.getD d undef := rfl
      rw [hev] at hv
      have hgd : a.tmps.getD d undef = (a.tmps[d]?).getD undef := by simp [Array.getD_eq_getD_getElem?]
      rw [hgd] at hv
      have hev2 : ev T (.tmp d) = (T.get d).getD undef := by
        show @Option.rec Value (fun _ => Value) undef (fun v => v) (T.get d) = _
        cases T.get d <;> rfl
      rw [hev2] at hv
      cases hT : T.get d with
      | none =>
        rw [hT] at hv
        have hu : (a.tmps[d]?).getD undef = undef := by
          have := scal_eq 1 (v := undef) rfl hv
          exact this
        cases ht : a.tmps[d]? with
        | none => simp
        | some u =>
          rw [ht] at hu
          have hu' : u = undef := hu
          subst hu'
          rfl
      | some v =>
        rw [hT] at hv
        cases ht : a.tmps[d]? with
        | none =>
          rw [ht] at hv
          have hv' : VR γ v undef := hv
          cases v with
          | bool b => cases hv'
          | _ => rfl
        | some u =>
          rw [ht] at hv
          have hv' : VR γ v u := hv
          cases v with
          | bool b =>
            have := hv'.bool_inv
            subst this
            simp
          | _ => cases hv' <;> rfl
/-- an operation of a region, in its turn -/
theorem stepOp_ok (hc : CallOkF P callF) {ops : Array Oper} {o : Oper} {T : Tr Value} {D : List Deferred} {H : Heap} {k : Tr Value → List Deferred → Heap → R} {e : AExit} {T2 : Tr Value} {D2 : List Deferred} {H2 : Heap}
    (h : stepOp P callF false ops nt o T D H k = .ok e T2 D2 H2) (ho : allL okX o.op.operands.toList = true) {γ : Gm} {a : Act} {w : World} (hst : St B w0 nt T D H γ a w) {K : Act → World → Prop}
    (hk : ∀ T' D' H' γ' a' w', k T' D' H' = .ok e T2 D2 H2 → Mv γ H.next γ' H'.next → St B w0 nt T' D' H' γ' a' w' → K a' w') :
    (Region.wanted o (yielded ops a.tmps) = true ∧ o.wp P a w K Q) ∨ (Region.wanted o (yielded ops a.tmps) = false ∧ K (a.put o.dst undef) w) := by
  unfold stepOp at h
  cases hg : o.guard with
  | none =>
    rw [hg] at h
    exact .inl ⟨by simp [Region.wanted, hg], doOp_ok hc h ho hst hk⟩
  | some g =>
    rw [hg] at h
    have hw := wanted_ok (ops := ops) hst.acr hg
    simp only [bc_eq] at h
    by_cases hwg : wantedG ops T g.1 g.2 = true
    · rw [if_pos hwg] at h
      exact .inl ⟨hw.trans hwg, doOp_ok hc h ho hst hk⟩
    · rw [if_neg hwg] at h
      obtain ⟨T', hkk, hac⟩ := put_ok h hst.acr (VR.undef γ)
      exact .inr ⟨by rw [hw]; simpa using hwg, hk T' D H γ _ w hkk (Mv.refl _ _) ⟨hst.fresh, hst.rel, hac⟩⟩
theorem seqOps_ok (hc : CallOkF P callF) {ops : Array Oper} : ∀ (l : List Oper) {T : Tr Value} {D : List Deferred} {H : Heap} {e : AExit} {T2 : Tr Value} {D2 : List Deferred} {H2 : Heap},
    seqOps P callF false ops nt l T D H = .ok e T2 D2 H2 → (∀ o ∈ l, allL okX o.op.operands.toList = true) → ∀ {γ : Gm} {a : Act} {w : World}, St B w0 nt T D H γ a w →
      (∀ γ' a' w', e = .normal → Mv γ H.next γ' H2.next → St B w0 nt T2 D2 H2 γ' a' w' → Q .normal a' w') → wpList P ops Q l a w
  | [], T, D, H, e, T2, D2, H2, h, _, γ, a, w, hst, hQ => by
    cases h
    exact hQ γ a w rfl (Mv.refl _ _) hst
  | o :: l, T, D, H, e, T2, D2, H2, h, ho, γ, a, w, hst, hQ => by
    have h' : stepOp P callF false ops nt o T D H (seqOps P callF false ops nt l) = .ok e T2 D2 H2 := h
    have hstep := stepOp_ok (Q := Q) hc h' (ho o (by simp)) hst (K := wpList P ops Q l) fun T' D' H' γ' a' w' hk hmv hst' =>
      seqOps_ok hc l hk (fun o ho' => ho o (by simp [ho'])) hst' fun γ'' a'' w'' he hmv' hst'' => hQ γ'' a'' w'' he (hmv.trans hmv') hst''
    unfold wpList
    rcases hstep with ⟨h1, h2⟩ | ⟨h1, h2⟩
    · rw [if_pos h1]; exact .inl h2
    · rw [h1]; exact h2
end
end Go.AM
end
section
set_option linter.unusedVariables false
set_option linter.unusedSimpArgs false
namespace Go.AM
open Go.RowKit

/-- how code is left, in the kit's words -/
def ex : AExit → Exit
  | .normal => .normal
  | .exit i => .exit i
  | .goto l => .goto l
  | .ret => .ret
section
variable {P : Program} {callF : CallF} {B : Nat} {w0 : World} {nt : Nat}

/-- a loop that is left within n rounds -/
def Rounds (P : Program) (c : Code) (Q : Exit → Act → World → Prop) : Nat → Act → World → Prop
  | 0, _, _ => False
  | n + 1, a, w => c.wp P (Exit.then (Rounds P c Q n) Q) a w
theorem Rounds.wp {c : Code} {Q : Exit → Act → World → Prop} {n : Nat} {a : Act} {w : World} (h : Rounds P c Q n a w) : (Code.loop c).wp P Q a w := by
  intro b k cs
  have key : ∀ n a w, Rounds P c Q n a w → ∃ e a' w', Q e a' w' ∧ Arrives P (lone (b.at a (.code c :: .inLoop c :: k)) cs w) b k cs e a' w' := by
    intro n
    induction n with
    | zero => intro a w h; exact h.elim
    | succ n ih =>
      intro a w h
      obtain ⟨e, a1, w1, hq, harr⟩ := h b (.inLoop c :: k) cs
      by_cases hn : e = .normal
      · subst hn
        obtain ⟨e2, a2, w2, hq2, harr2⟩ := ih a1 w1 hq
        exact ⟨e2, a2, w2, hq2, .of_steps (Steps.trans harr (.one step_inLoop)) harr2⟩
      · have hq' : Q e a1 w1 := by
          cases e <;> first | exact absurd rfl hn | exact hq
        exact ⟨e, a1, w1, hq', .pass (x := .inLoop c) rfl (fun _ _ => .inl hn) harr⟩
  obtain ⟨e, a', w', hq, harr⟩ := key n a w h
  exact ⟨e, a', w', hq, .of_steps (.one step_loop) harr⟩

/-- what is said of code, at a fuel -/
def Snd (P : Program) (n : Nat) (c : Code) (Q : Exit → Act → World → Prop) (a : Act) (w : World) : Prop :=
  match c with
  | .loop b => Rounds P b Q n a w
  | c => c.wp P Q a w
theorem Snd.wp {n : Nat} {c : Code} {Q : Exit → Act → World → Prop} {a : Act} {w : World} (h : Snd P n c Q a w) : c.wp P Q a w := by
  cases c with
  | loop b => exact Rounds.wp h
  | _ => exact h
def DrawOkF (P : Program) (callF : CallF) : Prop :=
  ∀ (B : Nat) (w0 : World) (nt id : Nat) (ops : Array Oper) (T : Tr Value) (D : List Deferred) (H : Heap) (e : AExit) (T2 : Tr Value) (D2 : List Deferred) (H2 : Heap), okOps ops = true → drawOps P callF ops nt T D H = .ok e T2 D2 H2 →
    ∀ (γ : Gm) (a : Act) (w : World) (Q : Exit → Act → World → Prop), St B w0 nt T D H γ a w → (∀ γ' a' w', e = .normal → Mv γ H.next γ' H2.next → St B w0 nt T2 D2 H2 γ' a' w' → Q .normal a' w') → (Code.region id ops true).wp P Q a w
def RecOk (P : Program) (n nt : Nat) (rec : Rec) : Prop :=
  ∀ (c : Code) (T : Tr Value) (D : List Deferred) (H : Heap) (e : AExit) (T2 : Tr Value) (D2 : List Deferred) (H2 : Heap), rec c T D H = .ok e T2 D2 H2 →
    ∀ (B : Nat) (w0 : World) (γ : Gm) (a : Act) (w : World) (Q : Exit → Act → World → Prop), St B w0 nt T D H γ a w → (∀ γ' a' w', Mv γ H.next γ' H2.next → St B w0 nt T2 D2 H2 γ' a' w' → Q (ex e) a' w') → Snd P n c Q a w

theorem onNormal_ok {r : R} {k : Tr Value → List Deferred → Heap → R} {e : AExit} {T2 : Tr Value} {D2 : List Deferred} {H2 : Heap} (h : onNormal r k = .ok e T2 D2 H2) :
    (∃ T D H, r = .ok .normal T D H ∧ k T D H = .ok e T2 D2 H2) ∨ (e ≠ .normal ∧ r = .ok e T2 D2 H2) := by
  cases r with
  | fail => cases h
  | ok e' T D H =>
    cases e' with
    | normal => exact .inl ⟨T, D, H, rfl, h⟩
    | exit i => cases h; exact .inr ⟨by simp, rfl⟩
    | goto i => cases h; exact .inr ⟨by simp, rfl⟩
    | ret => cases h; exact .inr ⟨by simp, rfl⟩
theorem then_of {N : Act → World → Prop} {Q : Exit → Act → World → Prop} {e : AExit} {a : Act} {w : World} (hn : e ≠ .normal) (h : Q (ex e) a w) : Exit.then N Q (ex e) a w := by
  cases e with
  | normal => exact absurd rfl hn
  | _ => exact h
theorem onBool_ok {v : Value} {x y : R} {e : AExit} {T2 : Tr Value} {D2 : List Deferred} {H2 : Heap} (h : onBool v x y = .ok e T2 D2 H2) : ∃ t, v = .bool t ∧ (if t then x else y) = .ok e T2 D2 H2 := by
  unfold onBool at h
  split at h
  · rename_i t; rw [bc_eq] at h; exact ⟨t, rfl, h⟩
  · cases h
theorem execStep_ok {n : Nat} {rec : Rec} (hc : CallOkF P callF) (hd : DrawOkF P callF) (hr : RecOk P n nt rec) : RecOk P (n + 1) nt (execStep P callF nt rec) := by
  intro c T D H e T2 D2 H2 h B w0 γ a w Q hst hQ
  cases c with
  | skip => cases h; exact wp_skip (hQ γ a w (Mv.refl _ _) hst)
  | label l => cases h; exact wp_label (hQ γ a w (Mv.refl _ _) hst)
  | exit i => cases h; exact wp_exit (hQ γ a w (Mv.refl _ _) hst)
  | ret => cases h; exact wp_ret (hQ γ a w (Mv.refl _ _) hst)
  | goto l => cases h
  | refuse s => cases h
  | rangeFunc f ps x y => cases h
  | region id ops draw =>
    have h' : bc (okOps ops) (bc draw (drawOps P callF ops nt T D H) (seqOps P callF false ops nt ops.toList T D H)) .fail = .ok e T2 D2 H2 := h
    rw [bc_eq] at h'
    split at h'
    · rename_i hok
      have hall : ∀ o ∈ ops.toList, allL okX o.op.operands.toList = true := by
        unfold okOps at hok
        rw [allL_eq] at hok
        exact List.all_eq_true.1 hok
      cases draw with
      | true => exact hd B w0 nt id ops T D H e T2 D2 H2 hok h' γ a w Q hst fun γ' a' w' he hmv hst' => by subst he; exact hQ γ' a' w' hmv hst'
      | false => exact wp_region_list (seqOps_ok hc ops.toList h' hall hst fun γ' a' w' he hmv hst' => by subst he; exact hQ γ' a' w' hmv hst')
    · cases h'
  | seq x y =>
    have h' : onNormal (rec x T D H) (rec y) = .ok e T2 D2 H2 := h
    refine wp_seq ?_
    rcases onNormal_ok h' with ⟨T1, D1, H1, h1, h2⟩ | ⟨hn, h1⟩
    · exact (hr x T D H _ T1 D1 H1 h1 B w0 γ a w (Exit.then (y.wp P Q) Q) hst fun γ' a' w' hmv hst' =>
        (hr y T1 D1 H1 _ T2 D2 H2 h2 B w0 γ' a' w' Q hst' fun γ'' a'' w'' hmv' hst'' => hQ γ'' a'' w'' (hmv.trans hmv') hst'').wp).wp
    · exact (hr x T D H _ T2 D2 H2 h1 B w0 γ a w (Exit.then (y.wp P Q) Q) hst fun γ' a' w' hmv hst' => then_of hn (hQ γ' a' w' hmv hst')).wp
  | cond x p q =>
    have h' : bc (okX x) (onBool (ev T x) (rec p T D H) (rec q T D H)) .fail = .ok e T2 D2 H2 := h
    rw [bc_eq] at h'
    split at h'
    · rename_i hx
      obtain ⟨t, ht, h2⟩ := onBool_ok h'
      have hv := hst.acr.x hx
      rw [ht] at hv
      refine wp_cond hv.bool_inv ?_
      cases t with
      | true => exact (hr p T D H e T2 D2 H2 h2 B w0 γ a w Q hst hQ).wp
      | false => exact (hr q T D H e T2 D2 H2 h2 B w0 γ a w Q hst hQ).wp
    · cases h'
  | block id b =>
    have h' : onBlock id (rec b T D H) = .ok e T2 D2 H2 := h
    refine wp_block ?_
    cases hb : rec b T D H with
    | fail => rw [hb] at h'; cases h'
    | ok e1 T1 D1 H1 =>
      rw [hb] at h'
      refine (hr b T D H e1 T1 D1 H1 hb B w0 γ a w (Exit.inBlock id Q) hst fun γ' a' w' hmv hst' => ?_).wp
      cases e1 with
      | normal => cases h'; exact hQ γ' a' w' hmv hst'
      | exit i =>
        have h2 : bc (Nat.beq i id) (R.ok .normal T1 D1 H1) (.ok (.exit i) T1 D1 H1) = .ok e T2 D2 H2 := h'
        rw [bc_eq, natbeq] at h2
        show (if i = id then Q .normal a' w' else Q (.exit i) a' w')
        by_cases hi : i = id
        · rw [if_pos (by simpa using hi)] at h2; cases h2; rw [if_pos hi]; exact hQ γ' a' w' hmv hst'
        · rw [if_neg (by simpa using hi)] at h2; cases h2; rw [if_neg hi]; exact hQ γ' a' w' hmv hst'
      | goto i => cases h'; exact hQ γ' a' w' hmv hst'
      | ret => cases h'; exact hQ γ' a' w' hmv hst'
  | loop b =>
    have h' : onNormal (rec b T D H) (rec (.loop b)) = .ok e T2 D2 H2 := h
    show b.wp P (Exit.then (Rounds P b Q n) Q) a w
    rcases onNormal_ok h' with ⟨T1, D1, H1, h1, h2⟩ | ⟨hn, h1⟩
    · exact (hr b T D H _ T1 D1 H1 h1 B w0 γ a w (Exit.then (Rounds P b Q n) Q) hst fun γ' a' w' hmv hst' =>
        hr (.loop b) T1 D1 H1 _ T2 D2 H2 h2 B w0 γ' a' w' Q hst' fun γ'' a'' w'' hmv' hst'' => hQ γ'' a'' w'' (hmv.trans hmv') hst'').wp
    · exact (hr b T D H _ T2 D2 H2 h1 B w0 γ a w (Exit.then (Rounds P b Q n) Q) hst fun γ' a' w' hmv hst' => then_of hn (hQ γ' a' w' hmv hst')).wp
  | scope b =>
    have h' : onScope (rec b T D H) = .ok e T2 D2 H2 := h
    refine wp_scope_straight ?_
    cases hb : rec b T D H with
    | fail => rw [hb] at h'; cases h'
    | ok e1 T1 D1 H1 =>
      rw [hb] at h'
      refine (hr b T D H e1 T1 D1 H1 hb B w0 γ a w (Exit.noGoto Q) hst fun γ' a' w' hmv hst' => ?_).wp
      cases e1 with
      | normal => cases h'; exact hQ γ' a' w' hmv hst'
      | exit i => cases h'; exact hQ γ' a' w' hmv hst'
      | goto i => cases h'
      | ret => cases h'; exact hQ γ' a' w' hmv hst'
end
end Go.AM
end
section
set_option linter.unusedVariables false
set_option linter.unusedSimpArgs false
namespace Go.AM
open Go.RowKit
section
variable {P : Program} {callF : CallF} {B : Nat} {w0 : World} {nt : Nat}

theorem doOp_rc {o : Oper} {T : Tr Value} {D : List Deferred} {H : Heap} {k : Tr Value → List Deferred → Heap → R} (h : opA P (ev T) o H ≠ .recov) : doOp P callF true nt o T D H k = doOp P callF false nt o T D H k := by
  unfold doOp
  cases hA : opA P (ev T) o H with
  | recov => exact absurd hA h
  | _ => rfl
theorem stepOp_rc {ops : Array Oper} {o : Oper} {T : Tr Value} {D : List Deferred} {H : Heap} {k : Tr Value → List Deferred → Heap → R} (h : opA P (ev T) o H ≠ .recov) : stepOp P callF true ops nt o T D H k = stepOp P callF false ops nt o T D H k := by
  unfold stepOp
  rw [doOp_rc h]
theorem seqOpsD_ok (hc : CallOkF P callF) {ops : Array Oper} {cs : List Frame} (hcs : recoverD cs = none) {Q : Exit → Act → List Frame → World → Prop} : ∀ (l : List Oper) (j : Nat) {T : Tr Value} {D : List Deferred} {H : Heap} {e : AExit} {T2 : Tr Value} {D2 : List Deferred} {H2 : Heap},
    (∀ i, l[i]? = ops[j + i]?) → seqOps P callF true ops nt l T D H = .ok e T2 D2 H2 → (∀ o ∈ l, allL okX o.op.operands.toList = true) → ∀ {γ : Gm} {a : Act} {w : World}, St B w0 nt T D H γ a w →
      (∀ γ' a' w', e = .normal → Mv γ H.next γ' H2.next → St B w0 nt T2 D2 H2 γ' a' w' → Q .normal a' cs w') → wpOpsS P ops Q (List.range' j l.length) a cs w
  | [], j, T, D, H, e, T2, D2, H2, _, h, _, γ, a, w, hst, hQ => by
    cases h
    exact hQ γ a w rfl (Mv.refl _ _) hst
  | o :: l, j, T, D, H, e, T2, D2, H2, hl, h, ho, γ, a, w, hst, hQ => by
    have hj : ops[j]? = some o := by have := hl 0; simpa using this.symm
    have hl' : ∀ i, l[i]? = ops[j + 1 + i]? := fun i => by have := hl (i + 1); simpa [Nat.add_assoc, Nat.add_comm 1 i] using this
    have h' : stepOp P callF true ops nt o T D H (seqOps P callF true ops nt l) = .ok e T2 D2 H2 := h
    have next : ∀ T' D' H' γ' a' w', seqOps P callF true ops nt l T' D' H' = .ok e T2 D2 H2 → Mv γ H.next γ' H'.next → St B w0 nt T' D' H' γ' a' w' → wpOpsS P ops Q (List.range' (j + 1) l.length) a' cs w' := fun T' D' H' γ' a' w' hk hmv hst' =>
      seqOpsD_ok hc hcs l (j + 1) hl' hk (fun o ho' => ho o (by simp [ho'])) hst' fun γ'' a'' w'' he hmv' hst'' => hQ γ'' a'' w'' he (hmv.trans hmv') hst''
    rw [List.length_cons, List.range'_succ]
    simp only [wpOpsS, hj]
    by_cases hA : opA P (ev T) o H = .recov
    · obtain ⟨xs, ts, hop⟩ := opA_recov hA
      have hrun : (execOp a.eval o).run P w = .ok .recover w := by simp [execOp, hop, resolve, invoke, builtin]
      unfold stepOp at h'
      have hdo : doOp P callF true nt o T D H (seqOps P callF true ops nt l) = AM.put nt T o.dst .nilIface fun T' => seqOps P callF true ops nt l T' D H := by
        unfold doOp; rw [hA]
      rw [hdo] at h'
      cases hg : o.guard with
      | none =>
        rw [hg] at h'
        obtain ⟨T', hkk, hac⟩ := put_ok (k := fun T' => seqOps P callF true ops nt l T' D H) h' hst.acr (v' := .nilIface) .nilIface
        have : Region.wanted o (yielded ops a.tmps) = true := by simp [Region.wanted, hg]
        rw [if_pos this, hrun]
        simp only [hcs]
        exact next T' D H γ _ w hkk (Mv.refl _ _) ⟨hst.fresh, hst.rel, hac⟩
      | some g =>
        rw [hg] at h'
        have hw := wanted_ok (ops := ops) hst.acr hg
        simp only [bc_eq] at h'
        by_cases hwg : wantedG ops T g.1 g.2 = true
        · rw [if_pos hwg] at h'
          obtain ⟨T', hkk, hac⟩ := put_ok (k := fun T' => seqOps P callF true ops nt l T' D H) h' hst.acr (v' := .nilIface) .nilIface
          rw [if_pos (hw.trans hwg), hrun]
          simp only [hcs]
          exact next T' D H γ _ w hkk (Mv.refl _ _) ⟨hst.fresh, hst.rel, hac⟩
        · rw [if_neg hwg] at h'
          obtain ⟨T', hkk, hac⟩ := put_ok (k := fun T' => seqOps P callF true ops nt l T' D H) h' hst.acr (VR.undef γ)
          rw [if_neg (by rw [hw]; exact hwg)]
          exact next T' D H γ _ w hkk (Mv.refl _ _) ⟨hst.fresh, hst.rel, hac⟩
    · rw [stepOp_rc hA] at h'
      have hstep := stepOp_ok (Q := fun e a' w' => Q e a' cs w') hc h' (ho o (by simp)) hst (K := fun a' w' => wpOpsS P ops Q (List.range' (j + 1) l.length) a' cs w') next
      rcases hstep with ⟨h1, h2⟩ | ⟨h1, h2⟩
      · rw [if_pos h1]
        unfold Oper.wp at h2
        generalize (execOp a.eval o).run P w = r at h2
        split
        · exact h2.elim
        · exact h2
      · rw [h1]; exact h2
def RecDOk (P : Program) (nt : Nat) (rec : Rec) : Prop :=
  ∀ (c : Code) (T : Tr Value) (D : List Deferred) (H : Heap) (e : AExit) (T2 : Tr Value) (D2 : List Deferred) (H2 : Heap), rec c T D H = .ok e T2 D2 H2 →
    ∀ (B : Nat) (w0 : World) (γ : Gm) (a : Act) (w : World) (cs : List Frame) (Q : Exit → Act → List Frame → World → Prop), recoverD cs = none → St B w0 nt T D H γ a w → (∀ γ' a' w', Mv γ H.next γ' H2.next → St B w0 nt T2 D2 H2 γ' a' w' → Q (ex e) a' cs w') → c.wpS P Q a cs w
theorem thenS_of {N : Act → List Frame → World → Prop} {Q : Exit → Act → List Frame → World → Prop} {e : AExit} {a : Act} {cs : List Frame} {w : World} (hn : e ≠ .normal) (h : Q (ex e) a cs w) : Exit.thenS N Q (ex e) a cs w := by
  cases e with
  | normal => exact absurd rfl hn
  | _ => exact h
theorem execDStep_ok {n : Nat} {rec recD : Rec} (hc : CallOkF P callF) (hd : DrawOkF P callF) (hr : RecOk P n nt rec) (hrd : RecDOk P nt recD) : RecDOk P nt (execDStep P callF nt rec recD) := by
  intro c T D H e T2 D2 H2 h B w0 γ a w cs Q hcs hst hQ
  have plain : ∀ c, execStep P callF nt rec c T D H = .ok e T2 D2 H2 → c.wpS P Q a cs w := fun c h =>
    wpS_of_wp (execStep_ok hc hd hr c T D H e T2 D2 H2 h B w0 γ a w _ hst hQ).wp
  cases c with
  | region id ops draw =>
    have h' : bc (okOps ops) (bc draw (drawOps P callF ops nt T D H) (seqOps P callF true ops nt ops.toList T D H)) .fail = .ok e T2 D2 H2 := h
    rw [bc_eq] at h'
    split at h'
    · rename_i hok
      have hall : ∀ o ∈ ops.toList, allL okX o.op.operands.toList = true := by
        have hok' := hok
        unfold okOps at hok'
        rw [allL_eq] at hok'
        exact List.all_eq_true.1 hok'
      cases draw with
      | true => exact wpS_of_wp (hd B w0 nt id ops T D H e T2 D2 H2 hok h' γ a w _ hst fun γ' a' w' he hmv hst' => by subst he; exact hQ γ' a' w' hmv hst')
      | false =>
        refine wpS_region ?_
        have := seqOpsD_ok (Q := Q) hc hcs ops.toList 0 (fun i => by simp) h' hall hst fun γ' a' w' he hmv hst' => by subst he; exact hQ γ' a' w' hmv hst'
        rwa [Array.length_toList, ← List.range_eq_range'] at this
    · cases h'
  | seq x y =>
    have h' : onNormal (recD x T D H) (recD y) = .ok e T2 D2 H2 := h
    refine wpS_seq ?_
    rcases onNormal_ok h' with ⟨T1, D1, H1, h1, h2⟩ | ⟨hn, h1⟩
    · exact hrd x T D H _ T1 D1 H1 h1 B w0 γ a w cs (Exit.thenS (y.wpS P Q) Q) hcs hst fun γ' a' w' hmv hst' =>
        hrd y T1 D1 H1 _ T2 D2 H2 h2 B w0 γ' a' w' cs Q hcs hst' fun γ'' a'' w'' hmv' hst'' => hQ γ'' a'' w'' (hmv.trans hmv') hst''
    · exact hrd x T D H _ T2 D2 H2 h1 B w0 γ a w cs (Exit.thenS (y.wpS P Q) Q) hcs hst fun γ' a' w' hmv hst' => thenS_of hn (hQ γ' a' w' hmv hst')
  | cond x p q =>
    have h' : bc (okX x) (onBool (ev T x) (recD p T D H) (recD q T D H)) .fail = .ok e T2 D2 H2 := h
    rw [bc_eq] at h'
    split at h'
    · rename_i hx
      obtain ⟨t, ht, h2⟩ := onBool_ok h'
      have hv := hst.acr.x hx
      rw [ht] at hv
      refine wpS_cond hv.bool_inv ?_
      cases t with
      | true => exact hrd p T D H e T2 D2 H2 h2 B w0 γ a w cs Q hcs hst hQ
      | false => exact hrd q T D H e T2 D2 H2 h2 B w0 γ a w cs Q hcs hst hQ
    · cases h'
  | skip => exact plain _ h
  | label l => exact plain _ h
  | exit i => exact plain _ h
  | ret => exact plain _ h
  | goto l => exact plain _ h
  | refuse s => exact plain _ h
  | rangeFunc f ps x y => exact plain _ h
  | block id b => exact plain _ h
  | loop b => exact plain _ h
  | scope b => exact plain _ h
end
end Go.AM
end
section
set_option linter.unusedVariables false
set_option linter.unusedSimpArgs false
namespace Go.AM
open Go.RowKit
section
variable {P : Program} {B : Nat} {w0 : World} {nt : Nat}

/-! ### what a function hands back -/
def resS (tmps : Array Value) (r : ResultVar) : Sem Value :=
  match r with
  | .tmp t => pure (tmps.getD t undef)
  | .cell a t => do loadVar t (← asAddr (tmps.getD a undef))
theorem results_eq (fn : Func) (tmps : Array Value) : results fn tmps = (do
    let vs ← fn.results.mapM (resS tmps)
    pure (if h : vs.size = 1 then vs[0] else .tuple vs)) := by
  unfold results
  congr 1
theorem resV_ok {T : Tr Value} {D : List Deferred} {H : Heap} {γ : Gm} {a : Act} {w : World} (hst : St B w0 nt T D H γ a w) {r : ResultVar} {v : Value} (h : resV P T H r = some v) :
    ∃ v', (resS a.tmps r).run P w = .ok v' w ∧ VR γ v v' := by
  cases r with
  | tmp t =>
    have h' : some (ev T (.tmp t)) = some v := h
    obtain rfl := Option.some.inj h'
    exact ⟨a.tmps.getD t undef, rfl, hst.acr.eval t⟩
  | cell c t =>
    unfold resV at h
    have hv := hst.acr.eval c
    have hrun : (resS a.tmps (.cell c t)) = (do loadVar t (← asAddr (a.eval (.tmp c)))) := rfl
    rw [hrun]
    split at h
    · rename_i heq; cases heq
    · rename_i a' t' hr
      injection hr with e1 e2
      subst e1 e2
      split at h
      · rename_i p hp hl
        rw [hp] at hv
        obtain ⟨q, hq, ha⟩ := hv.ptr_inv
        obtain ⟨v', hc, hr'⟩ := hst.rel.rd (H := H) (fun _ _ h => h) ha h
        exact ⟨v', by rw [hq]; simp [asAddr, run_loadVar_cell (loadT_some hl) hc], hr'⟩
      · rename_i p n hp hl
        rw [hp] at hv
        obtain ⟨q, hq, ha⟩ := hv.ptr_inv
        obtain ⟨l, hl', hl2⟩ := Option.map_eq_some_iff.1 h
        subst hl2
        obtain ⟨l', h1, h2, h3⟩ := hst.rel.rdN (H := H) (fun _ _ h => h) ha hl'
        have hlen : l'.length = n := by rw [← h1.1]; exact h2
        subst hlen
        exact ⟨.agg ⟨l'⟩, by rw [hq]; simp [asAddr, run_loadVar_row (loadT_some hl) h3], VR.mkAgg h1⟩
      · cases h
theorem resA_cons {T : Tr Value} {H : Heap} {r : ResultVar} {l : List ResultVar} {vs : List Value} (h : resA P T H (r :: l) = some vs) : ∃ v t, vs = v :: t ∧ resV P T H r = some v ∧ resA P T H l = some t := by
  have h' : (match resV P T H r, resA P T H l with | some v, some l => some (v :: l) | _, _ => none) = some vs := h
  split at h'
  · rename_i v t hv ht
    exact ⟨v, t, (Option.some.inj h').symm, hv, ht⟩
  · cases h'
theorem resA_ok {T : Tr Value} {D : List Deferred} {H : Heap} {γ : Gm} {a : Act} {w : World} (hst : St B w0 nt T D H γ a w) : ∀ {l : List ResultVar} {vs : List Value}, resA P T H l = some vs →
    ∃ vs', (l.mapM (resS a.tmps)).run P w = .ok vs' w ∧ LR γ vs vs'
  | [], vs, h => by cases h; exact ⟨[], rfl, LR.nil γ⟩
  | r :: l, vs, h => by
    obtain ⟨v, t, rfl, hv, ht⟩ := resA_cons h
    obtain ⟨v', h1, h2⟩ := resV_ok hst hv
    obtain ⟨t', h3, h4⟩ := resA_ok hst ht
    exact ⟨v' :: t', by simp [List.mapM_cons, h1, h3], LR.cons h2 h4⟩
theorem retV_rel {γ : Gm} {vs vs' : List Value} (h : LR γ vs vs') : VR γ (retV vs) (if h : (⟨vs'⟩ : Array Value).size = 1 then (⟨vs'⟩ : Array Value)[0] else .tuple ⟨vs'⟩) := by
  match vs, h with
  | [], h => rw [h.nil_inv]; exact VR.mkTuple (LR.nil γ)
  | [v], h =>
    obtain ⟨v', t, rfl, hv, ht⟩ := h.cons_inv
    rw [ht.nil_inv]; exact hv
  | v :: u :: l, h =>
    obtain ⟨v', t, rfl, hv, ht⟩ := h.cons_inv
    obtain ⟨u', t', rfl, hu, ht'⟩ := ht.cons_inv
    have hne : ¬ (⟨v' :: u' :: t'⟩ : Array Value).size = 1 := by simp
    rw [dif_neg hne]
    exact VR.mkTuple (LR.cons hv (LR.cons hu ht'))
theorem results_ok {fn : Func} {T : Tr Value} {D : List Deferred} {H : Heap} {γ : Gm} {a : Act} {w : World} (hst : St B w0 nt T D H γ a w) {vs : List Value} (h : resA P T H fn.results.toList = some vs) :
    ∃ v', (results fn a.tmps).run P w = .ok v' w ∧ VR γ (retV vs) v' := by
  obtain ⟨vs', h1, h2⟩ := resA_ok hst h
  refine ⟨_, ?_, retV_rel h2⟩
  rw [results_eq]
  simp [Array.mapM_eq_mapM_toList, h1]
theorem initT_get : ∀ (l : List Value) (i : Nat) (T : Tr Value) (j : Nat), (initT l i T).get j = if i ≤ j ∧ j < i + l.length then l[j - i]? else T.get j
  | [], i, T, j => by rw [if_neg (by simp only [List.length_nil]; omega)]; rfl
  | v :: l, i, T, j => by
    have e : initT (v :: l) i T = initT l (i + 1) (T.set i v) := rfl
    rw [e, initT_get l (i + 1), Tr.get_set]
    by_cases h1 : i = j
    · subst h1; rw [if_neg (by omega), if_pos rfl, if_pos (by simp)]; simp
    · by_cases h2 : i + 1 ≤ j ∧ j < i + 1 + l.length
      · rw [if_pos h2, if_pos (by simp; omega)]
        have : j - i = (j - (i + 1)) + 1 := by omega
        rw [this]; simp
      · rw [if_neg h2, if_neg h1, if_neg (by simp; omega)]
theorem initT_ok {γ : Gm} {args args' : List Value} (h : LR γ args args') (n : Nat) : AcR γ n (initT args 0 .nil) [] { tmps := (⟨args'⟩ : Array Value) ++ Array.replicate (n - (⟨args'⟩ : Array Value).size) undef, defers := [] } := by
  refine ⟨fun (t : Nat) => ?_, ?_, .nil⟩
  · have hev : ev (initT args 0 .nil) (.tmp t) = ((initT args 0 .nil).get t).getD undef := by
      show @Option.rec Value (fun _ => Value) undef (fun v => v) _ = _
      cases (initT args 0 .nil).get t <;> rfl
    rw [hev, initT_get]
    by_cases ht : t < args.length
    · rw [if_pos (by omega), Nat.sub_zero, List.getElem?_eq_getElem ht]
      obtain ⟨y, hy, hr⟩ := h.get (List.getElem?_eq_getElem ht)
      have hlt : t < args'.length := (List.getElem?_eq_some_iff.1 hy).1
      have : (Act.mk ((⟨args'⟩ : Array Value) ++ Array.replicate (n - (⟨args'⟩ : Array Value).size) undef) []).eval (.tmp t) = y := by
        simp only [Act.eval, Array.getD_eq_getD_getElem?]
        rw [Array.getElem?_append_left (by simpa using hlt), ← Array.getElem?_toList, hy]; rfl
      rw [this]; exact hr
    · rw [if_neg (by omega), Tr.get_nil]
      have : (Act.mk ((⟨args'⟩ : Array Value) ++ Array.replicate (n - (⟨args'⟩ : Array Value).size) undef) []).eval (.tmp t) = undef := by
        simp only [Act.eval, Array.getD_eq_getD_getElem?]
        have hge : args'.length ≤ t := by rw [← h.1]; omega
        rw [Array.getElem?_append_right (by simpa using hge), Array.getElem?_replicate]
        split <;> rfl
      rw [this]; exact VR.undef γ
  · simp; omega
end
end Go.AM
end
section
set_option linter.unusedVariables false
set_option linter.unusedSimpArgs false
namespace Go.AM
open Go.RowKit
section
variable {P : Program} {B : Nat} {w0 : World} {nt : Nat}

def ExtOkF (P : Program) : Prop :=
  ∀ (f : FuncId) (fn : Func), P.funcs[f]? = some fn → fn.body = none → okName fn = true → ∀ (args : List Value) (H : Heap) (v : Value) (H' : Heap), extA (extOf fn) args H = some (v, H') →
    ∀ (γ : Gm) (args' : List Value) (w : World), LR γ args args' → H' = H ∧ ∃ v', (callFunc f ⟨args'⟩).run P w = .ok (.value v') w ∧ VR γ v v'
def CallDOkF (P : Program) (callD : CallF) : Prop :=
  ∀ (g : FuncId) (args : List Value) (H : Heap) (v : Value) (H' : Heap), callD g args H = some (v, H') → ∀ (B : Nat) (w0 : World) (γ : Gm) (w : World) (args' : List Value), Fresh H → Rel B w0 H.tr.get γ w → LR γ args args' →
    (callFunc g ⟨args'⟩).run P w = .ok (.enter g ⟨args'⟩) w ∧ CallsD P g ⟨args'⟩ .returning w fun | .returned v', u', w' => u' = .returning ∧ Gave B w0 H γ v H' v' w' | _, _, _ => False
theorem leaves_ok {callD : CallF} (hd : CallDOkF P callD) {fn : Func} {tmps : Array Value} {R : Ending → World → Prop} : ∀ (D : List Deferred) {D' : List Deferred} {H H' : Heap} {γ : Gm} {w : World}, runDefers callD D H = some H' → DR γ D D' → Fresh H → Rel B w0 H.tr.get γ w →
    (∀ γ' w', Mv γ H.next γ' H'.next → Rel B w0 H'.tr.get γ' w' → Fresh H' → ∃ v, (results fn tmps).run P w' = .ok v w' ∧ R (.returned v) w') → Leaves P fn tmps R D' .returning w
  | [], D', H, H', γ, w, h, hr, hf, hR, hk => by
    cases hr
    cases h
    exact hk γ w (Mv.refl _ _) hR hf
  | d :: D, D', H, H', γ, w, h, hr, hf, hR, hk => by
    cases hr with
    | cons hdr ht =>
      rename_i d' D2
      obtain ⟨g, cap, cap', h1, h2, hcap⟩ := hdr.pair
      obtain ⟨t', as'⟩ := d'
      simp only at h2
      subst h2
      unfold runDefers at h
      rw [h1] at h
      simp only at h
      cases hcall : callD g (catL d.args.toList cap.toList) H with
      | none => rw [hcall] at h; cases h
      | some q =>
        obtain ⟨v, H1⟩ := q
        rw [hcall] at h
        simp only at h
        rw [catL_eq] at hcall
        obtain ⟨r1, r2⟩ := hd g _ H v H1 hcall B w0 γ w (as'.toList ++ cap'.toList) hf hR (hdr.args.append hcap)
        have he : (⟨as'.toList ++ cap'.toList⟩ : Array Value) = as' ++ cap' := by apply Array.ext'; simp
        rw [he] at r1 r2
        refine leaves_cons (by simp) r1 (CallsD.mono r2 fun e u' w' hh => ?_)
        cases e with
        | returned v' =>
          obtain ⟨hu, hg⟩ := hh
          subst hu
          obtain ⟨γ', hmv, hR', hv, hf'⟩ := hg.all
          exact leaves_ok hd D h (ht.mono hmv.sub) hf' hR' fun γ'' w'' hmv' hR'' hf'' => hk γ'' w'' (hmv.trans hmv') hR'' hf''
        | panicked c => exact hh.elim
        | outgrown => exact hh.elim
theorem enter_run {f : FuncId} {fn : Func} {c : Code} (hf : P.funcs[f]? = some fn) (hn : okName fn = true) (hb : fn.body = some c) (args : Array Value) (w : World) : (callFunc f args).run P w = .ok (.enter f args) w := by
  have h1 : ¬ fn.name = "runtime.NumGoroutine" := fun e => by unfold okName at hn; rw [e] at hn; simp at hn
  simp [callFunc, program, Sem.run, hf, h1, hb]
theorem leave_ok {callD : CallF} (hd : CallDOkF P callD) {fn : Func} {T : Tr Value} {D : List Deferred} {H H1 H' : Heap} {v : Value} (h : leave P callD fn T D H1 = some (v, H')) {γ γ1 : Gm} {a : Act} {w1 : World} (hmv : Mv γ H.next γ1 H1.next) (hst : St B w0 nt T D H1 γ1 a w1) :
    Leaves P fn a.tmps (fun | .returned v', w' => Gave B w0 H γ v H' v' w' | _, _ => False) a.defers .returning w1 := by
  unfold leave at h
  cases hrd : runDefers callD D H1 with
  | none => rw [hrd] at h; cases h
  | some H2 =>
    rw [hrd] at h
    simp only at h
    cases hres : resA P T H2 fn.results.toList with
    | none => rw [hres] at h; cases h
    | some vs =>
      rw [hres] at h
      cases h
      refine leaves_ok hd D hrd hst.acr.defs hst.fresh hst.rel fun γ2 w2 hmv2 hR2 hf2 => ?_
      obtain ⟨v', hv1, hv2⟩ := results_ok (nt := nt) (B := B) (w0 := w0) (D := D) (a := a) ⟨hf2, hR2, hst.acr.mono hmv2.sub⟩ hres
      exact ⟨v', hv1, ⟨γ2, hmv.trans hmv2, hR2, hv2, hf2⟩⟩
theorem callStep_ok {n : Nat} {exec : Exec} {callD : CallF} (hx : ∀ nt, RecOk P n nt (exec nt)) (hd : CallDOkF P callD) (he : ExtOkF P) : CallOkF P (callStep P exec callD) := by
  intro f args H v H' h B w0 γ w args' hfr hR hl
  unfold callStep fnT at h
  cases hf : P.funcs[f]? with
  | none => rw [hf] at h; cases h
  | some fn =>
    rw [hf] at h
    simp only [bc_eq] at h
    split at h
    · rename_i hn
      cases hb : fn.body with
      | none =>
        rw [hb] at h
        obtain ⟨rfl, v', h1, h2⟩ := he f fn hf hb hn args H v H' h γ args' w hl
        exact .inl ⟨v', w, h1, ⟨γ, Mv.refl _ _, hR, h2, hfr⟩⟩
      | some c =>
        rw [hb] at h
        simp only at h
        refine .inr ⟨enter_run hf hn hb _ _, calls_of_wp_defers hf hb ?_⟩
        cases hex : exec fn.ntmps c (initT args 0 .nil) [] H with
        | fail => rw [hex] at h; cases h
        | ok e T D H1 =>
          rw [hex] at h
          refine (hx fn.ntmps c _ _ _ e T D H1 hex B w0 γ _ w _ ⟨hfr, hR, initT_ok hl fn.ntmps⟩ fun γ1 a1 w1 hmv hst => ?_).wp
          cases e with
          | normal => exact leave_ok hd h hmv hst
          | ret => exact leave_ok hd h hmv hst
          | exit i => cases h
          | goto i => cases h
    · cases h
theorem callDStep_ok {execD : Exec} (hx : ∀ nt, RecDOk P nt (execD nt)) : CallDOkF P (callDStep P execD) := by
  intro f args H v H' h B w0 γ w args' hfr hR hl
  unfold callDStep fnT at h
  cases hf : P.funcs[f]? with
  | none => rw [hf] at h; cases h
  | some fn =>
    rw [hf] at h
    simp only [bc_eq] at h
    split at h
    · rename_i hn
      cases hb : fn.body with
      | none => rw [hb] at h; cases h
      | some c =>
        rw [hb] at h
        simp only at h
        refine ⟨enter_run hf hn hb _ _, callsD_of_wpS hf hb fun c₀ cs hc0 => ?_⟩
        have hrec : recoverD (c₀ :: cs) = none := by simp [recoverD, hc0]
        have hself : ({ c₀ with mode := .returning } : Frame) = c₀ := by cases c₀; simp only at hc0; subst hc0; rfl
        cases hex : execD fn.ntmps c (initT args 0 .nil) [] H with
        | fail => rw [hex] at h; cases h
        | ok e T D H1 =>
          rw [hex] at h
          refine hx fn.ntmps c _ _ _ e T D H1 hex B w0 γ _ w _ _ hrec ⟨hfr, hR, initT_ok hl fn.ntmps⟩ fun γ1 a1 w1 hmv hst => ?_
          have fin : (resA P T H1 fn.results.toList).map (fun vs => (retV vs, H1)) = some (v, H') → D = [] →
              a1.defers = [] ∧ ∃ u', (c₀ :: cs) = { c₀ with mode := u' } :: cs ∧ ∃ v', (results fn a1.tmps).run P w1 = .ok v' w1 ∧ (u' = FrameMode.returning ∧ Gave B w0 H γ v H' v' w1) := fun hres hD => by
            subst hD
            obtain ⟨vs, hvs, hv⟩ := Option.map_eq_some_iff.1 hres
            cases hv
            obtain ⟨v', hv1, hv2⟩ := results_ok hst hvs
            have hdef : a1.defers = [] := by have := hst.acr.defs; cases hdd : a1.defers with
              | nil => rfl
              | cons x y => rw [hdd] at this; cases this
            exact ⟨hdef, .returning, by rw [hself], v', hv1, rfl, ⟨γ1, hmv, hst.rel, hv2, hst.fresh⟩⟩
          cases e with
          | normal => cases D with
            | nil => exact fin h rfl
            | cons d D => cases h
          | ret => cases D with
            | nil => exact fin h rfl
            | cons d D => cases h
          | exit i => cases h
          | goto i => cases h
    · cases h
/-- THE MACHINE IS SOUND, given its externs and its drawing regions. -/
theorem both_ok (he : ExtOkF P) (hdraw : ∀ callF, CallOkF P callF → DrawOkF P callF) : ∀ n, (∀ nt, RecOk P n nt ((both P n).exec nt)) ∧ CallOkF P (both P n).call ∧ (∀ nt, RecDOk P nt ((both P n).execD nt)) ∧ CallDOkF P (both P n).callD
  | 0 => by
    refine ⟨?_, ?_, ?_, ?_⟩
    · intro nt c T D H e T2 D2 H2 h; cases h
    · intro f args H v H' h; cases h
    · intro nt c T D H e T2 D2 H2 h; cases h
    · intro f args H v H' h; cases h
  | n + 1 => by
    obtain ⟨h1, h2, h3, h4⟩ := both_ok he hdraw n
    exact ⟨fun nt => execStep_ok h2 (hdraw _ h2) (h1 nt), callStep_ok h1 h4 he, fun nt => execDStep_ok h2 (hdraw _ h2) (h1 nt) (h3 nt), callDStep_ok h3⟩
end
end Go.AM
end
section
set_option linter.unusedVariables false
set_option linter.unusedSimpArgs false
namespace Go.AM
open Go.RowKit
theorem nx1 : (Extern.allNextRows.lookup "internal/abi.NoEscape").isNone = true := by decide +kernel
theorem nx2 : (Extern.allNextRows.lookup "internal/bytealg.IndexByte").isNone = true := by decide +kernel
theorem nx3 : (Extern.allNextRows.lookup "internal/bytealg.IndexByteString").isNone = true := by decide +kernel
theorem nx4 : (Extern.allNextRows.lookup "").isNone = true := by decide +kernel
theorem fg1 : (Extern.allGenericRows.lookup "internal/abi.NoEscape").isNone = true ∧ (Extern.allTypedRows.lookup "internal/abi.NoEscape").isNone = true := by decide +kernel
theorem fg2 : (Extern.allGenericRows.lookup "internal/bytealg.IndexByte").isNone = true ∧ (Extern.allTypedRows.lookup "internal/bytealg.IndexByte").isNone = true := by decide +kernel
theorem fg3 : (Extern.allGenericRows.lookup "internal/bytealg.IndexByteString").isNone = true ∧ (Extern.allTypedRows.lookup "internal/bytealg.IndexByteString").isNone = true := by decide +kernel
theorem fr1 : Extern.allRows.lookup "internal/abi.NoEscape" = some Extern.AbiNoEscape.same := by rfl
theorem fr2 : Extern.allRows.lookup "internal/bytealg.IndexByte" = some Extern.BytealgIndexByte.indexByte := by rfl
theorem fr3 : Extern.allRows.lookup "internal/bytealg.IndexByteString" = some Extern.BytealgIndexByte.indexByte := by rfl
theorem findB_eq (c : Nat) (hc : c ≤ 255) : ∀ (l : List UInt8) (i : Nat), findB c l i = if Lib.indexByte l (UInt8.ofNat c) = -1 then -1 else Lib.indexByte l (UInt8.ofNat c) + i
  | [], i => rfl
  | b :: l, i => by
    have e : findB c (b :: l) i = bc (Nat.beq b.toNat c) (.ofNat i) (findB c l (i + 1)) := rfl
    have hbc : (b == UInt8.ofNat c) = decide (b.toNat = c) := by
      by_cases h : b.toNat = c
      · have : b = UInt8.ofNat c := by rw [← h]; simp
        simp [h, this]
        omega
      · have : ¬ b = UInt8.ofNat c := fun hh => h (by rw [hh]; simp; omega)
        simp [h, this]
    rw [e, bc_eq, natbeq, findB_eq c hc l (i + 1), Lib.indexByte, hbc]
    by_cases h : b.toNat = c
    · simp [h]
    · have hge := Lib.indexByte_ge l (UInt8.ofNat c)
      by_cases h1 : Lib.indexByte l (UInt8.ofNat c) = -1
      · simp [h, h1]
      · have h2 : ¬ Lib.indexByte l (UInt8.ofNat c) + 1 = -1 := by omega
        simp [h, h1, h2]
        omega
theorem ext_look {fn : Func} {n : String} (hn : fn.name = n) (ho : fn.origin = "") (h1 : (Extern.allNextRows.lookup n).isNone = true) (h2 : (Extern.allGenericRows.lookup n).isNone = true ∧ (Extern.allTypedRows.lookup n).isNone = true) {g : Array Value → Sem Value} (h3 : Extern.allRows.lookup n = some g) :
    Extern.findNext fn = none ∧ Extern.find fn = some g := by
  have a1 := Option.isNone_iff_eq_none.1 h1
  have a2 := Option.isNone_iff_eq_none.1 h2.1
  have a3 := Option.isNone_iff_eq_none.1 h2.2
  have a4 := Option.isNone_iff_eq_none.1 nx4
  exact ⟨by simp [Extern.findNext, hn, ho, a1, a4], by simp [Extern.find, hn, ho, a2, a3, h3]⟩
theorem ext_run {P : Program} {f : FuncId} {fn : Func} (hf : P.funcs[f]? = some fn) (hb : fn.body = none) (hn : okName fn = true) {g : Array Value → Sem Value} (h : Extern.findNext fn = none ∧ Extern.find fn = some g) {args : Array Value} {v : Value} {w : World} (hg : (g args).run P w = .ok v w) :
    (callFunc f args).run P w = .ok (.value v) w := by
  have h1 : ¬ fn.name = "runtime.NumGoroutine" := fun e => by unfold okName at hn; rw [e] at hn; simp at hn
  simp [callFunc, program, mark, Sem.run, hf, h1, hb, h.1, h.2, hg]
theorem ext_ok (P : Program) : ExtOkF P := by
  intro f fn hf hb hn args H v H' h γ args' w hl
  unfold extA at h
  split at h
  · rename_i v0 hx
    obtain ⟨rfl, rfl⟩ := Prod.mk.inj (Option.some.inj h)
    obtain ⟨v', t, rfl, hv, ht⟩ := hl.cons_inv
    rw [ht.nil_inv]
    have hh : fn.origin = "" ∧ fn.name = "internal/abi.NoEscape" := by
      unfold extOf at hx
      split at hx
      · rename_i ho
        split at hx
        · rename_i hname; exact ⟨by simpa using ho, by simpa using hname⟩
        · split at hx <;> cases hx
      · cases hx
    exact ⟨rfl, v', ext_run hf hb hn (ext_look hh.2 hh.1 nx1 fg1 fr1) (g := Extern.AbiNoEscape.same) rfl, hv⟩
  · rename_i s c hx
    rw [bc_eq, natble] at h
    split at h
    · rename_i hc
      have hc' : c ≤ 255 := of_decide_eq_true hc
      obtain ⟨rfl, rfl⟩ := Prod.mk.inj (Option.some.inj h)
      obtain ⟨v', t, rfl, hv, ht⟩ := hl.cons_inv
      obtain ⟨u', t', rfl, hu, ht'⟩ := ht.cons_inv
      rw [ht'.nil_inv, hv.str_inv, hu.int_inv]
      have hrun : (Extern.BytealgIndexByte.indexByte #[.string s, .int .u8 (Int.ofNat c)]).run P w = .ok (.int .i64 (findB c s.data.toList 0)) w := by
        rw [Lib.run_indexByteString, findB_eq c hc']
        have e : (Int.ofNat c).toNat.toUInt8 = UInt8.ofNat c := rfl
        rw [e]
        congr 2
        split
        · rename_i h; rw [h]
        · simp
      have hh : fn.origin = "" ∧ (fn.name = "internal/bytealg.IndexByteString" ∨ fn.name = "internal/bytealg.IndexByte") := by
        unfold extOf at hx
        split at hx
        · rename_i ho
          split at hx
          · cases hx
          · split at hx
            · rename_i hname; exact ⟨by simpa using ho, by simpa using hname⟩
            · cases hx
        · cases hx
      refine ⟨rfl, _, ?_, .int _ _⟩
      rcases hh.2 with hname | hname
      · exact ext_run hf hb hn (ext_look hname hh.1 nx3 fg3 fr3) hrun
      · exact ext_run hf hb hn (ext_look hname hh.1 nx2 fg2 fr2) hrun
    · cases h
  · cases h
end Go.AM
end
section
set_option linter.unusedVariables false
set_option linter.unusedSimpArgs false
namespace Go.AM
open Go.RowKit
def noG : Gm := ⟨fun _ _ => none, fun _ => 0⟩
theorem start_rel (w : World) (G : Mem) : Rel w.heap.size w G noG w :=
  ⟨fun b x _ h => absurd rfl h, fun b g k h => (by cases h), fun b g b' g' k h => (by cases h), fun b x g k _ _ h => (by cases h), Below.refl _ _, Nat.le_refl _⟩
theorem start_fresh (m : Nat) : Fresh ⟨.nil, m⟩ := fun b _ => Tr.get_nil b
/-- A closed call, from an empty memory. -/
theorem closed_ok {P : Program} (hdraw : ∀ callF, CallOkF P callF → DrawOkF P callF) {f : FuncId} {fn : Func} {c : Code} {m n : Nat} {v : Value} {H' : Heap} (hf : P.funcs[f]? = some fn) (hb : fn.body = some c) (hn : okName fn = true)
    (h : (both P n).call f [] ⟨.nil, m⟩ = some (v, H')) (hv : scal 4 v = true) (w : World) :
    Calls P f #[] w fun | .returned v', w' => v' = v ∧ Below w.heap.size w w' | _, _ => False := by
  have hc := (both_ok (ext_ok P) hdraw n).2.1
  rcases hc f [] ⟨.nil, m⟩ v H' h w.heap.size w noG w [] (start_fresh m) (start_rel w _) (LR.nil _) with ⟨v', w', hrun, _⟩ | ⟨_, hcalls⟩
  · rw [enter_run hf hn hb] at hrun; cases hrun
  · refine Calls.mono hcalls fun e w' he => ?_
    cases e with
    | returned v' =>
      obtain ⟨γ', hmv, hR, hvr, _⟩ := he.all
      exact ⟨scal_eq 4 hv hvr, hR.below⟩
    | panicked ch => exact he.elim
    | outgrown => exact he.elim
end Go.AM
end
