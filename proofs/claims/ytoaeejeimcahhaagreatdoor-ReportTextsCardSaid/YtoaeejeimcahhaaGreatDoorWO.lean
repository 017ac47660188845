/- How an argument of a law lies in memory. -/
import Derived.Test.YtoaeejeimcahhaaGreatDoorWRT
import Derived.Test.YtoaeejeimcahhaaGreatDoorRows
import Derived.Test.YtoaeejeimcahhaaGreatDoorCards
import Derived.Test.YtoaeejeimcahhaaGreatDoorTie
import Derived.ProofKit
import Derived.OpenShut
import Derived.Lay
import Derived.Lib.LaidU8
import Derived.Lib.LaidTab
import Derived.Deep.Slices
import Derived.Deep.Fields
import Derived.ChangeSame
section
set_option linter.unusedVariables false
namespace Go.Proofs.YtoaeejeimcahhaaGreatDoor
open Go.ChangeShapes Go.WideShapes Go.ChangeAt Go.RowKit Go.Deep
section
variable {H : Type} {enc : TypeId × Value → H} {P : Program} {w : World} {base : Nat} {spare : Nat → Bool} {held : Bool}
theorem open_slice_fields {t e : TypeId} {fs : Array Field} {fuel : Nat} {cs : List Value} {x : DataW H × List MemPlace} (ht : P.underlying t = some (.slice e)) (he : P.underlying e = some (.struct fs))
    (hone : oneCellFields P fs = true) (hC : P.cellsOf e = fs.size) (h : DataW.trod enc P w base spare held fuel t cs = some x) :
    (cs = [.slice none 0 0] ∧ x = (.nil, [])) ∨
    ∃ (a : Addr) (len cap m : Nat) (D : Nat → DataW H) (Pl : Nat → List MemPlace), cs = [.slice (some a) len cap] ∧ base ≤ a.block ∧ len ≤ cap ∧ cap ≤ maxLen ∧ m = (if spare a.block then cap else len) ∧
      x = (.slice ((List.range len).map D) ((List.range (m - len)).map fun j => D (len + j)), MemPlace.row a (m * fs.size) ++ (List.range m).flatMap Pl) ∧
      ∀ i, i < m → ∃ (ys : List (DataW H × List MemPlace)) (n : Nat), D i = .agg (ys.map (·.1)) ∧ Pl i = ys.flatMap (·.2) ∧ ys.length = fs.size ∧
        ∀ (j : Nat) (f : Field), fs[j]? = some f → ∃ (v : Value) (y : DataW H × List MemPlace), w.cell? (a.add (i * fs.size + j)) = some v ∧ ys[j]? = some y ∧ DataW.trod enc P w base spare held n f.type [v] = some y := by
  rcases open_slice ht h with h0 | ⟨a, len, cap, m, n, D, Pl, hcs, hb, hl, hm, hmm, hx, hi⟩
  · exact .inl h0
  · refine .inr ⟨a, len, cap, m, D, Pl, hcs, hb, hl, hm, hmm, by rw [hC] at hx; exact hx, fun i him => ?_⟩
    obtain ⟨cs', hc, ht'⟩ := hi i him
    rw [hC] at hc
    obtain ⟨ys, n', hn', hy, hlen, hyl, hf⟩ := DataW.trod_struct he ht'
    obtain ⟨_, hcl, hat⟩ := World.cells?_some hc
    simp only [Prod.mk.injEq] at hy
    refine ⟨ys, n', hy.1, hy.2, hyl, fun j f hj => ?_⟩
    obtain ⟨ho, hk⟩ := hone_of hone j f hj
    have hjl : j < fs.size := (Array.getElem?_eq_some_iff.1 hj).1
    have hcell := hat j hjl
    have hv : cs'[j]? = some (cs'[j]'(by omega)) := List.getElem?_eq_getElem (by omega)
    have h1 := hf j f hj
    rw [ho, hk] at h1
    have hone' : (cs'.drop j).take 1 = [cs'[j]'(by omega)] := by
      rw [List.drop_eq_getElem_cons (by omega)]
      rfl
    rw [hone'] at h1
    have hys : ys[j]? = some (ys[j]'(by omega)) := List.getElem?_eq_getElem (by omega)
    refine ⟨_, _, ?_, hys, h1.trans hys⟩
    rw [← Go.Deep.add_add, hcell, hv]
end

theorem own : ownKnob Tryz.prog.godebug = none := by kernel_rfl
theorem laidOut : laidOutB Tryz.prog = true := by kernel_rfl
theorem one28 : ∀ fs, Tryz.prog.underlying 28 = some (.struct fs) → oneCellFields Tryz.prog fs = true ∧ fs.size = 7 ∧ (fs[0]?).map (·.type) = some 3 ∧ (fs[1]?).map (·.type) = some 3 ∧ (fs[2]?).map (·.type) = some 3 ∧ (fs[3]?).map (·.type) = some 3 ∧ (fs[4]?).map (·.type) = some 3 ∧ (fs[5]?).map (·.type) = some 9 ∧ (fs[6]?).map (·.type) = some 9 := by
  intro fs h
  rw [Tryz.underlying28] at h
  cases h
  exact ⟨by kernel_rfl, rfl, rfl, rfl, rfl, rfl, rfl, rfl, rfl⟩
theorem i64_wf {n : Int} (h : (Lit.int IntKind.i64 n).wf = true) : i64ok n := by
  simpa [Lit.wf, IntKind.min, IntKind.max, IntKind.signed, IntKind.bits, i64ok] using h
section
variable {H : Type} {enc : TypeId × Value → H} {w : World} {base : Nat} {spare : Nat → Bool} {held : Bool}
theorem int_cell {v : Value} {n : Nat} {y : DataW H × List MemPlace} (h : DataW.trod enc Tryz.prog w base spare held n 3 [v] = some y) : ∃ k : Int, v = .int .i64 k ∧ i64ok k := by
  obtain ⟨k, e1, _, e3⟩ := DataW.trod_int Tryz.underlying3 h
  simp at e1
  exact ⟨k, e1, i64_wf e3⟩
theorem str_cell {v : Value} {n : Nat} {y : DataW H × List MemPlace} (h : DataW.trod enc Tryz.prog w base spare held n 9 [v] = some y) : ∃ s : ByteArray, v = .string s := by
  obtain ⟨s, e1, _⟩ := DataW.trod_string Tryz.underlying9 h
  simp at e1
  exact ⟨s, e1⟩
/-- a slice of edits that came in -/
theorem open_eds {fuel : Nat} {cs : List Value} {x : DataW H × List MemPlace} (h : DataW.trod enc Tryz.prog w base spare held fuel 22 cs = some x) :
    cs = [.slice none 0 0] ∨ ∃ (a : Addr) (xs : List Ed) (cap : Nat), cs = [.slice (some a) xs.length cap] ∧ xs.length ≤ cap ∧ cap ≤ maxLen ∧ EdsAt w a xs ∧ ∀ y ∈ xs, y.ok := by
  obtain ⟨fs, hfs⟩ : ∃ fs, Tryz.prog.underlying 28 = some (.struct fs) := ⟨_, Tryz.underlying28⟩
  obtain ⟨hone, hsz, t0, t1, t2, t3, t4, t5, t6⟩ := one28 fs hfs
  rcases open_slice_fields Tryz.underlying22 hfs hone (by rw [hsz]; kernel_rfl) h with ⟨h0, _⟩ | ⟨a, len, cap, m, D, Pl, hcs, hb, hl, hc, hm, _, hf⟩
  · exact .inl h0
  · have hlm : len ≤ m := by rw [hm]; split <;> omega
    have one : ∀ i, i < len → ∃ y : Ed, y.ok ∧ ∀ (j : Nat) (v : Value), y.cells[j]? = some v → w.cell? (a.add (i * 7 + j)) = some v := fun i hi => by
      obtain ⟨ys, n, _, _, _, hj⟩ := hf i (by omega)
      rw [hsz] at hj
      have get : ∀ (j t : Nat), (fs[j]?).map (·.type) = some t → ∃ v y, w.cell? (a.add (i * 7 + j)) = some v ∧ DataW.trod enc Tryz.prog w base spare held n t [v] = some y := fun j t ht => by
        obtain ⟨f, hfj, rfl⟩ := Option.map_eq_some_iff.1 ht
        obtain ⟨v, y, h1, _, h3⟩ := hj j f hfj
        exact ⟨v, y, h1, h3⟩
      obtain ⟨v0, y0, c0, d0⟩ := get 0 3 t0
      obtain ⟨v1, y1, c1, d1⟩ := get 1 3 t1
      obtain ⟨v2, y2, c2, d2⟩ := get 2 3 t2
      obtain ⟨v3, y3, c3, d3⟩ := get 3 3 t3
      obtain ⟨v4, y4, c4, d4⟩ := get 4 3 t4
      obtain ⟨v5, y5, c5, d5⟩ := get 5 9 t5
      obtain ⟨v6, y6, c6, d6⟩ := get 6 9 t6
      obtain ⟨k0, rfl, o0⟩ := int_cell d0
      obtain ⟨k1, rfl, o1⟩ := int_cell d1
      obtain ⟨k2, rfl, o2⟩ := int_cell d2
      obtain ⟨k3, rfl, o3⟩ := int_cell d3
      obtain ⟨k4, rfl, o4⟩ := int_cell d4
      obtain ⟨s5, rfl⟩ := str_cell d5
      obtain ⟨s6, rfl⟩ := str_cell d6
      refine ⟨⟨k0, k1, k2, k3, k4, s5, s6⟩, ⟨o0, o1, o2, o3, o4⟩, fun j v hv => ?_⟩
      match j, hv with
      | 0, hv => cases hv; exact c0
      | 1, hv => cases hv; exact c1
      | 2, hv => cases hv; exact c2
      | 3, hv => cases hv; exact c3
      | 4, hv => cases hv; exact c4
      | 5, hv => cases hv; exact c5
      | 6, hv => cases hv; exact c6
      | j + 7, hv => simp [Ed.cells, ecells] at hv
    have all : ∀ n, n ≤ len → ∃ xs : List Ed, xs.length = n ∧ (∀ y ∈ xs, y.ok) ∧ ∀ i, i < n → ∀ (j : Nat) (v : Value), (xs.getD i Ed.z).cells[j]? = some v → w.cell? (a.add (i * 7 + j)) = some v := by
      intro n
      induction n with
      | zero => intro _; exact ⟨[], rfl, by simp, fun i hi => by omega⟩
      | succ n ih =>
        intro hn
        obtain ⟨xs, e1, e2, e3⟩ := ih (by omega)
        obtain ⟨y, o, hy⟩ := one n (by omega)
        refine ⟨xs ++ [y], by simp [e1], fun z hz => ?_, fun i hi j v hv => ?_⟩
        · rcases List.mem_append.1 hz with hz | hz
          · exact e2 z hz
          · simp at hz; subst hz; exact o
        · by_cases hin : i < n
          · refine e3 i hin j v ?_
            have : (xs ++ [y]).getD i Ed.z = xs.getD i Ed.z := by
              rw [List.getD_eq_getElem?_getD, List.getD_eq_getElem?_getD, List.getElem?_append_left (by omega)]
            rw [this] at hv; exact hv
          · have hie : i = n := by omega
            subst hie
            have : (xs ++ [y]).getD i Ed.z = y := by
              rw [List.getD_eq_getElem?_getD, List.getElem?_append_right (by omega), e1]; simp
            rw [this] at hv; exact hy j v hv
    obtain ⟨xs, e1, e2, e3⟩ := all len (Nat.le_refl _)
    subst e1
    refine .inr ⟨a, xs, cap, hcs, hl, hc, ⟨fun h0 => ?_, e3⟩, e2⟩
    have := e3 0 h0 0 (.int .i64 (xs.getD 0 Ed.z).f0) rfl
    have hlt := World.block_lt_of_cell? w _ this
    rwa [addr_add_block] at hlt
end
end Go.Proofs.YtoaeejeimcahhaaGreatDoor
end
