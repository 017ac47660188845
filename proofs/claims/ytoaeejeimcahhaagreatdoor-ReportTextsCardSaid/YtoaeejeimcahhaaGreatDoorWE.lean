/- What the reference's Line answers for any edit. -/
import Derived.Test.YtoaeejeimcahhaaGreatDoorWR
section
set_option linter.unusedVariables false
namespace Go.Proofs.YtoaeejeimcahhaaGreatDoor
open Go.Shelf Go.RowKit Go.Sort
/-- behind the reference's box -/
structure EC (w : World) (cs : Array Value) (wr : World) : Prop where
  below : Below w.heap.size w wr
  box : wr.heap[w.heap.size]? = some (.cells cs 28 (0, 0))
theorem EC.step {w : World} {cs : Array Value} {wr w' : World} (h : EC w cs wr) (hb : Below wr.heap.size wr w') : EC w cs w' := by
  obtain ⟨h1, h2⟩ := h
  have hlt : w.heap.size < wr.heap.size := by
    rcases Nat.lt_or_ge w.heap.size wr.heap.size with h' | h'
    · exact h'
    · rw [Array.getElem?_eq_none h'] at h2; cases h2
  exact ⟨h1.trans (hb.mono h1.size), by rw [hb.block _ hlt]; exact h2⟩
theorem EC.cell {w : World} {cs : Array Value} {wr : World} (h : EC w cs wr) (i : Nat) : wr.cell? ⟨w.heap.size, i, none⟩ = cs[i]? := by
  obtain ⟨h1, h2⟩ := h
  simp [World.cell?, h2]
theorem EC.drew {w : World} {cs : Array Value} {wr : World} (h : EC w cs wr) : EC w cs wr.drew := ⟨h.below.drew, h.box⟩
theorem EC.s23 {w : World} {f0 f1 f2 f3 f4 : Int} {f5 f6 : ByteArray} {wr : World} (h : EC w #[.int .i64 f0, .int .i64 f1, .int .i64 f2, .int .i64 f3, .int .i64 f4, .string f5, .string f6] wr) :
    EC w #[.int .i64 f0, .int .i64 f1, .int .i64 f2, .int .i64 f3, .int .i64 f4, .string f5, .string f6] wr ∧ wr.cell? ⟨w.heap.size, 2, none⟩ = some (.int .i64 f2) ∧ wr.cell? ⟨w.heap.size, 3, none⟩ = some (.int .i64 f3) :=
  ⟨h, (h.cell 2).trans rfl, (h.cell 3).trans rfl⟩
theorem EC.s56 {w : World} {f0 f1 f2 f3 f4 : Int} {f5 f6 : ByteArray} {wr : World} (h : EC w #[.int .i64 f0, .int .i64 f1, .int .i64 f2, .int .i64 f3, .int .i64 f4, .string f5, .string f6] wr) :
    EC w #[.int .i64 f0, .int .i64 f1, .int .i64 f2, .int .i64 f3, .int .i64 f4, .string f5, .string f6] wr ∧ wr.cell? ⟨w.heap.size, 5, none⟩ = some (.string f5) ∧ wr.cell? ⟨w.heap.size, 6, none⟩ = some (.string f6) :=
  ⟨h, (h.cell 5).trans rfl, (h.cell 6).trans rfl⟩
theorem EC.s14 {w : World} {f0 f1 f2 f3 f4 : Int} {f5 f6 : ByteArray} {wr : World} (h : EC w #[.int .i64 f0, .int .i64 f1, .int .i64 f2, .int .i64 f3, .int .i64 f4, .string f5, .string f6] wr) :
    EC w #[.int .i64 f0, .int .i64 f1, .int .i64 f2, .int .i64 f3, .int .i64 f4, .string f5, .string f6] wr ∧ wr.cell? ⟨w.heap.size, 1, none⟩ = some (.int .i64 f1) ∧ wr.cell? ⟨w.heap.size, 4, none⟩ = some (.int .i64 f4) :=
  ⟨h, (h.cell 1).trans rfl, (h.cell 4).trans rfl⟩
theorem digits_ec {w : World} {cs : Array Value} {wr : World} (h : EC w cs wr) (n : Int) (h0 : i64ok n) :
    Calls Tryz.prog 13 #[.int .i64 n] wr fun e w' => ∃ t : ByteArray, e = .returned (.string t) ∧ Hid (t = itoaB n) ∧ t.size ≤ 21 ∧ EC w cs w' :=
  (digits_any n h0 wr).mono fun e w' he => ⟨_, he.1, Lib.hid rfl, itoaB_size n h0, h.step he.2⟩
theorem refQuoted_ec {w : World} {cs : Array Value} {wr : World} (h : EC w cs wr) (s : ByteArray) (hs : s.size ≤ 1000000000) :
    Calls Tryz.prog 14 #[.string s] wr fun e w' => ∃ t : ByteArray, e = .returned (.string t) ∧ Hid (t = quotedB s) ∧ t.size ≤ 4000000002 ∧ EC w cs w' :=
  (refQuoted_any s wr hs).mono fun e w' he => ⟨_, he.1, Lib.hid rfl, by have := quotedB_size s; omega, h.step he.2⟩
/-- lengths, in the walk's spellings -/
structure LenA (t : ByteArray) : Prop where
  a1 : ¬ 9223372036854775807 < 7 + t.size
  a2 : ¬ 9223372036854775807 < 7 + t.size + 6
  a3 : 7 + t.size + 6 ≤ 1000
  b1 : ∀ m : Nat, m ≤ 1000 → ¬ 9223372036854775807 < m + t.size
  b2 : ∀ m : Nat, m ≤ 1000 → m + t.size ≤ 2000
theorem LenA.of {t : ByteArray} (h : t.size ≤ 21) : LenA t := ⟨by omega, by omega, by omega, fun m _ => by omega, fun m _ => by omega⟩
set_option maxRecDepth 100000 in
set_option maxHeartbeats 2000000 in
theorem refLine_any (f0 f1 f2 f3 f4 : Int) (f5 f6 : ByteArray) (w : World) (r1 : i64ok f1) (r2 : i64ok f2) (r3 : i64ok f3) (r4 : i64ok f4)
    (s5 : f5.size ≤ 1000000000) (s6 : f6.size ≤ 1000000000) :
    Calls Tryz.prog 8 #[.agg (ecells f0 f1 f2 f3 f4 f5 f6)] w fun e w' => e = .returned (.string (lineB f0 f1 f2 f3 f4 f5 f6)) ∧ Below w.heap.size w w' := by
  have h0 : EC w (ecells f0 f1 f2 f3 f4 f5 f6) (w.alloc (.cells (ecells f0 f1 f2 f3 f4 f5 f6) 28 (0, 0))) :=
    ⟨(Below.refl _ _).alloc (Nat.le_refl _) _, heap_alloc_new _ _⟩
  unfold ecells at h0 ⊢
  have H0 := Lib.hid h0
  have IT := Lib.hid (fun (wr : World) (h : EC w #[.int .i64 f0, .int .i64 f1, .int .i64 f2, .int .i64 f3, .int .i64 f4, .string f5, .string f6] wr) (n : Int) (h0 : i64ok n) => digits_ec h n h0)
  have QT := Lib.hid (fun (wr : World) (h : EC w #[.int .i64 f0, .int .i64 f1, .int .i64 f2, .int .i64 f3, .int .i64 f4, .string f5, .string f6] wr) (s : ByteArray) (hs : s.size ≤ 1000000000) => refQuoted_ec h s hs)
  have R1 := Lib.hid r1
  have R2 := Lib.hid r2
  have R3 := Lib.hid r3
  have R4 := Lib.hid r4
  clear h0 r1 r2 r3 r4
  have hb1 := H0.out
  go_enter Tryz.func8, Tryz.ntmps8
  go_wp2
  go_region_held3 (fun wr => EC w #[.int .i64 f0, .int .i64 f1, .int .i64 f2, .int .i64 f3, .int .i64 f4, .string f5, .string f6] wr ∧ wr.cell? ⟨w.heap.size, 2, none⟩ = some (.int .i64 f2) ∧ wr.cell? ⟨w.heap.size, 3, none⟩ = some (.int .i64 f3))
    (first | (refine EC.s23 ?_; assumption) | (refine EC.s23 (EC.drew ?_); assumption) | assumption | (refine EC.drew ?_; assumption) | (refine (EC.cell ?_ _).trans ?_; assumption; rfl))
    (first | (go_at_call 13; refine (IT.out _ ?_ _ ?_).mono ?_; (first | assumption | (refine EC.drew ?_; assumption)); (first | exact R2.out | exact R3.out); rintro e w' ⟨t, rfl, ht, hts, hb⟩; obtain ⟨g1, g2, g3, g4⟩ := Len.of (a := 7) (b := 7) (t := t) (Nat.le_trans hts (by decide)) (by decide) (by decide)))
  rename_i w2 t2 ht2 hts2 hb2 p1 p2 p3 p4 hHeld
  obtain ⟨u, hu⟩ : ∃ u, u = (⟨#[32, 117, 110, 100, 101, 114, 32]⟩ : ByteArray) ++ t2 ++ ⟨#[32, 97, 102, 116, 101, 114, 32]⟩ ++ t := ⟨_, rfl⟩
  have hus : u.size ≤ 100 := by rw [hu]; simp only [ByteArray.size_append]; show 7 + t2.size + 7 + t.size ≤ 100; omega
  have HU := Lib.hid (show u = underB f2 f3 by rw [hu, ht2.out, ht.out]; rfl)
  rw [← hu]
  clear hu p1 p2 p3 p4 g1 g2 g3 g4 hHeld hts hts2 hb2 hb1
  go_wp2
  go_region_held3 (fun wr => EC w #[.int .i64 f0, .int .i64 f1, .int .i64 f2, .int .i64 f3, .int .i64 f4, .string f5, .string f6] wr ∧ wr.cell? ⟨w.heap.size, 5, none⟩ = some (.string f5) ∧ wr.cell? ⟨w.heap.size, 6, none⟩ = some (.string f6))
    (first | (refine EC.s56 ?_; assumption) | (refine EC.s56 (EC.drew ?_); assumption) | assumption | (refine EC.drew ?_; assumption) | (refine (EC.cell ?_ _).trans ?_; assumption; rfl))
    (first | (go_at_call 14; refine (QT.out _ ?_ _ ?_).mono ?_; (first | assumption | (refine EC.drew ?_; assumption)); assumption; rintro e w' ⟨t, rfl, ht, hts, hb⟩; obtain ⟨g1, g2, g3, g4⟩ := Len.of (a := 6) (b := 7) (t := t) (Nat.le_trans hts (by decide)) (by decide) (by decide)))
  rename_i w4 t5 ht5 hts5 hb5 p1 p2 p3 p4 hHeld
  obtain ⟨v, hv⟩ : ∃ v, v = (⟨#[32, 116, 101, 120, 116, 32]⟩ : ByteArray) ++ t5 ++ ⟨#[32, 116, 114, 97, 105, 108, 32]⟩ ++ t := ⟨_, rfl⟩
  have hvs : v.size ≤ 9000000000 := by rw [hv]; simp only [ByteArray.size_append]; show 6 + t5.size + 7 + t.size ≤ 9000000000; omega
  have HV := Lib.hid (show v = textsB f5 f6 by rw [hv, ht5.out, ht.out]; rfl)
  rw [← hv]
  clear hv p1 p2 p3 p4 g1 g2 g3 g4 hHeld hts hts5 hb5
  have c0 := (hb.cell 0).trans rfl
  have c1 := (hb.cell 1).trans rfl
  have HB := Lib.hid hb
  clear ht5 ht
  have hb := HB.out
  have u1 : ∀ m : Nat, m ≤ 2000 → ¬ 9223372036854775807 < m + u.size := fun m hm => by omega
  have u2 : ∀ m : Nat, m ≤ 2000 → m + u.size ≤ 3000 := fun m hm => by omega
  have v1 : ∀ m : Nat, m ≤ 3000 → ¬ 9223372036854775807 < m + v.size := fun m hm => by omega
  have v2 : ∀ m : Nat, m ≤ 3000 → ¬ 9223372036854775807 < m + v.size + 1 := fun m hm => by omega
  have v3 : ∀ m : Nat, m ≤ 2000 → ¬ 9223372036854775807 < m + u.size + v.size := fun m hm => by omega
  have v4 : ∀ m : Nat, m ≤ 2000 → ¬ 9223372036854775807 < m + u.size + v.size + 1 := fun m hm => by omega
  go_wp2_with fail
  · go_region_held3 (fun wr => EC w #[.int .i64 f0, .int .i64 f1, .int .i64 f2, .int .i64 f3, .int .i64 f4, .string f5, .string f6] wr ∧ wr.cell? ⟨w.heap.size, 1, none⟩ = some (.int .i64 f1) ∧ wr.cell? ⟨w.heap.size, 4, none⟩ = some (.int .i64 f4))
      (first | (refine EC.s14 ?_; assumption) | (refine EC.s14 (EC.drew ?_); assumption) | assumption | (refine EC.drew ?_; assumption) | (refine (EC.cell ?_ _).trans ?_; assumption; rfl))
      (first | (go_at_call 13; refine (IT.out _ ?_ _ ?_).mono ?_; (first | assumption | (refine EC.drew ?_; assumption)); (first | exact R1.out | exact R4.out); rintro e w' ⟨t, rfl, ht, hts, hb⟩; obtain ⟨a1, a2, a3, b1, b2⟩ := LenA.of hts))
    rename_i w7 t1 ht1 hts1 hb7 q1 q2 q3 q4 q5 hHeld
    have HT1 := Lib.hid (show t1 = itoaB f1 from ht1.out)
    have HT4 := Lib.hid (show t = itoaB f4 from ht.out)
    have HB7 := Lib.hid hb
    clear hb hb7 hHeld ht1 ht q1 q2 q3 q4 q5
    go_wp2_with fail
    go_ret
    refine ⟨?_, HB7.out.below⟩
    rw [lineB1 (by assumption), ← HT1.out, ← HT4.out, ← HU.out, ← HV.out]
    rfl
  · refine (IT.out _ HB.out _ R1.out).mono ?_
    rintro e w6 ⟨t1, rfl, ht1, hs1, hb6⟩
    have HT1 := Lib.hid (show t1 = itoaB f1 from ht1.out)
    have HB6 := Lib.hid hb6
    clear hb6 ht1
    have k1 : ¬ 9223372036854775807 < 7 + t1.size := by omega
    have k2 : ¬ 9223372036854775807 < 7 + t1.size + 1 := by omega
    go_wp2_with fail
    go_ret
    refine ⟨?_, HB6.out.below⟩
    rw [lineB2 (by assumption) (by assumption), ← HT1.out]
    rfl
  · refine (IT.out _ HB.out _ R1.out).mono ?_
    rintro e w6 ⟨t1, rfl, ht1, hs1, hb6⟩
    have HT1 := Lib.hid (show t1 = itoaB f1 from ht1.out)
    have HB6 := Lib.hid hb6
    clear hb6 ht1
    have k1 : ¬ 9223372036854775807 < 7 + t1.size := by omega
    have k2 : ¬ 9223372036854775807 < 7 + t1.size + v.size := by omega
    have k3 : ¬ 9223372036854775807 < 7 + t1.size + v.size + 1 := by omega
    go_wp2_with fail
    go_ret
    refine ⟨?_, HB6.out.below⟩
    rw [lineB3 (by assumption) (by assumption) (by assumption), ← HT1.out, ← HV.out]
    rfl
  · refine (IT.out _ HB.out _ R1.out).mono ?_
    rintro e w6 ⟨t1, rfl, ht1, hs1, hb6⟩
    have HT1 := Lib.hid (show t1 = itoaB f1 from ht1.out)
    have HB6 := Lib.hid hb6
    clear hb6 ht1
    have k1 : ¬ 9223372036854775807 < 5 + t1.size := by omega
    have k2 : ¬ 9223372036854775807 < 5 + t1.size + u.size := by omega
    have k3 : ¬ 9223372036854775807 < 5 + t1.size + u.size + 1 := by omega
    go_wp2_with fail
    go_ret
    refine ⟨?_, HB6.out.below⟩
    rw [lineB4 (by assumption) (by assumption) (by assumption) (by assumption), ← HT1.out, ← HU.out]
    rfl
  · go_ret
    refine ⟨?_, HB.out.below⟩
    rw [lineB5 (by assumption) (by assumption) (by assumption) (by assumption)]
    rfl
end Go.Proofs.YtoaeejeimcahhaaGreatDoor
end
