/- What the law ReportTexts answers for any row of edits in memory. -/
import Derived.Test.YtoaeejeimcahhaaGreatDoorWF
import Derived.Test.YtoaeejeimcahhaaGreatDoorKnown
section
set_option linter.unusedVariables false
namespace Go.Proofs.YtoaeejeimcahhaaGreatDoor
open Go.Shelf Go.RowKit
theorem cutS_size (s : ByteArray) : (cutS s).size ≤ 200 := by
  unfold cutS
  rw [ByteArray.size_extract]; omega
theorem cutT_ok {xs : List Ed} (h : ∀ x ∈ xs, x.ok) (k : Nat) : ∀ y ∈ cutT xs k, y.ok ∧ y.f5.size ≤ 1000000 ∧ y.f6.size ≤ 1000000 := by
  intro y hy
  unfold cutT at hy
  obtain ⟨x, hx, rfl⟩ := List.mem_map.1 hy
  have hk := h x (List.mem_of_mem_take hx)
  exact ⟨⟨hk.r0, hk.r1, hk.r2, hk.r3, hk.r4⟩, Nat.le_trans (cutS_size _) (by omega), Nat.le_trans (cutS_size _) (by omega)⟩
/-- the reference's text so far -/
structure RI (w : World) (ys : List Ed) (k : Nat) (t : ByteArray) (wr : World) : Prop where
  eq : t = ⟨(textL (ys.take k)).toArray⟩
  below : Below w.heap.size w wr
theorem textL_step (ys : List Ed) (k : Nat) (hk : k < ys.length) (y : Ed) (hy : y = ys.getD k Ed.z) : (⟨(textL (ys.take (k + 1))).toArray⟩ : ByteArray) = (⟨(textL (ys.take k)).toArray⟩ : ByteArray) ++ y.line := by
  have hg : ys[k] = y := by rw [hy, List.getD_eq_getElem?_getD, List.getElem?_eq_getElem hk]; rfl
  unfold textL
  rw [List.take_succ_eq_append_getElem hk, List.flatMap_append, hg]
  apply ByteArray.ext
  simp
set_option maxRecDepth 100000 in
set_option maxHeartbeats 4000000 in
theorem reportTexts_any {w : World} {v : Value} {xs : List Ed} (h : EdSl w v xs) (hcap : ∀ a cap, v = .slice (some a) xs.length cap → xs.length ≤ cap) (hmax : xs.length ≤ 9223372036854775807) (hok : ∀ x ∈ xs, x.ok)
    (htab : Lib.TabIs Tryz.prog w "internal/strconv.uint64pow10" .u64 Lib.pow10Tab) :
    Calls Tryz.prog 3 #[v] w fun e w' => e = .returned (.bool true) ∧ Below w.heap.size w w' := by
  have E := Lib.hid (edits_sl h hcap hmax)
  have HOK := Lib.hid (cutT_ok hok 60)
  have HT := Lib.hid htab
  have hl60 : (cutT xs 60).length ≤ 60 := cutT_len xs 60
  clear h hcap hmax hok htab
  go_enter Tryz.func3, Tryz.ntmps3
  go_wp2_with fail
  refine E.out.mono ?_
  rintro e w1 ⟨p, q, rfl, hp, hq, hb1⟩
  obtain ⟨ys, hys⟩ : ∃ ys, ys = cutT xs 60 := ⟨_, rfl⟩
  rw [← hys] at hp hq HOK hl60
  have HP := Lib.hid hp
  have HQ := Lib.hid hq
  have HB1 := Lib.hid hb1
  clear hp hq hb1 hys E
  go_wp2_with fail
  have hr0 : RI w1 ys 0 ⟨#[]⟩ w1 := ⟨rfl, Below.refl _ _⟩
  have HR0 := Lib.hid hr0
  clear hr0
  rcases HQ.out with ⟨rfl, hnil⟩ | ⟨a2, cap2, rfl, hat⟩
  · have HNIL := Lib.hid hnil
    clear hnil
    go_loopw [5, 6] (fun s i wr => i = .int .i64 0 ∧ ∃ t, s = .string t ∧ RI w1 ys 0 t wr) (fun _ _ _ => 0)
    case atStart => exact ⟨rfl, _, rfl, HR0.out⟩
    case round =>
      obtain ⟨rfl, t, rfl, hr⟩ := hrel
      have HR := Lib.hid hr
      clear hr
      have HEQ := Lib.hid (show t = ⟨(textL ys).toArray⟩ by rw [HR.out.eq, HNIL.out]; rfl)
      go_wp2_with fail
      refine (known_calls _).mono ?_
      rintro e w3 ⟨rfl, hb3⟩
      have HB3 := Lib.hid (HR.out.below.trans (hb3.mono HR.out.below.size))
      clear hb3
      go_wp2_with fail
      refine (text_sl (HP.out.below HB3.out) HOK.out (by omega) (tab_below HT.out (HB1.out.trans (HB3.out.mono HB1.out.size)))).mono ?_
      rintro e w4 ⟨rfl, hb4⟩
      have HB4 := Lib.hid (HB3.out.trans (hb4.mono HB3.out.size))
      clear hb4
      rw [← HEQ.out]
      go_wp2_with fail
      go_ret
      exact ⟨rfl, HB1.out.trans (HB4.out.mono HB1.out.size)⟩
  · have HAT := Lib.hid hat
    clear hat
    go_loopw [5, 6] (fun s i wr => ∃ (k : Nat) (t : ByteArray), k ≤ ys.length ∧ i = .int .i64 k ∧ s = .string t ∧ RI w1 ys k t wr) (fun _ i _ => ys.length - (intOf i).toNat)
    case atStart => exact ⟨0, _, Nat.zero_le _, rfl, rfl, HR0.out⟩
    case round =>
      obtain ⟨k, t, hk, rfl, rfl, hr⟩ := hrel
      by_cases hlt : k < ys.length
      · have HR := Lib.hid hr
        clear hr
        obtain ⟨y, hy⟩ : ∃ y, y = ys.getD k Ed.z := ⟨_, rfl⟩
        have HY := Lib.hid hy
        have hmem : y ∈ ys := by
          rw [hy, List.getD_eq_getElem?_getD, List.getElem?_eq_getElem hlt]
          exact List.getElem_mem _
        have HYO := Lib.hid (HOK.out y hmem)
        clear hy hmem
        have hts : t.size ≤ 9000000 * 60 := by
          rw [HR.out.eq, size_mk]
          have h1 := textL_len (ys.take k) fun z hz => HOK.out z (List.mem_of_mem_take hz)
          have h2 : (ys.take k).length ≤ k := List.length_take_le _ _
          have h3 : 9000000 * (ys.take k).length ≤ 9000000 * 60 := Nat.mul_le_mul_left _ (by omega)
          omega
        obtain ⟨d0, d1, d2, d3, d4, d5, d6⟩ := (HAT.out.below HR.out.below).at hlt HY.out
        go_wp2_with fail
        refine (refLine_any y.f0 y.f1 y.f2 y.f3 y.f4 y.f5 y.f6 _ HYO.out.1.r1 HYO.out.1.r2 HYO.out.1.r3 HYO.out.1.r4 (Nat.le_trans HYO.out.2.1 (by decide)) (Nat.le_trans HYO.out.2.2 (by decide))).mono ?_
        rintro e w2 ⟨rfl, hb2⟩
        have HR2 := Lib.hid (HR.out.below.trans (hb2.mono HR.out.below.size))
        clear hb2 d0 d1 d2 d3 d4 d5 d6
        obtain ⟨l, hl⟩ : ∃ l, l = lineB y.f0 y.f1 y.f2 y.f3 y.f4 y.f5 y.f6 := ⟨_, rfl⟩
        rw [← hl]
        have hls : l.size ≤ 9000000 := by rw [hl]; exact line_size y HYO.out.1 HYO.out.2.1 HYO.out.2.2
        have HL := Lib.hid (show l = y.line from hl)
        clear hl
        have g1 : ¬ 9223372036854775807 < t.size + l.size := by omega
        go_wp2_with fail
        go_roundw
        case rel => exact ⟨k + 1, _, by omega, by go_num, rfl, ⟨by rw [textL_step ys k hlt y HY.out, ← HL.out, ← HR.out.eq], HR2.out⟩⟩
        case measure => simp [intOf]; omega
      · have hke : k = ys.length := by omega
        have HK := Lib.hid hke
        clear hke
        have HR := Lib.hid hr
        clear hr
        have HEQ := Lib.hid (show t = ⟨(textL ys).toArray⟩ by rw [HR.out.eq, HK.out, List.take_of_length_le (Nat.le_refl _)])
        go_wp2_with fail
        refine (known_calls _).mono ?_
        rintro e w3 ⟨rfl, hb3⟩
        have HB3 := Lib.hid (HR.out.below.trans (hb3.mono HR.out.below.size))
        clear hb3
        go_wp2_with fail
        refine (text_sl (HP.out.below HB3.out) HOK.out (by omega) (tab_below HT.out (HB1.out.trans (HB3.out.mono HB1.out.size)))).mono ?_
        rintro e w4 ⟨rfl, hb4⟩
        have HB4 := Lib.hid (HB3.out.trans (hb4.mono HB3.out.size))
        clear hb4
        rw [← HEQ.out]
        go_wp2_with fail
        go_ret
        exact ⟨rfl, HB1.out.trans (HB4.out.mono HB1.out.size)⟩
end Go.Proofs.YtoaeejeimcahhaaGreatDoor
end
