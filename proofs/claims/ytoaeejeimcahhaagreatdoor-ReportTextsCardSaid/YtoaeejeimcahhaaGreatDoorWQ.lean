/- What report.quoted answers for any string. -/
import Derived.Test.YtoaeejeimcahhaaGreatDoorWBld
import Derived.Test.YtoaeejeimcahhaaGreatDoorLays
import Derived.Lib.ConvBytes
import Derived.Lib.Hide
import Derived.Outline
section
set_option linter.unusedVariables false
namespace Go.Proofs.YtoaeejeimcahhaaGreatDoor
open Go.Shelf Go.RowKit
theorem Bld.fresh (w : World) : Bld w.heap.size none [] (w.alloc (.cells #[.pointer none, .slice none 0 0] 50 (0, 0))) := by
  refine ⟨.pointer none, .slice none 0 0, .inl rfl, heap_alloc_new _ _, ⟨rfl, .inl ⟨rfl, rfl⟩⟩, rfl⟩
def dig (n : Nat) : UInt8 := if n < 10 then UInt8.ofNat (48 + n) else UInt8.ofNat (87 + n)
def esc (c : UInt8) : List UInt8 := if c = 34 ∨ c = 92 then [92, c] else if 32 ≤ c ∧ c ≤ 126 then [c] else [92, 120, dig (c.toNat / 16), dig (c.toNat % 16)]
def quotedL (l : List UInt8) : List UInt8 := 34 :: (l.flatMap esc ++ [34])
/-- a builder that grows beside a row of bytes -/
def QI (w : World) (R : Nat) (s : ByteArray) (acc : List UInt8) (wr : World) : Prop :=
  ∃ row, Bld w.heap.size row (Lib.byteCells acc) wr ∧ Below w.heap.size w wr ∧ R < wr.heap.size ∧ w.heap.size < R ∧ row ≠ some R ∧ ∀ j, j < s.size → wr.cell? ⟨R, j, none⟩ = some (.int .u8 (s.data.toList.getD j 0).toNat)
theorem QI.wrote {w : World} {R : Nat} {s : ByteArray} {acc xs : List UInt8} {wr w' : World} {row : Option Nat} (hb : Below w.heap.size w wr) (hR : R < wr.heap.size) (hR2 : w.heap.size < R) (hne : row ≠ some R) (hrl : ∀ k, row = some k → w.heap.size < k)
    (hc : ∀ j, j < s.size → wr.cell? ⟨R, j, none⟩ = some (.int .u8 (s.data.toList.getD j 0).toNat)) (h : Wrote w.heap.size row (Lib.byteCells acc ++ Lib.byteCells xs) wr w') : QI w R s (acc ++ xs) w' := by
  obtain ⟨row', h1, h2, h3⟩ := h
  refine ⟨row', by simpa [Lib.byteCells] using h1, ⟨h2.os.trans hb.os, h2.tape.trans hb.tape, h2.output.trans hb.output, Nat.le_trans hb.size h2.size, fun k hk => ?_⟩, Nat.lt_of_lt_of_le hR h2.size, hR2, ?_, fun j hj => ?_⟩
  · rw [h2.block k (Nat.lt_of_lt_of_le hk hb.size) (by omega) (fun e => by have := hrl k e.symm; omega)]; exact hb.block k hk
  · rcases h3 with rfl | ⟨k, hk, rfl⟩
    · exact hne
    · simp only [ne_eq, Option.some.injEq]; omega
  · rw [h2.cell hR (by omega) (fun e => hne e.symm)]; exact hc j hj
theorem qi_byte {w : World} {R : Nat} {s : ByteArray} {acc : List UInt8} {wr : World} (h : QI w R s acc wr) (c : Int) (x : UInt8) (hx : c = x.toNat) (hl : acc.length ≤ 100000000000) :
    Calls Tryz.prog 64 #[.pointer (some ⟨w.heap.size, 0, none⟩), .int .u8 c] wr fun e w' => e = .returned .nilIface ∧ QI w R s (acc ++ [x]) w' := by
  obtain ⟨row, h1, h2, h3, h4, h5, h6⟩ := h
  refine (writeByte_any _ row _ c wr h1 (by simp [Lib.byteCells]; omega)).mono fun e w' he => ⟨he.1, QI.wrote h2 h3 h4 h5 (fun k hk => (h1.row_low hk).1) h6 (by subst hx; exact he.2)⟩
theorem qi_str {w : World} {R : Nat} {s : ByteArray} {acc : List UInt8} {wr : World} (h : QI w R s acc wr) (t : ByteArray) (xs : List UInt8) (hx : t.data.toList = xs) (hl : acc.length + xs.length ≤ 100000000000) :
    Calls Tryz.prog 17 #[.pointer (some ⟨w.heap.size, 0, none⟩), .string t] wr fun e w' => e = .returned (.tuple #[.int .i64 t.size, .nilIface]) ∧ QI w R s (acc ++ xs) w' := by
  obtain ⟨row, h1, h2, h3, h4, h5, h6⟩ := h
  have hts : t.size = xs.length := by rw [← hx]; simp
  refine (writeString_any _ row _ t wr h1 (by simp [Lib.byteCells]; omega)).mono fun e w' he => ⟨he.1, QI.wrote h2 h3 h4 h5 (fun k hk => (h1.row_low hk).1) h6 (by subst hx; exact he.2)⟩
theorem Bld.is {b : Nat} {row : Option Nat} {bs : List Value} {w : World} (h : Bld b row bs w) : Lib.IsBuilder 50 5 b b bs w := by
  have hne := h.row_ne
  obtain ⟨p, v, hp, hb, hown, hrow⟩ := h
  have hat : Lib.BuilderAt 50 5 b b p bs w := ⟨Nat.le_refl _, v, hb, ⟨hown.1, hown.2.imp id fun ⟨g, cap, cur, h1, h2, h3⟩ => ⟨g, cap, cur, h1, by omega, h3⟩⟩, by rw [← hrow]; exact hne⟩
  rcases hp with rfl | rfl
  · exact .inl hat
  · exact .inr hat
theorem qi_string {w : World} {R : Nat} {s : ByteArray} {acc : List UInt8} {wr : World} (h : QI w R s acc wr) :
    Calls Tryz.prog 19 #[.pointer (some ⟨w.heap.size, 0, none⟩)] wr fun e w' => e = .returned (.string ⟨acc.toArray⟩) ∧ Below w.heap.size w w' := by
  obtain ⟨row, h1, h2, h3, h4, h5, h6⟩ := h
  exact (Tryz.Builder_String_any w.heap.size w.heap.size acc wr h1.is h2.size).mono fun e w' he => ⟨he.1, h2.trans he.2⟩
theorem hexAt : ∀ (m : Nat) (h : m < (⟨#[48, 49, 50, 51, 52, 53, 54, 55, 56, 57, 97, 98, 99, 100, 101, 102]⟩ : ByteArray).size),
    ((((⟨#[48, 49, 50, 51, 52, 53, 54, 55, 56, 57, 97, 98, 99, 100, 101, 102]⟩ : ByteArray)[m]'h).toNat : Nat) : Int) = ((dig m).toNat : Int) := by
  intro m h
  have key : ∀ m : Fin 16, ((⟨#[48, 49, 50, 51, 52, 53, 54, 55, 56, 57, 97, 98, 99, 100, 101, 102]⟩ : ByteArray)[m.1]'m.2).toNat = (dig m.1).toNat := by decide
  exact congrArg _ (key ⟨m, h⟩)
theorem esc_len (c : UInt8) : (esc c).length ≤ 4 := by unfold esc; split <;> (try split) <;> simp
theorem flat_len (l : List UInt8) : (l.flatMap esc).length ≤ 4 * l.length := by
  induction l with
  | nil => simp
  | cons c l ih => rw [List.flatMap_cons, List.length_append, List.length_cons]; have := esc_len c; omega
theorem step_acc (l : List UInt8) (k : Nat) (hk : k < l.length) (x : UInt8) (hx : l.getD k 0 = x) (E : List UInt8) (he : esc x = E) : 34 :: (l.take (k + 1)).flatMap esc = (34 :: (l.take k).flatMap esc) ++ E := by
  have h1 : l[k] = x := by rw [← hx, List.getD_eq_getElem?_getD, List.getElem?_eq_getElem hk]; rfl
  rw [List.take_succ_eq_append_getElem hk, List.flatMap_append, h1]
  simp [he]
theorem esc_a (x : UInt8) (h : (x.toNat : Int) = 34 ∨ (x.toNat : Int) = 92) : esc x = [92] ++ [x] := by
  unfold esc
  have : x = 34 ∨ x = 92 := h.imp (fun h => UInt8.toNat_inj.1 (by simpa using (by omega : x.toNat = 34))) (fun h => UInt8.toNat_inj.1 (by simpa using (by omega : x.toNat = 92)))
  rw [if_pos this]; rfl
theorem esc_ne (x : UInt8) (h1 : ((x.toNat : Int) == 34) = false) (h2 : ((x.toNat : Int) == 92) = false) : ¬ (x = 34 ∨ x = 92) := by
  simp only [beq_eq_false_iff_ne] at h1 h2
  rintro (rfl | rfl)
  · exact h1 rfl
  · exact h2 rfl
theorem esc_b (x : UInt8) (h1 : ((x.toNat : Int) == 34) = false) (h2 : ((x.toNat : Int) == 92) = false) (h3 : 32 ≤ (x.toNat : Int)) (h4 : (x.toNat : Int) ≤ 126) : esc x = [x] := by
  unfold esc
  rw [if_neg (esc_ne x h1 h2), if_pos ⟨by rw [UInt8.le_iff_toNat_le]; show 32 ≤ x.toNat; omega, by rw [UInt8.le_iff_toNat_le]; show x.toNat ≤ 126; omega⟩]
theorem esc_c (x : UInt8) (h1 : ((x.toNat : Int) == 34) = false) (h2 : ((x.toNat : Int) == 92) = false) (h3 : (x.toNat : Int) < 32 ∨ 126 < (x.toNat : Int)) : esc x = [92, 120] ++ [dig (x.toNat / 16)] ++ [dig (x.toNat % 16)] := by
  unfold esc
  rw [if_neg (esc_ne x h1 h2), if_neg]
  · rfl
  · rintro ⟨h5, h6⟩
    rw [UInt8.le_iff_toNat_le] at h5 h6
    have h5' : 32 ≤ x.toNat := h5
    have h6' : x.toNat ≤ 126 := h6
    omega
set_option maxRecDepth 100000 in
set_option maxHeartbeats 1000000 in
theorem quoted_any (s : ByteArray) (w : World) (hs : s.size ≤ 1000000000) :
    Calls Tryz.prog 33 #[.string s] w fun e w' => e = .returned (.string ⟨(quotedL s.data.toList).toArray⟩) ∧ Below w.heap.size w w' := by
  go_enter Tryz.func33, Tryz.ntmps33
  go_wp2_with (go_at_call 64; refine (writeByte_any w.heap.size none [] _ _ (Bld.fresh w) (by simp)).mono ?_)
  rintro e w1 ⟨rfl, row1, hb1, hk1, hr1⟩
  have HB1 := Lib.hid hb1
  have HR1 := Lib.hid hr1
  clear hb1 hr1
  go_wp2
  rw [Lib.run_convert_string_bytes w1 9 46 5 s Tryz.underlying9 Tryz.underlying46 Tryz.underlying5]
  simp only [Result.andThen]
  rw [Oper.upon_value]
  go_wp2
  have hlow : w.heap.size < w1.heap.size := HB1.out.low
  have hq0 : QI w w1.heap.size s [34] (Lib.bytesWorld w1 5 s) := by
    have hb := HB1.out
    obtain ⟨p, v, hp, hbk, hown, hrow⟩ := hb
    have hold : ∀ j, j < w1.heap.size → (Lib.bytesWorld w1 5 s).heap[j]? = w1.heap[j]? := fun j hj => Lib.bytesWorld_at_old w1 5 s j hj
    have hrl : ∀ g, row1 = some g → g < w1.heap.size := fun g hg => (HB1.out.row_low hg).2
    refine ⟨row1, ⟨p, v, hp, by rw [hold _ hlow]; exact hbk, ⟨hown.1, hown.2.imp id fun ⟨g, cap, cur, h1, h2, h3, h4⟩ => ⟨g, cap, cur, h1, h2, by rw [hold g (hrl g (by rw [hrow, h1]; rfl))]; exact h3, h4⟩⟩, hrow⟩, ?_, by rw [Lib.bytesWorld_size]; omega, hlow, fun e => by have := hrl _ e; omega, fun j hj => Lib.bytesWorld_cell w1 5 s j hj⟩
    refine ⟨hk1.os, hk1.tape, hk1.output, ?_, fun j hj => ?_⟩
    · rw [Lib.bytesWorld_size]; omega
    · rw [hold j (by omega), hk1.block j (by simp; omega) (by omega) (by simp)]
      exact Below.heap_alloc _ _ _ hj
  have HQ0 := Lib.hid hq0
  clear hq0 hk1
  go_loopw [10] (fun i wr => ∃ k : Nat, k ≤ s.size ∧ i = .int .i64 k ∧ QI w w1.heap.size s (34 :: (s.data.toList.take k).flatMap esc) wr) (fun i _ => s.size - (intOf i).toNat)
  case atStart => exact ⟨0, Nat.zero_le _, rfl, by simpa using HQ0.out⟩
  case round =>
    obtain ⟨k, hk, rfl, hq⟩ := hrel
    by_cases hlt : k < s.size
    · have hcell : wr.cell? ⟨w1.heap.size, k, none⟩ = some (.int .u8 (s.data.toList.getD k 0).toNat) := by obtain ⟨_, _, _, _, _, _, h⟩ := hq; exact h k hlt
      have HQ := Lib.hid hq
      clear hq
      generalize hx : s.data.toList.getD k 0 = x at hcell
      have HX := Lib.hid hx
      clear hx
      have hfl : (34 :: (s.data.toList.take k).flatMap esc).length ≤ 50000000000 := by
        have h1 := flat_len (s.data.toList.take k)
        have h2 : (s.data.toList.take k).length ≤ k := List.length_take_le _ _
        simp only [List.length_cons]
        omega
      obtain ⟨acc, hacc⟩ : ∃ acc, acc = 34 :: (s.data.toList.take k).flatMap esc := ⟨_, rfl⟩
      rw [← hacc] at HQ hfl
      have HA := Lib.hid hacc
      clear hacc
      have hd1 : 0 ≤ (x.toNat : Int) / 16 ∧ (x.toNat : Int) / 16 < 16 := by have := x.toNat_lt; omega
      have hd2 : 0 ≤ (x.toNat : Int) % 16 ∧ (x.toNat : Int) % 16 < 16 := by omega
      have fin : ∀ (E : List UInt8) (w' : World), esc x = E → QI w w1.heap.size s (acc ++ E) w' → QI w w1.heap.size s (34 :: (s.data.toList.take (k + 1)).flatMap esc) w' := fun E w' h1 h2 => by
        rw [step_acc _ k (by simpa using hlt) x HX.out _ h1, ← HA.out]; exact h2
      have FIN := Lib.hid fin
      clear fin
      go_wp2_with fail
      · have h1 : (x.toNat : Int) = 34 := by assumption
        have HE := Lib.hid (esc_a x (.inl h1))
        refine (qi_byte HQ.out _ 92 rfl (by omega)).mono ?_
        rintro e w2 ⟨rfl, hq2⟩
        have HQ2 := Lib.hid hq2; clear hq2
        go_wp2_with fail
        refine (qi_byte HQ2.out _ x (by first | rfl | exact h1.symm) (by simp; omega)).mono ?_
        rintro e w3 ⟨rfl, hq3⟩
        have HQ3 := Lib.hid (FIN.out _ _ HE.out (by simpa using hq3)); clear hq3
        go_wp2_with fail
        go_roundw
        case rel => exact ⟨k + 1, by omega, by go_num, HQ3.out⟩
        case measure => simp [intOf]; omega
      · have h1 : ((x.toNat : Int) == 34) = true ∨ ((x.toNat : Int) == 92) = true := by assumption
        have HE := Lib.hid (esc_a x (by simpa using h1))
        refine (qi_byte HQ.out _ 92 rfl (by omega)).mono ?_
        rintro e w2 ⟨rfl, hq2⟩
        have HQ2 := Lib.hid hq2; clear hq2
        go_wp2_with fail
        refine (qi_byte HQ2.out _ x (by first | rfl | exact h1.symm) (by simp; omega)).mono ?_
        rintro e w3 ⟨rfl, hq3⟩
        have HQ3 := Lib.hid (FIN.out _ _ HE.out (by simpa using hq3)); clear hq3
        go_wp2_with fail
        go_roundw
        case rel => exact ⟨k + 1, by omega, by go_num, HQ3.out⟩
        case measure => simp [intOf]; omega
      · have h1 : ((x.toNat : Int) == 34) = false ∧ ((x.toNat : Int) == 92) = false := by assumption
        have HE := Lib.hid (esc_b x h1.1 h1.2 (by assumption) (by assumption))
        refine (qi_byte HQ.out _ x rfl (by omega)).mono ?_
        rintro e w3 ⟨rfl, hq3⟩
        have HQ3 := Lib.hid (FIN.out _ _ HE.out (by simpa using hq3)); clear hq3
        go_wp2_with fail
        go_roundw
        case rel => exact ⟨k + 1, by omega, by go_num, HQ3.out⟩
        case measure => simp [intOf]; omega
      · have h1 : ((x.toNat : Int) == 34) = false ∧ ((x.toNat : Int) == 92) = false := by assumption
        have HE := Lib.hid (esc_c x h1.1 h1.2 (.inr (by assumption)))
        refine (qi_str HQ.out _ [92, 120] rfl (by simp; omega)).mono ?_
        rintro e w2 ⟨rfl, hq2⟩
        have HQ2 := Lib.hid hq2; clear hq2
        go_wp2_with fail
        refine (qi_byte HQ2.out _ (dig (x.toNat / 16)) (hexAt _ _) (by simp; omega)).mono ?_
        rintro e w3 ⟨rfl, hq3⟩
        have HQ3 := Lib.hid hq3; clear hq3
        go_wp2_with fail
        refine (qi_byte HQ3.out _ (dig (x.toNat % 16)) (hexAt _ _) (by simp; omega)).mono ?_
        rintro e w4 ⟨rfl, hq4⟩
        have HQ4 := Lib.hid (FIN.out _ _ HE.out (by simpa using hq4)); clear hq4
        go_wp2_with fail
        go_roundw
        case rel => exact ⟨k + 1, by omega, by go_num, HQ4.out⟩
        case measure => simp [intOf]; omega
      · have h1 : ((x.toNat : Int) == 34) = false ∧ ((x.toNat : Int) == 92) = false := by assumption
        have HE := Lib.hid (esc_c x h1.1 h1.2 (.inl (by assumption)))
        refine (qi_str HQ.out _ [92, 120] rfl (by simp; omega)).mono ?_
        rintro e w2 ⟨rfl, hq2⟩
        have HQ2 := Lib.hid hq2; clear hq2
        go_wp2_with fail
        refine (qi_byte HQ2.out _ (dig (x.toNat / 16)) (hexAt _ _) (by simp; omega)).mono ?_
        rintro e w3 ⟨rfl, hq3⟩
        have HQ3 := Lib.hid hq3; clear hq3
        go_wp2_with fail
        refine (qi_byte HQ3.out _ (dig (x.toNat % 16)) (hexAt _ _) (by simp; omega)).mono ?_
        rintro e w4 ⟨rfl, hq4⟩
        have HQ4 := Lib.hid (FIN.out _ _ HE.out (by simpa using hq4)); clear hq4
        go_wp2_with fail
        go_roundw
        case rel => exact ⟨k + 1, by omega, by go_num, HQ4.out⟩
        case measure => simp [intOf]; omega
    · have hke : k = s.size := by omega
      have HQ := Lib.hid hq
      clear hq
      have hfl : (34 :: (s.data.toList.take k).flatMap esc).length ≤ 50000000000 := by
        have h1 := flat_len (s.data.toList.take k)
        have h2 : (s.data.toList.take k).length ≤ k := List.length_take_le _ _
        simp only [List.length_cons]
        omega
      have HK := Lib.hid hke
      clear hke
      go_wp2_with fail
      refine (qi_byte HQ.out _ 34 rfl (by simp only [List.length_cons] at hfl ⊢; omega)).mono ?_
      rintro e w3 ⟨rfl, hq3⟩
      have HQ3 := Lib.hid hq3; clear hq3
      go_wp2_with fail
      refine (qi_string HQ3.out).mono ?_
      rintro e w4 ⟨rfl, hb4⟩
      have HB4 := Lib.hid hb4; clear hb4
      go_wp2_with fail
      go_ret
      refine ⟨?_, HB4.out⟩
      have he : 34 :: ((s.data.toList.take k).flatMap esc ++ [34]) = quotedL s.data.toList := by
        rw [HK.out, List.take_of_length_le (by simp)]; simp [quotedL]
      rw [he]
      rfl
end Go.Proofs.YtoaeejeimcahhaaGreatDoor
end
