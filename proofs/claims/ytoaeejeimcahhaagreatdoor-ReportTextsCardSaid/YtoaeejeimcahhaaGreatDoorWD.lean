/- What the reference's digits and sign answer. -/
import Derived.Test.YtoaeejeimcahhaaGreatDoorWT
import Derived.Laws.BytesString
import Derived.Laws.IdiomStrings
section
set_option linter.unusedVariables false
namespace Go.Proofs.YtoaeejeimcahhaaGreatDoor
open Go.Shelf Go.RowKit
theorem conv1 (w : World) (c : Int) (b : UInt8) (hc : c = b.toNat) :
    (convert 46 9 (.slice (some ⟨w.heap.size, 0, none⟩) 1 1)).run Tryz.prog (w.alloc (.cells #[.int .u8 c] 5)) = .ok (.string ⟨#[b]⟩) (w.alloc (.cells #[.int .u8 c] 5)) := by
  have h := run_convert_bytes_back (P := Tryz.prog) (w.alloc (.cells #[.int .u8 c] 5)) 46 9 5 ⟨w.heap.size, 0, none⟩ 1 [b] Tryz.underlying46 Tryz.underlying5 Tryz.underlying9 (fun j hj => by
    have : j = 0 := by simpa using hj
    subst this
    subst hc
    have h : (w.alloc (.cells #[.int .u8 (b.toNat : Int)] 5)).heap[w.heap.size]? = some (.cells #[.int .u8 (b.toNat : Int)] 5 (0, 0)) := heap_alloc_new _ _
    simp only [Addr.add, World.cell?, if_true, h]
    rfl)
  exact h
/-- the digits of a number, none for 0 -/
def ddp (m : Nat) : List UInt8 := if m = 0 then [] else Lib.decDigits m
def dgt (m : Nat) : UInt8 := UInt8.ofNat (48 + m % 10)
theorem ddp_step (m : Nat) (h : 0 < m) : ddp m = ddp (m / 10) ++ [dgt m] := by
  unfold ddp
  rw [if_neg (by omega)]
  rw [Lib.decDigits]
  by_cases h1 : m < 10
  · rw [dif_pos h1, if_pos (by omega)]
    have : m % 10 = m := by omega
    simp [dgt, this]
  · rw [dif_neg h1, if_neg (by omega)]; rfl
theorem dec_ddp (n : Nat) : Lib.decDigits n = ddp (n / 10) ++ [dgt n] := by
  by_cases h : n = 0
  · subst h; rw [Lib.decDigits, dif_pos (by omega)]; rfl
  · rw [← ddp_step n (by omega)]; unfold ddp; rw [if_neg h]
theorem dgt_nat (m : Nat) : (dgt m).toNat = 48 + m % 10 := by
  unfold dgt
  simp only [UInt8.toNat_ofNat']
  omega
theorem itoaB_nat (n : Nat) : itoaB n = ⟨(Lib.decDigits n).toArray⟩ := by
  unfold itoaB Lib.itoa
  rw [if_neg (by omega)]; rfl
theorem dec_len (n : Nat) (hn : n ≤ 9223372036854775807) : (Lib.decDigits n).length ≤ 21 := by
  have := itoaB_size n ⟨by omega, by omega⟩
  rw [itoaB_nat, size_mk] at this; exact this
/-- how far the digits are -/
structure DI (w : World) (n : Nat) (M : Nat) (t : ByteArray) (wr : World) : Prop where
  le : M ≤ n
  eq : Lib.decDigits n = ddp M ++ t.data.toList
  len : t.size ≤ 100
  below : Below w.heap.size w wr
theorem DI.step {w : World} {n M : Nat} {t : ByteArray} {wr : World} (h : DI w n M t wr) (hM : 0 < M) (hn : (Lib.decDigits n).length ≤ 100) (o : Obj) : DI w n (M / 10) (⟨#[dgt M]⟩ ++ t) (wr.alloc o) := by
  have e : Lib.decDigits n = ddp (M / 10) ++ (⟨#[dgt M]⟩ ++ t : ByteArray).data.toList := by
    rw [h.eq, ddp_step M hM]; simp
  refine ⟨by have := h.le; omega, e, ?_, h.below.alloc h.below.size _⟩
  have h2 : (⟨#[dgt M]⟩ ++ t : ByteArray).data.toList.length = (⟨#[dgt M]⟩ ++ t : ByteArray).size := by rw [Array.length_toList]; rfl
  rw [← h2]
  have := congrArg List.length e
  rw [List.length_append] at this
  omega
set_option maxRecDepth 100000 in
set_option maxHeartbeats 2000000 in
theorem digits_pos (n : Nat) (hn : n ≤ 9223372036854775807) (w : World) :
    Calls Tryz.prog 13 #[.int .i64 n] w fun e w' => e = .returned (.string (itoaB n)) ∧ Below w.heap.size w w' := by
  have h0 : ¬ ((n : Int) < 0) := by omega
  have hdl := dec_len n hn
  go_enter Tryz.func13, Tryz.ntmps13
  go_wp2_with fail
  rw [conv1 w _ (dgt n) (by rw [dgt_nat]; omega)]
  simp only [Result.andThen]
  rw [Oper.upon_value]
  have hd0 : DI w n (n / 10) ⟨#[dgt n]⟩ (w.alloc (.cells #[.int .u8 (48 + (n : Int) % 10)] 5)) := ⟨by omega, by rw [dec_ddp n], by show 1 ≤ 100; omega, (Below.refl _ _).alloc (Nat.le_refl _) _⟩
  have HD0 := Lib.hid hd0
  clear hd0
  go_wp2_with fail
  go_loopw [5, 6] (fun s m wr => ∃ (M : Nat) (t : ByteArray), m = .int .i64 M ∧ s = .string t ∧ DI w n M t wr) (fun _ m _ => (intOf m).toNat)
  case atStart => exact ⟨n / 10, _, by go_num, rfl, HD0.out⟩
  case round =>
    obtain ⟨M, t, rfl, rfl, hd⟩ := hrel
    have hMn := hd.le
    have hts := hd.len
    have HD := Lib.hid hd
    clear hd
    have g1 : ¬ 9223372036854775807 < 1 + t.size := by omega
    by_cases hlt : 0 < M
    · go_wp2_with fail
      rw [conv1 wr _ (dgt M) (by rw [dgt_nat]; omega)]
      simp only [Result.andThen]
      rw [Oper.upon_value]
      go_wp2_with fail
      go_roundw
      case rel => exact ⟨M / 10, _, by go_num, rfl, HD.out.step hlt (by omega) _⟩
      case measure => simp [intOf]; omega
    · have hM : M = 0 := by omega
      go_wp2_with fail
      go_ret
      refine ⟨?_, HD.out.below⟩
      have : itoaB n = t := by rw [itoaB_nat, HD.out.eq, hM]; simp [ddp]
      rw [this]
      rfl
theorem itoa_neg (n : Nat) (h0 : 0 < n) : Lib.itoa (-(n : Int)) = 45 :: Lib.decDigits n := by
  unfold Lib.itoa
  rw [if_pos (by omega)]
  have : (-(n : Int)).natAbs = n := by omega
  rw [this]
theorem tmod_neg (M : Nat) : (-(M : Int)).tmod 10 = -(((M % 10 : Nat)) : Int) := by
  rw [Int.neg_tmod, Int.tmod_eq_emod_of_nonneg (by omega)]; rfl
theorem tdiv_neg (M : Nat) : (-(M : Int)).tdiv 10 = -(((M / 10 : Nat)) : Int) := by
  rw [Int.neg_tdiv, Int.tdiv_eq_ediv_of_nonneg (by omega)]; rfl
set_option maxRecDepth 100000 in
set_option maxHeartbeats 2000000 in
theorem digits_neg (n : Nat) (h0 : 0 < n) (hn : n ≤ 9223372036854775808) (w : World) :
    Calls Tryz.prog 13 #[.int .i64 (-(n : Int))] w fun e w' => e = .returned (.string (itoaB (-(n : Int)))) ∧ Below w.heap.size w w' := by
  have hneg : -(n : Int) < 0 := by omega
  have hdl : (Lib.decDigits n).length ≤ 100 := by
    have h1 := Lib.itoa_length_le (-(n : Int)) (by omega) (by omega)
    rw [itoa_neg n h0] at h1
    simp only [List.length_cons] at h1
    omega
  have hd0 : DI w n n ⟨#[]⟩ w := ⟨Nat.le_refl _, by unfold ddp; rw [if_neg (by omega)]; simp, by show 0 ≤ 100; omega, Below.refl _ _⟩
  have HD0 := Lib.hid hd0
  clear hd0
  go_enter Tryz.func13, Tryz.ntmps13
  go_wp2_with fail
  go_loopw [3, 4] (fun s m wr => ∃ (M : Nat) (t : ByteArray), m = .int .i64 (-(M : Int)) ∧ s = .string t ∧ DI w n M t wr) (fun _ m _ => (-(intOf m)).toNat)
  case atStart => exact ⟨n, _, rfl, rfl, HD0.out⟩
  case round =>
    obtain ⟨M, t, rfl, rfl, hd⟩ := hrel
    have hMn := hd.le
    have hts := hd.len
    have HD := Lib.hid hd
    clear hd
    have g1 : ¬ 9223372036854775807 < 1 + t.size := by omega
    by_cases hlt : 0 < M
    · have k1 : -(M : Int) < 0 := by omega
      have k2 := tmod_neg M
      have k3 := tdiv_neg M
      go_wp2_with fail
      rw [conv1 wr _ (dgt M) (by rw [dgt_nat]; omega)]
      simp only [Result.andThen]
      rw [Oper.upon_value]
      go_wp2_with fail
      go_roundw
      case rel => exact ⟨M / 10, _, by go_num, rfl, HD.out.step hlt (by omega) _⟩
      case measure => simp [intOf]; omega
    · have hM : M = 0 := by omega
      subst hM
      go_wp2_with fail
      go_ret
      refine ⟨?_, HD.out.below⟩
      have : itoaB (-(n : Int)) = (⟨#[45]⟩ : ByteArray) ++ t := by
        unfold itoaB
        rw [itoa_neg n h0, HD.out.eq]
        apply ByteArray.ext
        simp [ddp]
      rw [this]
      rfl
theorem digits_any (n : Int) (h : i64ok n) (w : World) : Calls Tryz.prog 13 #[.int .i64 n] w fun e w' => e = .returned (.string (itoaB n)) ∧ Below w.heap.size w w' := by
  obtain ⟨h1, h2⟩ := h
  by_cases h0 : 0 ≤ n
  · obtain ⟨m, rfl⟩ := Int.eq_ofNat_of_zero_le h0
    exact digits_pos m (by omega) w
  · obtain ⟨m, hm⟩ := Int.eq_ofNat_of_zero_le (a := -n) (by omega)
    have : n = -(m : Int) := by omega
    subst this
    exact digits_neg m (by omega) (by omega) w
end Go.Proofs.YtoaeejeimcahhaaGreatDoor
end
