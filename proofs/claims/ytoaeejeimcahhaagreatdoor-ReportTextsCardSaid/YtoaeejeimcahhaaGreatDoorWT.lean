/- What report.Text answers for any row of edits. -/
import Derived.Test.YtoaeejeimcahhaaGreatDoorWL
import Derived.Deep.Slices
import Derived.Deep.Fields
import Derived.ChangeSame
section
set_option linter.unusedVariables false
namespace Go.Proofs.YtoaeejeimcahhaaGreatDoor
open Go.Shelf Go.RowKit
structure Ed where
  f0 : Int
  f1 : Int
  f2 : Int
  f3 : Int
  f4 : Int
  f5 : ByteArray
  f6 : ByteArray
def Ed.cells (x : Ed) : Array Value := ecells x.f0 x.f1 x.f2 x.f3 x.f4 x.f5 x.f6
def i64ok (n : Int) : Prop := -9223372036854775808 ≤ n ∧ n ≤ 9223372036854775807
structure Ed.ok (x : Ed) : Prop where
  r0 : i64ok x.f0
  r1 : i64ok x.f1
  r2 : i64ok x.f2
  r3 : i64ok x.f3
  r4 : i64ok x.f4
def Ed.line (x : Ed) : ByteArray := lineB x.f0 x.f1 x.f2 x.f3 x.f4 x.f5 x.f6
def Ed.z : Ed := ⟨0, 0, 0, 0, 0, ⟨#[]⟩, ⟨#[]⟩⟩
/-- a row of edits -/
def EdsAt (w : World) (a : Addr) (xs : List Ed) : Prop := (0 < xs.length → a.block < w.heap.size) ∧ ∀ i, i < xs.length → ∀ (j : Nat) (v : Value), (xs.getD i Ed.z).cells[j]? = some v → w.cell? (a.add (i * 7 + j)) = some v
theorem addr_add_block (a : Addr) (n : Nat) : (a.add n).block = a.block := by unfold Addr.add; split <;> rfl
theorem addr_at (a : Addr) (m j : Nat) (hj : 0 < j) : (⟨(a.add m).block, (a.add m).off + j, none⟩ : Addr) = a.add (m + j) := by
  have h : ∀ c : Addr, c.add j = ⟨c.block, c.off + j, none⟩ := fun c => by unfold Addr.add; rw [if_neg (by omega)]
  rw [← Go.Deep.add_add, h]
theorem EdsAt.at {w : World} {a : Addr} {xs : List Ed} (h : EdsAt w a xs) {k : Nat} (hk : k < xs.length) {x : Ed} (hx : x = xs.getD k Ed.z) :
    w.cell? (a.add (k * 7)) = some (.int .i64 x.f0) ∧ w.cell? ⟨(a.add (k * 7)).block, (a.add (k * 7)).off + 1, none⟩ = some (.int .i64 x.f1) ∧ w.cell? ⟨(a.add (k * 7)).block, (a.add (k * 7)).off + 2, none⟩ = some (.int .i64 x.f2) ∧
    w.cell? ⟨(a.add (k * 7)).block, (a.add (k * 7)).off + 3, none⟩ = some (.int .i64 x.f3) ∧ w.cell? ⟨(a.add (k * 7)).block, (a.add (k * 7)).off + 4, none⟩ = some (.int .i64 x.f4) ∧
    w.cell? ⟨(a.add (k * 7)).block, (a.add (k * 7)).off + 5, none⟩ = some (.string x.f5) ∧ w.cell? ⟨(a.add (k * 7)).block, (a.add (k * 7)).off + 6, none⟩ = some (.string x.f6) := by
  subst hx
  refine ⟨h.2 k hk 0 _ rfl, ?_, ?_, ?_, ?_, ?_, ?_⟩
  all_goals rw [addr_at _ _ _ (by omega)]
  · exact h.2 k hk 1 _ rfl
  · exact h.2 k hk 2 _ rfl
  · exact h.2 k hk 3 _ rfl
  · exact h.2 k hk 4 _ rfl
  · exact h.2 k hk 5 _ rfl
  · exact h.2 k hk 6 _ rfl
theorem EdsAt.below {w w' : World} {a : Addr} {xs : List Ed} (h : EdsAt w a xs) (hb : Below w.heap.size w w') : EdsAt w' a xs :=
  ⟨fun h0 => Nat.lt_of_lt_of_le (h.1 h0) hb.size, fun i hi j v hv => by
    rw [hb.cell (p := a.add (i * 7 + j)) (by rw [addr_add_block]; exact h.1 (by omega))]; exact h.2 i hi j v hv⟩
/-- a builder of the call's own -/
def TI (w : World) (acc : List UInt8) (wr : World) : Prop := ∃ row, Bld w.heap.size row (Lib.byteCells acc) wr ∧ Below w.heap.size w wr
theorem Bld.below {b : Nat} {row : Option Nat} {bs : List Value} {w w' : World} (h : Bld b row bs w) (hb : Below w.heap.size w w') : Bld b row bs w' := by
  have hl := h.low
  have hr := fun k (hk : row = some k) => h.row_low hk
  obtain ⟨p, v, hp, hbk, hown, hrow⟩ := h
  refine ⟨p, v, hp, by rw [hb.block _ hl]; exact hbk, ⟨hown.1, hown.2.imp id fun ⟨g, cap, cur, h1, h2, h3, h4⟩ => ⟨g, cap, cur, h1, h2, ?_, h4⟩⟩, hrow⟩
  rw [hb.block g (hr g (by rw [hrow, h1]; rfl)).2]; exact h3
theorem TI.below {w : World} {acc : List UInt8} {wr w' : World} (h : TI w acc wr) (hb : Below wr.heap.size wr w') : TI w acc w' := by
  obtain ⟨row, h1, h2⟩ := h
  exact ⟨row, h1.below hb, h2.trans (hb.mono h2.size)⟩
theorem ti_str {w : World} {acc : List UInt8} {wr : World} (h : TI w acc wr) (t : ByteArray) (hl : acc.length + t.size ≤ 140737488355328) :
    Calls Tryz.prog 17 #[.pointer (some ⟨w.heap.size, 0, none⟩), .string t] wr fun e w' => e = .returned (.tuple #[.int .i64 t.size, .nilIface]) ∧ TI w (acc ++ t.data.toList) w' := by
  obtain ⟨row, h1, h2⟩ := h
  refine (writeString_any _ row _ t wr h1 (by simp [Lib.byteCells]; omega)).mono fun e w' he => ⟨he.1, ?_⟩
  obtain ⟨row', k1, k2, k3⟩ := he.2
  refine ⟨row', by simpa [Lib.byteCells, Lib.strCells] using k1, ⟨k2.os.trans h2.os, k2.tape.trans h2.tape, k2.output.trans h2.output, Nat.le_trans h2.size k2.size, fun k hk => ?_⟩⟩
  rw [k2.block k (Nat.lt_of_lt_of_le hk h2.size) (by omega) (fun e => by have := (h1.row_low e.symm).1; omega)]; exact h2.block k hk
theorem ti_string {w : World} {acc : List UInt8} {wr : World} (h : TI w acc wr) :
    Calls Tryz.prog 19 #[.pointer (some ⟨w.heap.size, 0, none⟩)] wr fun e w' => e = .returned (.string ⟨acc.toArray⟩) ∧ Below w.heap.size w w' := by
  obtain ⟨row, h1, h2⟩ := h
  exact (Tryz.Builder_String_any w.heap.size w.heap.size acc wr h1.is h2.size).mono fun e w' he => ⟨he.1, h2.trans he.2⟩
def textL (xs : List Ed) : List UInt8 := xs.flatMap fun x => x.line.data.toList
theorem itoaB_size (n : Int) (h : i64ok n) : (itoaB n).size ≤ 21 := by unfold itoaB; rw [size_mk]; exact Lib.itoa_length_le n h.1 h.2
theorem quotedB_size (s : ByteArray) : (quotedB s).size ≤ 4 * s.size + 2 := by
  unfold quotedB; rw [size_mk]
  have := quoted_len s.data.toList
  have h2 : s.data.toList.length = s.size := by simp
  omega
theorem line_size (x : Ed) (h : x.ok) (h5 : x.f5.size ≤ 1000000) (h6 : x.f6.size ≤ 1000000) : x.line.size ≤ 9000000 := by
  have a1 := itoaB_size _ h.r1
  have a2 := itoaB_size _ h.r2
  have a3 := itoaB_size _ h.r3
  have a4 := itoaB_size _ h.r4
  have q5 := quotedB_size x.f5
  have q6 := quotedB_size x.f6
  have hu : (underB x.f2 x.f3).size ≤ 60 := by
    unfold underB; simp only [ByteArray.size_append]; show 7 + (itoaB x.f2).size + 7 + (itoaB x.f3).size ≤ 60; omega
  have ht : (textsB x.f5 x.f6).size ≤ 8000020 := by
    unfold textsB; simp only [ByteArray.size_append]; show 6 + (quotedB x.f5).size + 7 + (quotedB x.f6).size ≤ 8000020; omega
  unfold Ed.line lineB
  split
  · simp only [ByteArray.size_append]; show 7 + (itoaB x.f1).size + 6 + (itoaB x.f4).size + (underB x.f2 x.f3).size + (textsB x.f5 x.f6).size + 1 ≤ 9000000; omega
  · split
    · simp only [ByteArray.size_append]; show 7 + (itoaB x.f1).size + 1 ≤ 9000000; omega
    · split
      · simp only [ByteArray.size_append]; show 7 + (itoaB x.f1).size + (textsB x.f5 x.f6).size + 1 ≤ 9000000; omega
      · split
        · simp only [ByteArray.size_append]; show 5 + (itoaB x.f1).size + (underB x.f2 x.f3).size + 1 ≤ 9000000; omega
        · show 0 ≤ 9000000; omega
theorem textL_len : ∀ (xs : List Ed), (∀ x ∈ xs, x.ok ∧ x.f5.size ≤ 1000000 ∧ x.f6.size ≤ 1000000) → (textL xs).length ≤ 9000000 * xs.length
  | [], _ => by simp [textL]
  | x :: xs, h => by
    have ih := textL_len xs fun y hy => h y (by simp [hy])
    obtain ⟨h1, h2, h3⟩ := h x (by simp)
    have := line_size x h1 h2 h3
    have e : textL (x :: xs) = x.line.data.toList ++ textL xs := by simp [textL]
    have e2 : x.line.data.toList.length = x.line.size := by simp
    rw [e, List.length_append, e2, List.length_cons]
    omega
set_option maxRecDepth 100000 in
set_option maxHeartbeats 2000000 in
theorem text_any (a : Addr) (n cap : Nat) (xs : List Ed) (hn : xs.length = n) (w : World) (h : EdsAt w a xs) (hok : ∀ x ∈ xs, x.ok ∧ x.f5.size ≤ 1000000 ∧ x.f6.size ≤ 1000000) (hbig : n ≤ 1000)
    (htab : Lib.TabIs Tryz.prog w "internal/strconv.uint64pow10" .u64 Lib.pow10Tab) :
    Calls Tryz.prog 10 #[.slice (some a) n cap] w fun e w' => e = .returned (.string ⟨(textL xs).toArray⟩) ∧ Below w.heap.size w w' := by
  have HN := Lib.hid hn
  clear hn
  have hb0 : TI w [] (w.alloc (.cells #[.pointer none, .slice none 0 0] 50 (0, 0))) := ⟨none, Bld.fresh w, (Below.refl _ _).alloc (Nat.le_refl _) _⟩
  have HB0 := Lib.hid hb0
  have HE := Lib.hid h
  have HO := Lib.hid hok
  have HT := Lib.hid htab
  clear hb0 h hok htab
  go_enter Tryz.func10, Tryz.ntmps10
  go_wp2_with fail
  go_loopw [8] (fun i wr => ∃ k : Nat, k ≤ n ∧ i = .int .i64 k ∧ TI w (textL (xs.take k)) wr) (fun i _ => n - (intOf i).toNat)
  case atStart => exact ⟨0, Nat.zero_le _, rfl, HB0.out⟩
  case round =>
    obtain ⟨k, hk, rfl, hq⟩ := hrel
    have HQ := Lib.hid hq
    clear hq
    by_cases hlt : k < n
    · obtain ⟨x, hx⟩ : ∃ x, x = xs.getD k Ed.z := ⟨_, rfl⟩
      have HX := Lib.hid hx
      clear hx
      obtain ⟨d0, d1, d2, d3, d4, d5, d6⟩ := (HE.out.below (w' := wr) (HQ.out.elim fun _ h => h.2)).at (k := k) (by rw [HN.out]; exact hlt) HX.out
      go_wp2_with fail
      have hmem : x ∈ xs := by
        rw [HX.out]
        have : k < xs.length := by rw [HN.out]; exact hlt
        rw [List.getD_eq_getElem?_getD, List.getElem?_eq_getElem this]
        exact List.getElem_mem _
      have hxo := HO.out x hmem
      have hba : Below wr.heap.size wr (wr.alloc (.cells #[.int .i64 x.f0, .int .i64 x.f1, .int .i64 x.f2, .int .i64 x.f3, .int .i64 x.f4, .string x.f5, .string x.f6] 37)) := (Below.refl _ _).alloc (Nat.le_refl _) _
      have HBA := Lib.hid hba
      clear hba
      have HXO := Lib.hid hxo
      clear hxo hmem
      have htw : Lib.TabIs Tryz.prog (wr.alloc (.cells #[.int .i64 x.f0, .int .i64 x.f1, .int .i64 x.f2, .int .i64 x.f3, .int .i64 x.f4, .string x.f5, .string x.f6] 37)) "internal/strconv.uint64pow10" .u64 Lib.pow10Tab :=
        tab_below (tab_below HT.out (HQ.out.elim fun _ h => h.2)) HBA.out
      refine (line_any x.f0 x.f1 x.f2 x.f3 x.f4 x.f5 x.f6 _ htw HXO.out.1.r1.1 HXO.out.1.r1.2 HXO.out.1.r2.1 HXO.out.1.r2.2 HXO.out.1.r3.1 HXO.out.1.r3.2 HXO.out.1.r4.1 HXO.out.1.r4.2 (Nat.le_trans HXO.out.2.1 (by decide)) (Nat.le_trans HXO.out.2.2 (by decide))).mono ?_
      rintro e w3 ⟨rfl, hb3⟩
      have HQ3 := Lib.hid ((HQ.out.below HBA.out).below hb3)
      clear hb3 htw d0 d1 d2 d3 d4 d5 d6
      obtain ⟨t, ht⟩ : ∃ t, t = lineB x.f0 x.f1 x.f2 x.f3 x.f4 x.f5 x.f6 := ⟨_, rfl⟩
      rw [← ht]
      have HTX := Lib.hid ht
      clear ht
      go_wp2_with fail
      have hlen : (textL (xs.take k)).length + t.size ≤ 140737488355328 := by
        have h1 := textL_len (xs.take k) fun y hy => HO.out y (List.mem_of_mem_take hy)
        have h2 : (xs.take k).length ≤ k := List.length_take_le _ _
        have h3 := line_size x HXO.out.1 HXO.out.2.1 HXO.out.2.2
        have h4 : t.size ≤ 9000000 := by rw [HTX.out]; exact h3
        have h5 : 9000000 * (xs.take k).length ≤ 9000000 * 1000 := Nat.mul_le_mul_left _ (by omega)
        omega
      refine (ti_str HQ3.out t hlen).mono ?_
      rintro e w4 ⟨rfl, hq4⟩
      have HQ4 := Lib.hid hq4
      clear hq4
      go_wp2_with fail
      go_roundw
      case rel =>
        refine ⟨k + 1, by omega, by go_num, ?_⟩
        have hl : k < xs.length := by rw [HN.out]; exact hlt
        have he : textL (xs.take (k + 1)) = textL (xs.take k) ++ t.data.toList := by
          have hg : xs[k] = x := by rw [HX.out, List.getD_eq_getElem?_getD, List.getElem?_eq_getElem hl]; rfl
          unfold textL
          rw [List.take_succ_eq_append_getElem hl, List.flatMap_append, hg, HTX.out]
          simp [Ed.line]
        rw [he]; exact HQ4.out
      case measure => simp [intOf]; omega
    · have hke : k = n := by omega
      have HK := Lib.hid hke
      clear hke
      go_wp2_with fail
      refine (ti_string HQ.out).mono ?_
      rintro e w4 ⟨rfl, hb4⟩
      have HB4 := Lib.hid hb4; clear hb4
      go_wp2_with fail
      go_ret
      refine ⟨?_, HB4.out⟩
      have he : textL (xs.take k) = textL xs := by rw [HK.out, List.take_of_length_le (by rw [HN.out]; exact Nat.le_refl _)]
      rw [he]
      rfl
theorem mk_empty : (⟨([] : List UInt8).toArray⟩ : ByteArray) = ⟨#[]⟩ := rfl
set_option maxRecDepth 100000 in
set_option maxHeartbeats 2000000 in
theorem text_nil (w : World) : Calls Tryz.prog 10 #[.slice none 0 0] w fun e w' => e = .returned (.string ⟨(textL []).toArray⟩) ∧ Below w.heap.size w w' := by
  have hb0 : TI w [] (w.alloc (.cells #[.pointer none, .slice none 0 0] 50 (0, 0))) := ⟨none, Bld.fresh w, (Below.refl _ _).alloc (Nat.le_refl _) _⟩
  have HB0 := Lib.hid hb0
  clear hb0
  go_enter Tryz.func10, Tryz.ntmps10
  go_wp2_with fail
  go_loopw [8] (fun i wr => i = .int .i64 0 ∧ TI w [] wr) (fun i _ => 0)
  case atStart => exact ⟨rfl, HB0.out⟩
  case round =>
    obtain ⟨rfl, hq⟩ := hrel
    have HQ := Lib.hid hq
    clear hq
    go_wp2_with fail
    refine (ti_string HQ.out).mono ?_
    rintro e w4 ⟨rfl, hb4⟩
    have HB4 := Lib.hid hb4; clear hb4
    go_wp2_with fail
    go_ret
    exact ⟨rfl, HB4.out⟩
/-- a slice of edits -/
def EdSl (w : World) (v : Value) (xs : List Ed) : Prop := (v = .slice none 0 0 ∧ xs = []) ∨ ∃ a cap, v = .slice (some a) xs.length cap ∧ EdsAt w a xs
theorem EdSl.below {w w' : World} {v : Value} {xs : List Ed} (h : EdSl w v xs) (hb : Below w.heap.size w w') : EdSl w' v xs := h.imp id fun ⟨a, cap, h1, h2⟩ => ⟨a, cap, h1, h2.below hb⟩
/-- report.Text -/
theorem text_sl {w : World} {v : Value} {xs : List Ed} (h : EdSl w v xs) (hok : ∀ x ∈ xs, x.ok ∧ x.f5.size ≤ 1000000 ∧ x.f6.size ≤ 1000000) (hbig : xs.length ≤ 1000)
    (htab : Lib.TabIs Tryz.prog w "internal/strconv.uint64pow10" .u64 Lib.pow10Tab) :
    Calls Tryz.prog 10 #[v] w fun e w' => e = .returned (.string ⟨(textL xs).toArray⟩) ∧ Below w.heap.size w w' := by
  rcases h with ⟨rfl, rfl⟩ | ⟨a, cap, rfl, h⟩
  · exact text_nil w
  · exact text_any a _ cap xs rfl w h hok hbig htab
end Go.Proofs.YtoaeejeimcahhaaGreatDoor
end
