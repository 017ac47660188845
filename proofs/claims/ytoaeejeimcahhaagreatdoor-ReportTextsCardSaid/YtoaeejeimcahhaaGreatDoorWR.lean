/- What the reference's Quoted answers for any string. -/
import Derived.Test.YtoaeejeimcahhaaGreatDoorWD
section
set_option linter.unusedVariables false
namespace Go.Proofs.YtoaeejeimcahhaaGreatDoor
open Go.Shelf Go.RowKit
theorem byteCells_len (l : List UInt8) : (Lib.byteCells l).length = l.length := by simp [Lib.byteCells]
/-- a row of bytes of the call's own -/
structure OwnB (base : Nat) (v : Value) (acc : List UInt8) (w : World) : Prop where
  own : w.ownsRow base 5 1 v acc.length (Lib.byteCells acc)
theorem OwnB.alloc {base : Nat} {v : Value} {acc : List UInt8} {w : World} (h : OwnB base v acc w) (o : Obj) : OwnB base v acc (w.alloc o) := ⟨h.own.alloc o⟩
theorem app_bytes {w : World} {ops : Array Oper} {rest : List Oper} {o : Oper} {a : Act} {Q : Exit → Act → World → Prop} (hgd : o.guard = none) (s x : Operand)
    (ho : o.op = .call { callee := .builtin .append, args := #[s, x], argTypes := #[46, 46] }) (base : Nat) (v : Value) (acc : List UInt8) (hs : a.eval s = v) (hown : OwnB base v acc w)
    (ad : Addr) (m c : Nat) (news : List UInt8) (hx : a.eval x = .slice (some ad) m c) (hl : news.length = m) (hnews : ∀ (j : Nat) (u : Value), (Lib.byteCells news)[j]? = some u → w.cell? (ad.add j) = some u) (hlen : acc.length + m ≤ 100000000000) (hbase : base ≤ w.heap.size)
    (h : ∀ v' w', OwnB base v' (acc ++ news) w' → w.grownBy w' v.ownBlock → wpList Tryz.prog ops Q rest (a.put o.dst v') w') : wpList Tryz.prog ops Q (o :: rest) a w := by
  obtain ⟨i0, hi, hz0, hz1, hz2⟩ := info_parts infoU8
  refine wpList_append_own _ hgd _ _ 46 ho base 5 i0 (.int .u8 0) 1 1 Tryz.underlying46 hi hz0 hz1 hz2 rfl (by decide) v acc.length (Lib.byteCells acc) hs hown.own ad m c (Lib.byteCells news) hx (by rw [byteCells_len]; omega) hnews (fun u hu => ?_) (by unfold maxLen; omega) (by omega) hbase fun v' w' h1 h2 _ => h v' w' ⟨?_⟩ h2
  · simp only [Lib.byteCells, List.mem_map] at hu
    obtain ⟨b, _, rfl⟩ := hu
    rfl
  · rw [List.length_append, hl]
    have e : Lib.byteCells (acc ++ news) = Lib.byteCells acc ++ Lib.byteCells news := by simp [Lib.byteCells]
    rw [e]; exact h1
theorem u8_conv (n : Nat) (h : n < 16) : IntKind.u8.wrap (48 + (n : Int)) = 48 + n := by
  unfold IntKind.wrap IntKind.bits IntKind.signed; simp; omega
theorem dig_lo (n : Nat) (h : n < 10) : ((dig n).toNat : Int) = 48 + n := by
  unfold dig; rw [if_pos h]; simp only [UInt8.toNat_ofNat']; omega
theorem dig_hi (n : Nat) (h : ¬ n < 10) (h2 : n < 16) : ((dig n).toNat : Int) = 87 + n := by
  unfold dig; rw [if_neg h]; simp only [UInt8.toNat_ofNat']; omega
theorem sign_any (n : Nat) (h : n < 16) (w : World) : Calls Tryz.prog 24 #[.int .i64 n] w fun e w' => e = .returned (.int .u8 (dig n).toNat) ∧ w = w' := by
  by_cases h1 : n < 10
  · have hd := Lib.hid (dig_lo n h1)
    go_enter Tryz.func24, Tryz.ntmps24
    go_wp2
    go_ret
    rw [hd.out]
    exact ⟨rfl, rfl⟩
  · have hd := Lib.hid (dig_hi n h1 h)
    go_enter Tryz.func24, Tryz.ntmps24
    go_wp2
    go_ret
    rw [hd.out]
    exact ⟨rfl, rfl⟩
/-- the reference's row of bytes -/
structure QR (w : World) (s : ByteArray) (v : Value) (acc : List UInt8) (wr : World) : Prop where
  own : OwnB w.heap.size v acc wr
  below : Below w.heap.size w wr
theorem QR.grown {w : World} {s : ByteArray} {v v' : Value} {acc news : List UInt8} {wr w' : World} (h : QR w s v acc wr) (o : Obj) (hown : OwnB w.heap.size v' (acc ++ news) w') (hg : (wr.alloc o).grownBy w' v.ownBlock) : QR w s v' (acc ++ news) w' :=
  ⟨hown, Below.grown (h.below.alloc h.below.size o) hg (by have := h.below.size; simp; omega) (fun k hk => (h.own.own.lt k hk).1)⟩
theorem cells1 (w : World) (c : Int) (x : UInt8) (hc : c = x.toNat) : ∀ (j : Nat) (u : Value), (Lib.byteCells [x])[j]? = some u → (w.alloc (.cells #[.int .u8 c] 5)).cell? ((⟨w.heap.size, 0, none⟩ : Addr).add j) = some u := by
  intro j u hj
  have h : (w.alloc (.cells #[.int .u8 c] 5)).heap[w.heap.size]? = some (.cells #[.int .u8 c] 5 (0, 0)) := heap_alloc_new _ _
  match j, hj with
  | 0, hj =>
    simp only [Lib.byteCells, List.map_cons, List.map_nil, List.getElem?_cons_zero, Option.some.injEq] at hj
    subst hj hc
    simp only [Addr.add, World.cell?, if_true, h]; rfl
  | j + 1, hj => simp [Lib.byteCells] at hj
theorem sign_at (m : Int) (n : Nat) (hm : m = n) (h : n < 16) (w : World) : Calls Tryz.prog 24 #[.int .i64 m] w fun e w' => e = .returned (.int .u8 (dig n).toNat) ∧ w = w' := by
  subst hm; exact sign_any n h w
theorem addr_add0 (b o n : Nat) : (⟨b, o, none⟩ : Addr).add n = ⟨b, o + n, none⟩ := by
  unfold Addr.add; split
  · rename_i h; subst h; rfl
  · rfl
theorem new_cell (w : World) (cs : Array Value) (e : TypeId) (j : Nat) : (w.alloc (.cells cs e)).cell? ((⟨w.heap.size, 0, none⟩ : Addr).add j) = cs[j]? := by
  have h : (w.alloc (.cells cs e)).heap[w.heap.size]? = some (.cells cs e (0, 0)) := heap_alloc_new _ _
  rw [addr_add0]
  simp only [World.cell?, h]
  simp
theorem cells4 (w : World) (x y : UInt8) : ∀ (j : Nat) (u : Value), (Lib.byteCells [92, 120, x, y])[j]? = some u → (w.alloc (.cells #[.int .u8 92, .int .u8 120, .int .u8 (x.toNat : Int), .int .u8 (y.toNat : Int)] 5)).cell? ((⟨w.heap.size, 0, none⟩ : Addr).add j) = some u := by
  intro j u hj
  rw [new_cell]
  match j, hj with
  | 0, hj => simpa [Lib.byteCells] using hj
  | 1, hj => simpa [Lib.byteCells] using hj
  | 2, hj => simpa [Lib.byteCells] using hj
  | 3, hj => simpa [Lib.byteCells] using hj
  | j + 4, hj => simp [Lib.byteCells] at hj
theorem conv_own {base : Nat} {v : Value} {acc : List UInt8} {w : World} (h : OwnB base v acc w) (hne : acc ≠ []) : (convert 46 9 v).run Tryz.prog w = .ok (.string ⟨acc.toArray⟩) w := by
  have hc := h.own
  rcases hc.2 with ⟨rfl, h0⟩ | ⟨g, cap, cur, rfl, _⟩
  · exact absurd (List.eq_nil_of_length_eq_zero h0) hne
  · refine run_convert_bytes_back (P := Tryz.prog) w 46 9 5 ⟨g, 0, none⟩ cap acc Tryz.underlying46 Tryz.underlying5 Tryz.underlying9 fun j hj => ?_
    exact World.ownsRow.cells hc (g := g) rfl j _ (by simp [Lib.byteCells, hj])
set_option maxRecDepth 100000 in
set_option maxHeartbeats 2000000 in
theorem refQuoted_any (s : ByteArray) (w : World) (hs : s.size ≤ 1000000000) :
    Calls Tryz.prog 14 #[.string s] w fun e w' => e = .returned (.string (quotedB s)) ∧ Below w.heap.size w w' := by
  go_enter Tryz.func14, Tryz.ntmps14
  go_wp2_with fail
  have hq0 : QR w s (.slice (some ⟨w.heap.size, 0, none⟩) 1 1) [34] (w.alloc (.cells #[.int .u8 34] 5)) :=
    ⟨⟨⟨rfl, .inr ⟨w.heap.size, 1, _, rfl, Nat.le_refl _, heap_alloc_new _ _, Nat.le_refl _, by unfold maxLen; omega, rfl, rfl⟩⟩⟩, (Below.refl _ _).alloc (Nat.le_refl _) _⟩
  have HQ0 := Lib.hid hq0
  clear hq0
  go_loopw [3, 4] (fun v i wr => ∃ k : Nat, k ≤ s.size ∧ i = .int .i64 k ∧ QR w s v (34 :: (s.data.toList.take k).flatMap esc) wr) (fun _ i _ => s.size - (intOf i).toNat)
  case atStart => exact ⟨0, Nat.zero_le _, rfl, HQ0.out⟩
  case round =>
    obtain ⟨k, hk, rfl, hq⟩ := hrel
    have HQ := Lib.hid hq
    clear hq
    have hfl : (34 :: (s.data.toList.take k).flatMap esc).length ≤ 50000000000 := by
      have h1 := flat_len (s.data.toList.take k)
      have h2 : (s.data.toList.take k).length ≤ k := List.length_take_le _ _
      simp only [List.length_cons]
      omega
    by_cases hlt : k < s.size
    · obtain ⟨x, hx⟩ : ∃ x, x = s.data.toList.getD k 0 := ⟨_, rfl⟩
      have hxx : s[k] = x := by
        rw [hx, List.getD_eq_getElem?_getD, List.getElem?_eq_getElem (by simpa using hlt)]; rfl
      have HX := Lib.hid hx.symm
      clear hx
      obtain ⟨acc, hacc⟩ : ∃ acc, acc = 34 :: (s.data.toList.take k).flatMap esc := ⟨_, rfl⟩
      rw [← hacc] at HQ hfl
      have HA := Lib.hid hacc
      clear hacc
      have hd1 : 0 ≤ (x.toNat : Int) / 16 ∧ (x.toNat : Int) / 16 < 16 := by have := x.toNat_lt; omega
      have hd2 : 0 ≤ (x.toNat : Int) % 16 ∧ (x.toNat : Int) % 16 < 16 := by omega
      have fin : ∀ (E : List UInt8) (v : Value) (w' : World), esc x = E → QR w s v (acc ++ E) w' → QR w s v (34 :: (s.data.toList.take (k + 1)).flatMap esc) w' := fun E v w' h1 h2 => by
        rw [step_acc _ k (by simpa using hlt) x HX.out _ h1, ← HA.out]; exact h2
      have FIN := Lib.hid fin
      clear fin
      have hbw : w.heap.size ≤ wr.heap.size := HQ.out.below.size
      by_cases h34 : x.toNat = 34
      · have HE := Lib.hid (esc_a x (.inl (by omega)))
        have t1 : ((x.toNat : Int) == 34) = true := by simp; omega
        have t2 : (x.toNat : Int) = 34 := by omega
        have t3 : 32 ≤ (x.toNat : Int) := by omega
        have t4 : (x.toNat : Int) ≤ 126 := by omega
        clear h34
        go_wp2_with (at_builtin; refine app_bytes rfl _ _ rfl w.heap.size _ acc rfl (HQ.out.own.alloc _) ⟨wr.heap.size, 0, none⟩ 1 1 [92] rfl rfl (cells1 _ _ _ rfl) ?c4 ?c5 ?_)
        case c4 => (try simp only [List.length_append, List.length_cons, List.length_nil]); omega
        case c5 => simp; omega
        intro v2 w2 hown2 hg2
        have HQ2 := Lib.hid (HQ.out.grown _ hown2 hg2)
        clear hown2 hg2
        have hbw2 : w.heap.size ≤ w2.heap.size := HQ2.out.below.size
        obtain ⟨acc2, ha2⟩ : ∃ acc2, acc2 = acc ++ [92] := ⟨_, rfl⟩
        rw [← ha2] at HQ2
        have hl2 : acc2.length ≤ 60000000000 := by rw [ha2]; simp; omega
        have HA2 := Lib.hid ha2
        clear ha2
        go_wp2_with (at_builtin; refine app_bytes rfl _ _ rfl w.heap.size _ acc2 rfl (HQ2.out.own.alloc _) ⟨w2.heap.size, 0, none⟩ 1 1 [x] rfl rfl (cells1 _ _ _ (by first | rfl | omega)) ?c4 ?c5 ?_)
        case c4 => (try simp only [List.length_append, List.length_cons, List.length_nil]); omega
        case c5 => simp; omega
        intro v3 w3 hown3 hg3
        have HQ3 := Lib.hid (HQ2.out.grown _ hown3 hg3)
        clear hown3 hg3
        have hbw3 : w.heap.size ≤ w3.heap.size := HQ3.out.below.size
        go_wp2_with fail
        go_roundw
        case rel => exact ⟨k + 1, by omega, by go_num, FIN.out _ _ _ HE.out (by have h := HQ3.out; rw [HA2.out] at h; simpa using h)⟩
        case measure => simp [intOf]; omega
      by_cases h92 : x.toNat = 92
      · have HE := Lib.hid (esc_a x (.inr (by omega)))
        have t1 : ((x.toNat : Int) == 34) = false := by simp; omega
        have t0 : ((x.toNat : Int) == 92) = true := by simp; omega
        have t3 : 32 ≤ (x.toNat : Int) := by omega
        have t4 : (x.toNat : Int) ≤ 126 := by omega
        have HH := Lib.hid h92
        clear h34 h92
        go_wp2_with (at_builtin; refine app_bytes rfl _ _ rfl w.heap.size _ acc rfl (HQ.out.own.alloc _) ⟨wr.heap.size, 0, none⟩ 1 1 [92] rfl rfl (cells1 _ _ _ rfl) ?c4 ?c5 ?_)
        case c4 => (try simp only [List.length_append, List.length_cons, List.length_nil]); omega
        case c5 => simp; omega
        intro v2 w2 hown2 hg2
        have HQ2 := Lib.hid (HQ.out.grown _ hown2 hg2)
        clear hown2 hg2
        have hbw2 : w.heap.size ≤ w2.heap.size := HQ2.out.below.size
        obtain ⟨acc2, ha2⟩ : ∃ acc2, acc2 = acc ++ [92] := ⟨_, rfl⟩
        rw [← ha2] at HQ2
        have hl2 : acc2.length ≤ 60000000000 := by rw [ha2]; simp; omega
        have HA2 := Lib.hid ha2
        clear ha2
        go_wp2_with (at_builtin; refine app_bytes rfl _ _ rfl w.heap.size _ acc2 rfl (HQ2.out.own.alloc _) ⟨w2.heap.size, 0, none⟩ 1 1 [x] rfl rfl (cells1 _ _ _ (by first | rfl | (have := HH.out; omega))) ?c4 ?c5 ?_)
        case c4 => (try simp only [List.length_append, List.length_cons, List.length_nil]); omega
        case c5 => simp; omega
        intro v3 w3 hown3 hg3
        have HQ3 := Lib.hid (HQ2.out.grown _ hown3 hg3)
        clear hown3 hg3
        have hbw3 : w.heap.size ≤ w3.heap.size := HQ3.out.below.size
        go_wp2_with fail
        go_roundw
        case rel => exact ⟨k + 1, by omega, by go_num, FIN.out _ _ _ HE.out (by have h := HQ3.out; rw [HA2.out] at h; simpa using h)⟩
        case measure => simp [intOf]; omega
      have t1 : ((x.toNat : Int) == 34) = false := by simp; omega
      have t0 : ((x.toNat : Int) == 92) = false := by simp; omega
      clear h34 h92
      by_cases hlo : 32 ≤ (x.toNat : Int)
      · by_cases hhi : (x.toNat : Int) ≤ 126
        · have HE := Lib.hid (esc_b x t1 t0 hlo hhi)
          go_wp2_with (at_builtin; refine app_bytes rfl _ _ rfl w.heap.size _ acc rfl (HQ.out.own.alloc _) ⟨wr.heap.size, 0, none⟩ 1 1 [x] rfl rfl (cells1 _ _ _ rfl) ?c4 ?c5 ?_)
          case c4 => (try simp only [List.length_append, List.length_cons, List.length_nil]); omega
          case c5 => simp; omega
          intro v3 w3 hown3 hg3
          have HQ3 := Lib.hid (HQ.out.grown _ hown3 hg3)
          clear hown3 hg3
          have hbw3 : w.heap.size ≤ w3.heap.size := HQ3.out.below.size
          go_wp2_with fail
          go_roundw
          case rel => exact ⟨k + 1, by omega, by go_num, FIN.out _ _ _ HE.out (by simpa using HQ3.out)⟩
          case measure => simp [intOf]; omega
        · have hhi' : 126 < (x.toNat : Int) := by omega
          clear hhi
          have HE := Lib.hid (esc_c x t1 t0 (.inr hhi'))
          go_wp2_with fail
          refine (sign_at _ (x.toNat / 16) (by omega) (by omega) _).mono ?_
          rintro e w1 ⟨rfl, rfl⟩
          go_wp2_with fail
          refine (sign_at _ (x.toNat % 16) (by omega) (by omega) _).mono ?_
          rintro e w1 ⟨rfl, rfl⟩
          go_wp2_with (at_builtin; refine app_bytes rfl _ _ rfl w.heap.size _ acc rfl (HQ.out.own.alloc _) ⟨wr.heap.size, 0, none⟩ 4 4 [92, 120, dig (x.toNat / 16), dig (x.toNat % 16)] rfl rfl (cells4 _ _ _) ?c4 ?c5 ?_)
          case c4 => omega
          case c5 => simp; omega
          intro v3 w3 hown3 hg3
          have HQ3 := Lib.hid (HQ.out.grown _ hown3 hg3)
          clear hown3 hg3
          go_wp2_with fail
          go_roundw
          case rel => exact ⟨k + 1, by omega, by go_num, FIN.out _ _ _ HE.out (by simpa using HQ3.out)⟩
          case measure => simp [intOf]; omega
      · have hlo' : (x.toNat : Int) < 32 := by omega
        clear hlo
        have HE := Lib.hid (esc_c x t1 t0 (.inl hlo'))
        go_wp2_with fail
        refine (sign_at _ (x.toNat / 16) (by omega) (by omega) _).mono ?_
        rintro e w1 ⟨rfl, rfl⟩
        go_wp2_with fail
        refine (sign_at _ (x.toNat % 16) (by omega) (by omega) _).mono ?_
        rintro e w1 ⟨rfl, rfl⟩
        go_wp2_with (at_builtin; refine app_bytes rfl _ _ rfl w.heap.size _ acc rfl (HQ.out.own.alloc _) ⟨wr.heap.size, 0, none⟩ 4 4 [92, 120, dig (x.toNat / 16), dig (x.toNat % 16)] rfl rfl (cells4 _ _ _) ?c4 ?c5 ?_)
        case c4 => omega
        case c5 => simp; omega
        intro v3 w3 hown3 hg3
        have HQ3 := Lib.hid (HQ.out.grown _ hown3 hg3)
        clear hown3 hg3
        go_wp2_with fail
        go_roundw
        case rel => exact ⟨k + 1, by omega, by go_num, FIN.out _ _ _ HE.out (by simpa using HQ3.out)⟩
        case measure => simp [intOf]; omega
    · have hke : k = s.size := by omega
      have HK := Lib.hid hke
      clear hke
      have hbw : w.heap.size ≤ wr.heap.size := HQ.out.below.size
      obtain ⟨acc, hacc⟩ : ∃ acc, acc = 34 :: (s.data.toList.take k).flatMap esc := ⟨_, rfl⟩
      rw [← hacc] at HQ hfl
      have HA := Lib.hid hacc
      clear hacc
      go_wp2_with (at_builtin; refine app_bytes rfl _ _ rfl w.heap.size _ acc rfl (HQ.out.own.alloc _) ⟨wr.heap.size, 0, none⟩ 1 1 [34] rfl rfl (cells1 _ _ _ rfl) ?c4 ?c5 ?_)
      case c4 => omega
      case c5 => simp; omega
      intro v3 w3 hown3 hg3
      have HQ3 := Lib.hid (HQ.out.grown _ hown3 hg3)
      clear hown3 hg3
      go_wp2_with fail
      rw [conv_own HQ3.out.own (by simp)]
      simp only [Result.andThen]
      rw [Oper.upon_value]
      go_wp2_with fail
      go_ret
      refine ⟨?_, HQ3.out.below⟩
      have he : quotedB s = ⟨(acc ++ [34]).toArray⟩ := by
        unfold quotedB quotedL
        rw [HA.out, HK.out, List.take_of_length_le (by simp)]; simp
      rw [he]
      rfl
end Go.Proofs.YtoaeejeimcahhaaGreatDoor
end
