/- The machine for closed calls, third part: every order of evaluation that the model allows comes out alike. -/
import Derived.Test.YtoaeejeimcahhaaGreatDoorAmb
section
set_option linter.unusedVariables false
set_option linter.unusedSimpArgs false
namespace Go.AM
open Go.RowKit
theorem tb_eq (m i : Nat) : tb m i = m.testBit i := by
  unfold tb
  rw [natbeq]
  show decide (((m >>> i) &&& 1) = 1) = m.testBit i
  rw [Nat.testBit, Nat.and_comm]
  rcases Nat.mod_two_eq_zero_or_one (m >>> i) with h | h <;> simp [Nat.one_and_eq_mod_two, h]
noncomputable def ancS (n M : Nat) (es : List Edge) (s : Nat) : Nat :=
  @List.rec Edge (fun _ => Nat → Nat) (fun s => s) (fun e _ ih s => ih (@Bool.rec (fun _ => Nat) s (Nat.lor s (Nat.lor (Nat.shiftLeft 1 e.on) (Nat.land (Nat.shiftRight M (Nat.mul n e.on)) (Nat.sub (Nat.shiftLeft 1 n) 1)))) (bindsA e))) es s
theorem ancS_bit (n M : Nat) : ∀ (es : List Edge) (s j : Nat), (ancS n M es s).testBit j = true ↔ s.testBit j = true ∨ ∃ e ∈ es, bindsA e = true ∧ (j = e.on ∨ (j < n ∧ M.testBit (n * e.on + j) = true))
  | [], s, j => by show s.testBit j = true ↔ _; simp
  | e :: es, s, j => by
    have h : ancS n M (e :: es) s = ancS n M es (@Bool.rec (fun _ => Nat) s (s ||| ((1 <<< e.on) ||| ((M >>> (n * e.on)) &&& ((1 <<< n) - 1)))) (bindsA e)) := rfl
    rw [h, ancS_bit n M es]
    cases hb : bindsA e with
    | false => simp [hb]
    | true =>
      have e1 : (1 <<< n) - 1 = 2 ^ n - 1 := by rw [Nat.one_shiftLeft]
      have hbit : (s ||| ((1 <<< e.on) ||| ((M >>> (n * e.on)) &&& ((1 <<< n) - 1)))).testBit j = true ↔ s.testBit j = true ∨ (j = e.on ∨ (j < n ∧ M.testBit (n * e.on + j) = true)) := by
        rw [e1, Nat.testBit_or, Nat.testBit_or, Nat.testBit_and, Nat.testBit_shiftRight, Nat.testBit_two_pow_sub_one, Nat.one_shiftLeft, Nat.testBit_two_pow]
        simp only [Bool.or_eq_true, Bool.and_eq_true, decide_eq_true_eq]
        constructor
        · rintro (h | h | ⟨h, k⟩)
          · exact .inl h
          · exact .inr (.inl h.symm)
          · exact .inr (.inr ⟨k, h⟩)
        · rintro (h | h | ⟨h, k⟩)
          · exact .inl h
          · exact .inr (.inl h.symm)
          · exact .inr (.inr ⟨k, h⟩)
      constructor
      · rintro (h1 | ⟨e', h1, h2⟩)
        · rcases hbit.1 h1 with h1 | h1
          · exact .inl h1
          · exact .inr ⟨e, by simp, hb, h1⟩
        · exact .inr ⟨e', by simp [h1], h2⟩
      · rintro (h1 | ⟨e', h1, h2, h3⟩)
        · exact .inl (hbit.2 (.inl h1))
        · rcases List.mem_cons.1 h1 with rfl | h1
          · exact .inl (hbit.2 (.inr h3))
          · exact .inr ⟨e', h1, h2, h3⟩
theorem ancOf_bit (n M : Nat) (es : List Edge) (j : Nat) : tb (ancOf n M es) j = true ↔ ∃ e ∈ es, bindsA e = true ∧ (j = e.on ∨ (j < n ∧ M.testBit (n * e.on + j) = true)) := by
  have h : ancOf n M es = ancS n M es 0 := rfl
  rw [tb_eq, h, ancS_bit]
  simp
end Go.AM
end
section
set_option linter.unusedVariables false
set_option linter.unusedSimpArgs false
namespace Go.AM
open Go.RowKit
/-! ### a region's items -/
theorem itemsOf_cons (P : Program) (n : Nat) (o : Oper) (ops : List Oper) (i M : Nat) :
    itemsOf P n (o :: ops) i M = ⟨o, i, ancOf n M o.after.toList, kindOf P o.op⟩ :: itemsOf P n ops (i + 1) (M ||| (ancOf n M o.after.toList <<< (n * i))) := rfl
theorem itemsOf_get (P : Program) (n : Nat) : ∀ (ops : List Oper) (i M k : Nat) (o : Oper), ops[k]? = some o → ∃ x, (itemsOf P n ops i M)[k]? = some x ∧ x.o = o ∧ x.i = i + k ∧ x.kind = kindOf P o.op
  | [], i, M, k, o, h => by simp at h
  | o' :: ops, i, M, 0, o, h => by
    simp at h; subst h
    exact ⟨_, by rw [itemsOf_cons]; rfl, rfl, rfl, rfl⟩
  | o' :: ops, i, M, k + 1, o, h => by
    obtain ⟨x, h1, h2, h3, h4⟩ := itemsOf_get P n ops (i + 1) (M ||| (ancOf n M o'.after.toList <<< (n * i))) k o (by simpa using h)
    exact ⟨x, by rw [itemsOf_cons]; simpa using h1, h2, by omega, h4⟩
theorem itemsOf_len (P : Program) (n : Nat) : ∀ (ops : List Oper) (i M : Nat), (itemsOf P n ops i M).length = ops.length
  | [], i, M => rfl
  | o :: ops, i, M => by rw [itemsOf_cons]; simp [itemsOf_len P n ops]
/-- what waits for what -/
structure AncOk (L : List Item) (x : Item) : Prop where
  a1 : ∀ e ∈ x.o.after.toList, bindsA e = true → tb x.anc e.on = true
  a2 : ∀ j, tb x.anc j = true → ∃ e ∈ x.o.after.toList, bindsA e = true ∧ (j = e.on ∨ ∃ y, L[e.on]? = some y ∧ tb y.anc j = true)
  a3 : ∀ j, tb x.anc j = true → j < x.i
theorem itemsOf_anc (P : Program) (n : Nat) : ∀ (ops : List Oper) (i M : Nat) (pre : List Item), pre.length = i → i + ops.length ≤ n →
    (∀ e j, j < n → M.testBit (n * e + j) = true → ∃ y, pre[e]? = some y ∧ tb y.anc j = true) →
    (∀ (e : Nat) (y : Item) (j : Nat), pre[e]? = some y → tb y.anc j = true → j < e) →
    (∀ x ∈ itemsOf P n ops i M, ∀ e ∈ x.o.after.toList, bindsA e = true → e.on < x.i) →
    ∀ x ∈ itemsOf P n ops i M, AncOk (pre ++ itemsOf P n ops i M) x
  | [], i, M, pre, _, _, _, _, _, x, hx => by simp [itemsOf] at hx
  | o :: ops, i, M, pre, hpre, hn, hM, hb, hback, x, hx => by
    rw [itemsOf_cons] at hx hback ⊢
    have hlen : i + 1 + ops.length ≤ n := by simp at hn; omega
    have hbit := fun j => ancOf_bit n M o.after.toList j
    have hlow : ∀ j, tb (ancOf n M o.after.toList) j = true → j < i := fun j hj => by
      obtain ⟨e, he, hbe, h⟩ := (hbit j).1 hj
      have h1 : e.on < i := hback ⟨o, i, ancOf n M o.after.toList, kindOf P o.op⟩ (List.mem_cons_self ..) e he hbe
      rcases h with rfl | ⟨hjn, hm⟩
      · exact h1
      · obtain ⟨y, hy, hyj⟩ := hM _ _ hjn hm
        have := hb _ _ _ hy hyj
        omega
    have hself : AncOk (pre ++ ⟨o, i, ancOf n M o.after.toList, kindOf P o.op⟩ :: itemsOf P n ops (i + 1) (M ||| (ancOf n M o.after.toList <<< (n * i)))) ⟨o, i, ancOf n M o.after.toList, kindOf P o.op⟩ := by
      refine ⟨fun e he hbe => (hbit _).2 ⟨e, he, hbe, .inl rfl⟩, fun j hj => ?_, hlow⟩
      obtain ⟨e, he, hbe, h⟩ := (hbit j).1 hj
      refine ⟨e, he, hbe, h.imp id fun ⟨hjn, hm⟩ => ?_⟩
      obtain ⟨y, hy, hyj⟩ := hM _ _ hjn hm
      have hlt : e.on < pre.length := (List.getElem?_eq_some_iff.1 hy).1
      exact ⟨y, by rw [List.getElem?_append_left hlt]; exact hy, hyj⟩
    rcases List.mem_cons.1 hx with rfl | hx
    · exact hself
    · have e1 : pre ++ ⟨o, i, ancOf n M o.after.toList, kindOf P o.op⟩ :: itemsOf P n ops (i + 1) (M ||| (ancOf n M o.after.toList <<< (n * i))) = (pre ++ [⟨o, i, ancOf n M o.after.toList, kindOf P o.op⟩]) ++ itemsOf P n ops (i + 1) (M ||| (ancOf n M o.after.toList <<< (n * i))) := by simp
      rw [e1]
      refine itemsOf_anc P n ops (i + 1) _ _ (by simp [hpre]) (by omega) (fun e j hjn hm => ?_) (fun e y j hy hyj => ?_) (fun x hx => hback x (by simp [hx])) x hx
      · rw [Nat.testBit_or, Bool.or_eq_true] at hm
        rcases hm with hm | hm
        · obtain ⟨y, hy, hyj⟩ := hM _ _ hjn hm
          have hlt : e < pre.length := (List.getElem?_eq_some_iff.1 hy).1
          exact ⟨y, by rw [List.getElem?_append_left hlt]; exact hy, hyj⟩
        · rw [Nat.testBit_shiftLeft, Bool.and_eq_true, decide_eq_true_eq] at hm
          obtain ⟨h1, h2⟩ := hm
          have h3 := hlow (n * e + j - n * i) (by rw [tb_eq]; exact h2)
          have hin : i < n := by simp at hn; omega
          have he : e = i := by
            rcases Nat.lt_trichotomy e i with h | h | h
            · have : n * (e + 1) ≤ n * i := Nat.mul_le_mul_left n h
              rw [Nat.mul_add] at this; omega
            · exact h
            · have : n * (i + 1) ≤ n * e := Nat.mul_le_mul_left n h
              rw [Nat.mul_add] at this; omega
          subst he
          have h4 : n * e + j - n * e = j := by omega
          rw [h4] at h2
          exact ⟨⟨o, e, ancOf n M o.after.toList, kindOf P o.op⟩, by rw [List.getElem?_append_right (by omega)]; simp [hpre], by rw [tb_eq]; exact h2⟩
      · rcases Nat.lt_trichotomy e pre.length with h | h | h
        · rw [List.getElem?_append_left h] at hy; exact hb _ _ _ hy hyj
        · subst h; simp at hy; subst hy; rw [hpre]; exact hlow _ hyj
        · rw [List.getElem?_eq_none (by simp; omega)] at hy; cases hy
/-! ### who writes -/
theorem writers_cons (x : Item) (l : List Item) (W : Tr Item) : writers (x :: l) W = match x.o.dst with
      | none => writers l W
      | some d => match W.get d with | none => writers l (W.set d x) | some _ => none := rfl
theorem writers_spec : ∀ (l : List Item) (W W' : Tr Item), writers l W = some W' →
    (∀ d y, W.get d = some y → W'.get d = some y) ∧ (∀ x ∈ l, ∀ d, x.o.dst = some d → W'.get d = some x)
  | [], W, W', h => by
    cases h
    exact ⟨fun d y h => h, fun x hx => by simp at hx⟩
  | x :: l, W, W', h => by
    rw [writers_cons] at h
    cases hd : x.o.dst with
    | none =>
      rw [hd] at h
      obtain ⟨h1, h2⟩ := writers_spec l W W' h
      refine ⟨h1, fun y hy d hyd => ?_⟩
      rcases List.mem_cons.1 hy with rfl | hy
      · rw [hd] at hyd; cases hyd
      · exact h2 y hy d hyd
    | some d =>
      rw [hd] at h
      simp only at h
      cases hW : W.get d with
      | some z => rw [hW] at h; cases h
      | none =>
        rw [hW] at h
        obtain ⟨h1, h2⟩ := writers_spec l _ W' h
        refine ⟨fun d' y hy => h1 d' y ?_, fun y hy d' hyd => ?_⟩
        · rw [Tr.get_set, if_neg (fun e => by subst e; rw [hW] at hy; cases hy)]; exact hy
        · rcases List.mem_cons.1 hy with rfl | hy
          · rw [hd] at hyd; cases hyd
            exact h1 d y (by rw [Tr.get_set, if_pos rfl])
          · exact h2 y hy d' hyd
/-! ### a region as it is looked over -/
structure Ctx (P : Program) (ops : Array Oper) (L : List Item) : Prop where
  len : L.length = ops.size
  at_ : ∀ i o, ops[i]? = some o → ∃ x : Item, L[i]? = some x ∧ x.o = o ∧ x.i = i
  kind : ∀ x ∈ L, x.kind = kindOf P x.o.op
  ix : ∀ x ∈ L, L[x.i]? = some x ∧ ops[x.i]? = some x.o
  anc : ∀ x ∈ L, AncOk L x
  uq : ∀ x ∈ L, ∀ y ∈ L, ∀ d, x.o.dst = some d → y.o.dst = some d → x = y
  slot : ∀ x ∈ L, ∀ t, Operand.tmp t ∈ x.o.op.operands.toList → ∀ y ∈ L, y.o.dst = some t → tb x.anc y.i = true ∨ (isReads x.kind = false ∧ (x.i = y.i ∨ tb y.anc x.i = true))
  guard : ∀ x ∈ L, ∀ j w, x.o.guard = some (j, w) → ∀ q d, ops[j]? = some q → q.dst = some d → tb x.anc j = true
theorem Ctx.same {P : Program} {ops : Array Oper} {L : List Item} (C : Ctx P ops L) {x y : Item} (hx : x ∈ L) (hy : y ∈ L) (h : x.i = y.i) : x = y := by
  have h1 := (C.ix x hx).1
  have h2 := (C.ix y hy).1
  rw [h] at h1
  exact Option.some.inj (h1.symm.trans h2)
theorem ctx_of {P : Program} {ops : Array Oper} {W : Tr Item} (hw : writers (itemsOf P (lenL ops.toList) ops.toList 0 0) .nil = some W)
    (hok : allL (itemOk ops.toList W) (itemsOf P (lenL ops.toList) ops.toList 0 0) = true) : Ctx P ops (itemsOf P (lenL ops.toList) ops.toList 0 0) := by
  have hn : lenL ops.toList = ops.size := by rw [lenL_eq]; simp
  rw [hn] at hw hok ⊢
  generalize hL : itemsOf P ops.size ops.toList 0 0 = L at *
  rw [allL_eq] at hok
  have hok' : ∀ x ∈ L, (allL (operOk W x) (slotsOf x.o) = true ∧ guardOk W ops.toList x = true) ∧ backOk x = true := fun x hx => by
    have := List.all_eq_true.1 hok x hx
    unfold itemOk at this
    simpa [Bool.and_eq_true] using this
  have hget : ∀ i o, ops[i]? = some o → ∃ x : Item, L[i]? = some x ∧ x.o = o ∧ x.i = i ∧ x.kind = kindOf P o.op := fun i o h => by
    obtain ⟨x, h1, h2, h3, h4⟩ := itemsOf_get P ops.size ops.toList 0 0 i o (by simpa using h)
    rw [hL] at h1
    exact ⟨x, h1, h2, by omega, h4⟩
  have hlen : L.length = ops.size := by rw [← hL, itemsOf_len]; simp
  have hmem : ∀ x ∈ L, L[x.i]? = some x ∧ ops[x.i]? = some x.o ∧ x.kind = kindOf P x.o.op := fun x hx => by
    obtain ⟨i, hi, he⟩ := List.mem_iff_getElem.1 hx
    have hi' : i < ops.size := by omega
    obtain ⟨y, h1, h2, h3, h4⟩ := hget i ops[i] (by simp [hi'])
    rw [List.getElem?_eq_getElem hi, he] at h1
    obtain rfl := Option.some.inj h1
    rw [h3]
    exact ⟨by rw [List.getElem?_eq_getElem hi, he], by rw [h2]; simp [hi'], by rw [h2]; exact h4⟩
  have hback : ∀ x ∈ L, ∀ e ∈ x.o.after.toList, bindsA e = true → e.on < x.i := fun x hx e he hb => by
    have h := (hok' x hx).2
    unfold backOk at h
    rw [allL_eq] at h
    have := List.all_eq_true.1 h e he
    rw [hb, bc_true] at this
    exact natble_true this
  obtain ⟨_, hw2⟩ := writers_spec L .nil W hw
  refine ⟨hlen, fun i o h => ?_, fun x hx => (hmem x hx).2.2, fun x hx => ⟨(hmem x hx).1, (hmem x hx).2.1⟩, fun x hx => ?_, fun x hx y hy d h1 h2 => ?_, fun x hx t ht y hy hyt => ?_, fun x hx j w hg q d hj hd => ?_⟩
  · obtain ⟨x, h1, h2, h3, _⟩ := hget i o h; exact ⟨x, h1, h2, h3⟩
  · have := itemsOf_anc P ops.size ops.toList 0 0 [] rfl (by simp) (fun e j _ h => by simp at h) (fun e y j h => by simp at h) (by rw [hL]; exact hback) x (by rw [hL]; exact hx)
    rw [hL] at this
    simpa using this
  · have e1 := hw2 x hx d h1
    have e2 := hw2 y hy d h2
    exact Option.some.inj (e1.symm.trans e2)
  · have h := (hok' x hx).1.1
    rw [allL_eq] at h
    have h1 := List.all_eq_true.1 h (.tmp t) ht
    have h2 : slotOk W x t = true := h1
    unfold slotOk at h2
    rw [hw2 y hy t hyt] at h2
    simp only [bc_eq] at h2
    by_cases ha : tb x.anc y.i = true
    · exact .inl ha
    · rw [if_neg ha] at h2
      by_cases hr : isReads x.kind = true
      · rw [if_pos hr] at h2; cases h2
      · rw [if_neg hr] at h2
        refine .inr ⟨by simpa using hr, ?_⟩
        by_cases hi : Nat.beq x.i y.i = true
        · exact .inl (natbeq_true hi)
        · rw [if_neg hi] at h2; exact .inr h2
  · have h := (hok' x hx).1.2
    unfold guardOk at h
    rw [hg] at h
    simp only [getL_eq, Array.getElem?_toList, hj, hd] at h
    exact h
end Go.AM
end
section
set_option linter.unusedVariables false
set_option linter.unusedSimpArgs false
namespace Go.AM
open Go.RowKit
/-! ### a plan's form -/
theorem filtL_eq (f : Item → Bool) : ∀ l, filtL f l = l.filter f
  | [] => rfl
  | x :: l => by
    show bc (f x) (x :: filtL f l) (filtL f l) = _
    rw [filtL_eq f l, List.filter_cons, bc_eq]
theorem pickA_mem (d : Nat) : ∀ (l : List Item) (x : Item), pickA d l = some x → x ∈ l
  | [], x, h => by cases h
  | y :: l, x, h => by
    have h' : bc (bc (isActs y.kind) (readyM y.anc d) false) (some y) (pickA d l) = some x := h
    rw [bc_eq] at h'
    split at h'
    · cases h'; simp
    · exact List.mem_cons_of_mem _ (pickA_mem d l x h')
theorem orderF_mem : ∀ (n d : Nat) (l : List Item) (x : Item), x ∈ orderF n d l → x ∈ l
  | 0, d, l, x, h => by cases h
  | n + 1, d, l, x, h => by
    have h' : x ∈ catL (filtL (fun y => tb (passM l d) y.i) l) (actStep (passM l d) (filtL (fun y => !tb (passM l d) y.i) l) (orderF n)) := h
    rw [catL_eq, filtL_eq, filtL_eq, List.mem_append] at h'
    rcases h' with h' | h'
    · exact (List.mem_filter.1 h').1
    · unfold actStep at h'
      split at h'
      · rename_i y hy
        rcases List.mem_cons.1 h' with rfl | h'
        · exact (List.mem_filter.1 (pickA_mem _ _ _ hy)).1
        · have h2 := orderF_mem n _ _ x h'
          rw [filtL_eq] at h2
          exact (List.mem_filter.1 (List.mem_filter.1 h2).1).1
      · cases h'
theorem readyM_sub {a d : Nat} (h : readyM a d = true) (j : Nat) (hj : tb a j = true) : tb d j = true := by
  unfold readyM at h
  have h1 : a &&& d = a := natbeq_true h
  rw [tb_eq] at hj ⊢
  rw [← h1, Nat.testBit_and, Bool.and_eq_true] at hj
  exact hj.2
theorem tb_or (d i j : Nat) : tb (Nat.lor d (bit i)) j = true ↔ tb d j = true ∨ j = i := by
  show tb (d ||| (1 <<< i)) j = true ↔ _
  rw [tb_eq, tb_eq, Nat.testBit_or, Nat.one_shiftLeft, Nat.testBit_two_pow, Bool.or_eq_true, decide_eq_true_eq]
  constructor
  · rintro (h | h)
    · exact .inl h
    · exact .inr h.symm
  · rintro (h | h)
    · exact .inl h
    · exact .inr h.symm
/-- stores behind all else -/
structure TailOk (L : List Item) (E : Nat → Prop) (last : Option Nat) (l : List Item) : Prop where
  mem : ∀ x ∈ l, x ∈ L ∧ isStore x = true ∧ lastOk last x = true ∧ (∀ j, tb x.anc j = true → E j) ∧ ¬ E x.i ∧ ∀ r ∈ L, (isReads r.kind || isMakes r.kind) = true → tb x.anc r.i = true
  nd : l.Pairwise (fun x y => x.i ≠ y.i)
  all : ∀ y ∈ L, E y.i ∨ ∃ x ∈ l, x.i = y.i
def MainOk (L : List Item) : (Nat → Prop) → Option Nat → List PItem → List Item → Prop
  | E, last, [], tail => TailOk L E last tail
  | E, last, p :: l, tail => (p.it ∈ L ∧ lastOk last p.it = true ∧ (∀ j, tb p.it.anc j = true → E j) ∧ ¬ E p.it.i ∧
      (isActs p.it.kind = true → ∀ r ∈ L, E r.i → tb p.it.anc r.i = false → (isReads r.kind = true → r ∈ p.again) ∧ (isMakes r.kind = true → r ∈ p.kept))) ∧
      MainOk L (fun j => E j ∨ j = p.it.i) (if isActs p.it.kind = true then some p.it.i else last) l tail
theorem TailOk.congr {L : List Item} {E E' : Nat → Prop} {last : Option Nat} {l : List Item} (h : TailOk L E last l) (he : ∀ j, E j ↔ E' j) : TailOk L E' last l :=
  ⟨fun x hx => by obtain ⟨a, b, c, d, e, f⟩ := h.mem x hx; exact ⟨a, b, c, fun j hj => (he j).1 (d j hj), fun k => e ((he _).2 k), f⟩, h.nd, fun y hy => (h.all y hy).imp (he _).1 id⟩
theorem MainOk.congr {L : List Item} : ∀ {m : List PItem} {E E' : Nat → Prop} {last : Option Nat} {l : List Item}, MainOk L E last m l → (∀ j, E j ↔ E' j) → MainOk L E' last m l
  | [], E, E', last, l, h, he => TailOk.congr h he
  | p :: m, E, E', last, l, ⟨⟨h1, h2, h3, h4, h5⟩, h6⟩, he =>
    ⟨⟨h1, h2, fun j hj => (he j).1 (h3 j hj), fun k => h4 ((he _).2 k), fun ha r hr hE => h5 ha r hr ((he _).2 hE)⟩, MainOk.congr h6 fun j => or_congr (he j) Iff.rfl⟩
theorem tailChk_cons (all : List Item) (done0 : Nat) (last : Option Nat) (x : Item) (l : List Item) (done : Nat) : tailChk all done0 last (x :: l) done =
    bc (isStore x && lastOk last x && readyM x.anc done0 && !tb done x.i && heldAll all x) (tailChk all done0 last l (Nat.lor done (bit x.i))) false := rfl
theorem tailChk_ok {L : List Item} (done0 : Nat) (last : Option Nat) : ∀ (l : List Item) (done : Nat), (∀ x ∈ l, x ∈ L) → tailChk L done0 last l done = true → (∀ j, tb done0 j = true → tb done j = true) →
    (∀ x ∈ l, x ∈ L ∧ isStore x = true ∧ lastOk last x = true ∧ (∀ j, tb x.anc j = true → tb done0 j = true) ∧ tb done x.i = false ∧ ∀ r ∈ L, (isReads r.kind || isMakes r.kind) = true → tb x.anc r.i = true) ∧
    l.Pairwise (fun x y => x.i ≠ y.i) ∧ (∀ y ∈ L, tb done y.i = true ∨ ∃ x ∈ l, x.i = y.i)
  | [], done, hm, h, h0 => by
    have h' : allL (fun y => tb done y.i) L = true := h
    rw [allL_eq] at h'
    exact ⟨fun x hx => by simp at hx, List.Pairwise.nil, fun y hy => .inl (List.all_eq_true.1 h' y hy)⟩
  | x :: l, done, hm, h, h0 => by
    rw [tailChk_cons, bc_eq] at h
    split at h
    · rename_i hc
      simp only [Bool.and_eq_true, Bool.not_eq_true'] at hc
      obtain ⟨⟨⟨⟨c1, c2⟩, c3⟩, c4⟩, c5⟩ := hc
      obtain ⟨i1, i2, i3⟩ := tailChk_ok done0 last l _ (fun y hy => hm y (by simp [hy])) h fun j hj => (tb_or _ _ _).2 (.inl (h0 j hj))
      have hne : ∀ y ∈ l, x.i ≠ y.i := fun y hy e => by
        obtain ⟨_, _, _, _, k, _⟩ := i1 y hy
        rw [← e] at k
        have := (tb_or done x.i x.i).2 (.inr rfl)
        rw [this] at k; cases k
      refine ⟨fun y hy => ?_, List.Pairwise.cons hne i2, fun y hy => ?_⟩
      · rcases List.mem_cons.1 hy with rfl | hy
        · refine ⟨hm _ (by simp), c1, c2, fun j hj => readyM_sub c3 j hj, c4, fun r hr hk => ?_⟩
          unfold heldAll at c5
          rw [allL_eq] at c5
          have := List.all_eq_true.1 c5 r hr
          rwa [hk, bc_true] at this
        · obtain ⟨k1, k2, k3, k4, k5, k6⟩ := i1 y hy
          refine ⟨k1, k2, k3, k4, ?_, k6⟩
          cases hd : tb done y.i with
          | false => rfl
          | true =>
            have := (tb_or done x.i y.i).2 (.inl hd)
            rw [this] at k5; cases k5
      · rcases i3 y hy with h | ⟨z, hz, e⟩
        · rcases (tb_or _ _ _).1 h with h | h
          · exact .inl h
          · exact .inr ⟨x, by simp, h.symm⟩
        · exact .inr ⟨z, by simp [hz], e⟩
    · cases h
theorem dress_cons (all : List Item) (x : Item) (l : List Item) (done : Nat) (last : Option Nat) : dress all (x :: l) done last =
    bc (isStore x && tailChk all done last (x :: l) done) (some ⟨[], x :: l⟩)
      (bc (lastOk last x && readyM x.anc done && !tb done x.i)
        (consP ⟨x, againOf isReads all done x, againOf isMakes all done x⟩ (dress all l (Nat.lor done (bit x.i)) (bc (isActs x.kind) (some x.i) last))) none) := rfl
theorem againOf_mem {f : OpKind → Bool} {L : List Item} {done : Nat} {x r : Item} (ha : isActs x.kind = true) (hr : r ∈ L) (h1 : f r.kind = true) (h2 : tb done r.i = true) (h3 : tb x.anc r.i = false) : r ∈ againOf f L done x := by
  unfold againOf
  rw [ha, bc_true, filtL_eq, List.mem_filter]
  exact ⟨hr, by rw [h1, h2, h3]; rfl⟩
theorem dress_ok {L : List Item} : ∀ (l : List Item) (done : Nat) (last : Option Nat) (p : Plan), (∀ x ∈ l, x ∈ L) → dress L l done last = some p → MainOk L (fun j => tb done j = true) last p.main p.tail
  | [], done, last, p, hm, h => by
    have h' : bc (allL (fun y => tb done y.i) L) (some (⟨[], []⟩ : Plan)) none = some p := h
    rw [bc_eq] at h'
    split at h'
    · rename_i hc
      cases h'
      rw [allL_eq] at hc
      exact ⟨fun x hx => by simp at hx, List.Pairwise.nil, fun y hy => .inl (List.all_eq_true.1 hc y hy)⟩
    · cases h'
  | x :: l, done, last, p, hm, h => by
    rw [dress_cons, bc_eq] at h
    split at h
    · rename_i hc
      cases h
      rw [Bool.and_eq_true] at hc
      obtain ⟨i1, i2, i3⟩ := tailChk_ok done last (x :: l) done hm hc.2 fun j hj => hj
      refine ⟨fun y hy => ?_, i2, i3⟩
      obtain ⟨k1, k2, k3, k4, k5, k6⟩ := i1 y hy
      exact ⟨k1, k2, k3, k4, by rw [k5]; simp, k6⟩
    · rw [bc_eq] at h
      split at h
      · rename_i hc
        simp only [Bool.and_eq_true, Bool.not_eq_true'] at hc
        obtain ⟨⟨c1, c2⟩, c3⟩ := hc
        cases hd : dress L l (Nat.lor done (bit x.i)) (bc (isActs x.kind) (some x.i) last) with
        | none => rw [hd] at h; cases h
        | some q =>
          rw [hd] at h
          cases h
          have ih := dress_ok l _ _ q (fun y hy => hm y (by simp [hy])) hd
          rw [bc_eq] at ih
          refine ⟨⟨hm x (by simp), c1, fun j hj => readyM_sub c2 j hj, (by show ¬ (tb done x.i = true); rw [c3]; simp), fun ha r hr hE hn => ⟨fun h1 => againOf_mem ha hr h1 hE hn, fun h1 => againOf_mem ha hr h1 hE hn⟩⟩, ih.congr fun j => tb_or _ _ _⟩
      · cases h
theorem plan_ok {P : Program} {ops : Array Oper} {p : Plan} (h : plan P ops = some p) : ∃ L, Ctx P ops L ∧ MainOk L (fun _ => False) none p.main p.tail := by
  unfold plan at h
  simp only at h
  cases hw : writers (itemsOf P (lenL ops.toList) ops.toList 0 0) .nil with
  | none => rw [hw] at h; cases h
  | some W =>
    rw [hw] at h
    simp only [bc_eq] at h
    split at h
    · rename_i hok
      refine ⟨_, ctx_of hw hok, (dress_ok _ _ _ _ (fun x hx => orderF_mem _ _ _ _ hx) h).congr fun j => ?_⟩
      simp [tb_eq]
    · cases h
end Go.AM
end
section
set_option linter.unusedVariables false
set_option linter.unusedSimpArgs false
namespace Go.AM
open Go.RowKit
/-! ### what is one is one -/
theorem sameList {n : Nat} (ih : ∀ {a b : Value}, sameV n a b = true → a = b) : ∀ (l m : List Value),
    (@List.rec Value (fun _ => List Value → Bool) (fun m => match m with | [] => true | _ => false) (fun x _ ih m => match m with | y :: m => bc (sameV n x y) (ih m) false | [] => false) l) m = true → l = m
  | [], [], _ => rfl
  | [], y :: m, h => by cases h
  | x :: l, [], h => by cases h
  | x :: l, y :: m, h => by
    have h' : bc (sameV n x y) ((@List.rec Value (fun _ => List Value → Bool) (fun m => match m with | [] => true | _ => false) (fun x _ ih m => match m with | y :: m => bc (sameV n x y) (ih m) false | [] => false) l) m) false = true := h
    rw [bc_eq] at h'
    split at h'
    · rename_i hx; rw [ih hx, sameList ih l m h']
    · cases h'
theorem intk {k k' : IntKind} (h : Nat.beq k.ctorIdx k'.ctorIdx = true) : k = k' := by
  cases k <;> cases k' <;> first | rfl | cases h
theorem bytes_eq {a b : ByteArray} (h : beqL a.data.toList b.data.toList = true) : a = b := by
  rw [beqL_eq, beq_iff_eq] at h
  cases a; cases b
  simp at h
  rw [h]
theorem addr_eq {a b : Addr} (h : (Nat.beq a.block b.block && Nat.beq a.off b.off && (match a.spot, b.spot with | none, none => true | some x, some y => Nat.beq x y | _, _ => false)) = true) : a = b := by
  obtain ⟨x, y, z⟩ := a
  obtain ⟨x', y', z'⟩ := b
  simp only [Bool.and_eq_true] at h
  obtain ⟨⟨h1, h2⟩, h3⟩ := h
  have e1 := natbeq_true h1
  have e2 := natbeq_true h2
  subst e1 e2
  cases z <;> cases z' <;> first | rfl | (cases h3; done) | (rw [natbeq_true h3])
theorem sameV_eq : ∀ (n : Nat) {a b : Value}, sameV n a b = true → a = b := by
  have base : ∀ (n : Nat) (a b : Value), (∀ t x u y, a = .iface t x → b = .iface u y → t = u ∧ x = y) → (∀ f x y g x' y', a = .func f x y → b = .func g x' y' → a = b) → (∀ x y, a = .agg x → b = .agg y → x = y) → (∀ x y, a = .tuple x → b = .tuple y → x = y) → sameV n a b = true → a = b := by
    intro n a b h1 h2 h3 h4 h
    cases a <;> cases b
    case bool.bool => cases n <;> (simp [sameV] at h; rw [h])
    case int.int =>
      cases n <;> (simp only [sameV, Bool.and_eq_true, intEq_eq, beq_iff_eq] at h; rw [intk h.1, h.2])
    case string.string => cases n <;> (simp only [sameV] at h; rw [bytes_eq h])
    case pointer.pointer x y =>
      cases x <;> cases y <;> cases n <;> first | rfl | (simp [sameV] at h; done) | (simp only [sameV] at h; rw [addr_eq h])
    case slice.slice x l c y l' c' =>
      rcases x with _ | p <;> rcases y with _ | q <;> cases n <;> first | (simp [sameV] at h; done) | (simp only [sameV, Bool.and_eq_true] at h; rw [natbeq_true h.1, natbeq_true h.2]; done) | (simp only [sameV, Bool.and_eq_true] at h; obtain ⟨⟨⟨⟨h5, h6⟩, h7⟩, h8⟩, h9⟩ := h; obtain rfl : p = q := addr_eq (by simp only [Bool.and_eq_true]; exact ⟨⟨h7, h8⟩, h9⟩); rw [natbeq_true h5, natbeq_true h6])
    case map.map x y =>
      cases x <;> cases y <;> cases n <;> first | rfl | (simp [sameV] at h; done) | (simp only [sameV] at h; rw [natbeq_true h])
    case func.func f x y g x' y' => exact h2 f x y g x' y' rfl rfl
    case iface.iface t x u y => obtain ⟨e1, e2⟩ := h1 t x u y rfl rfl; rw [e1, e2]
    case agg.agg x y => rw [h3 x y rfl rfl]
    case tuple.tuple x y => rw [h4 x y rfl rfl]
    all_goals first | rfl | (cases n <;> (simp [sameV] at h))
  intro n
  induction n with
  | zero =>
    intro a b h
    refine base 0 a b ?_ ?_ ?_ ?_ h
    all_goals (intros; subst_vars; simp [sameV] at h)
  | succ n ih =>
    intro a b h
    refine base (n + 1) a b ?_ ?_ ?_ ?_ h
    · rintro t x u y rfl rfl
      simp only [sameV, Bool.and_eq_true] at h
      exact ⟨natbeq_true h.1, ih h.2⟩
    · rintro f x y g x' y' rfl rfl
      cases f <;> cases g <;> first | (simp [sameV] at h; done) | skip
      simp only [sameV, Bool.and_eq_true] at h
      obtain ⟨⟨h1, h2⟩, h3⟩ := h
      obtain ⟨x⟩ := x; obtain ⟨y⟩ := y; obtain ⟨x'⟩ := x'; obtain ⟨y'⟩ := y'
      obtain rfl : x = x' := sameList ih x x' h2
      obtain rfl : y = y' := sameList ih y y' h3
      rw [natbeq_true h1]
    · rintro x y rfl rfl
      simp only [sameV] at h
      obtain ⟨x⟩ := x; obtain ⟨y⟩ := y
      obtain rfl : x = y := sameList ih x y h
      rfl
    · rintro x y rfl rfl
      simp only [sameV] at h
      obtain ⟨x⟩ := x; obtain ⟨y⟩ := y
      obtain rfl : x = y := sameList ih x y h
      rfl
theorem sameC_eq {a b : Option (Value × Nat)} (h : sameC a b = true) : a = b := by
  cases a with
  | none => cases b with
    | none => rfl
    | some y => cases h
  | some x => cases b with
    | none => cases h
    | some y =>
      obtain ⟨v, g⟩ := x
      obtain ⟨v', g'⟩ := y
      simp only [sameC, Bool.and_eq_true] at h
      rw [natbeq_true h.1, sameV_eq 5 h.2]
theorem sameTr_eq : ∀ {a b : Tr (Value × Nat)}, sameTr a b = true → a = b
  | .nil, .nil, _ => rfl
  | .nil, .node .., h => by simp [sameTr] at h
  | .node .., .nil, h => by simp [sameTr] at h
  | .node l v r, .node l' v' r', h => by
    simp only [sameTr, Bool.and_eq_true] at h
    rw [sameC_eq h.1.1, sameTr_eq h.1.2, sameTr_eq h.2]
theorem sameB_eq {a b : Option Blk} (h : sameB a b = true) : a = b := by
  unfold sameB at h
  split at h
  · rename_i x y
    obtain ⟨a1, a2, a3, a4, a5, a6, a7⟩ := x
    obtain ⟨b1, b2, b3, b4, b5, b6, b7⟩ := y
    simp only [Bool.and_eq_true, beq_iff_eq] at h
    obtain ⟨⟨⟨⟨⟨⟨h1, h2⟩, h3⟩, h4⟩, h5⟩, h6⟩, h7⟩ := h
    rw [natbeq_true h1, natbeq_true h2, natbeq_true h3, natbeq_true h4, h5, h6, sameTr_eq h7]
  · rw [natbeq_true h]
  · cases h
/-! ### what is made lies where it says -/
theorem made_blk {P : Program} {ρ : Env} {o : Oper} {H H' : Heap} {v : Value} (h : opA P ρ o H = .val v H') (hk : isMakes (kindOf P o.op) = true) : blkOf v = some H.next := by
  obtain ⟨dst, op, ty, pos, after, guard⟩ := o
  cases op with
  | alloc t =>
    have h' : opAlloc P t H = .val v H' := h
    unfold opAlloc at h'; split at h' <;> cases h'; rfl
  | box t x =>
    have h' : opBox t (ρ x) H = .val v H' := h
    unfold opBox at h'; rw [bc_eq] at h'; split at h' <;> cases h'; rfl
  | buildSlice t n parts =>
    have h' : opBuildSlice P ρ t n parts H = .val v H' := h
    unfold opBuildSlice at h'; simp only [bc_eq] at h'; repeat' split at h'
    all_goals (first | (cases h'; done) | (cases h'; rfl))
  | makeSlice t l c =>
    have h' : opMakeSlice P t H (ρ l) (ρ c) = .val v H' := h
    unfold opMakeSlice at h'; simp only [bc_eq] at h'; repeat' split at h'
    all_goals (first | (cases h'; done) | (cases h'; rfl))
  | makeMap t r =>
    have h' : opMakeMap P t H (r.map ρ) = .val v H' := h
    unfold opMakeMap at h'; split at h' <;> cases h' <;> rfl
  | convert s d x =>
    have h' : opConvert P ρ ⟨dst, .convert s d x, ty, pos, after, guard⟩ H s d (ρ x) = .val v H' := h
    have hk' : isMakes (convKind P s d) = true := hk
    unfold convKind at hk'
    unfold opConvert at h'
    cases hc : convT P s d with
    | toBytes e =>
      rw [hc] at h'
      simp only at h'
      unfold opToBytes at h'; split at h' <;> cases h'; rfl
    | _ => rw [hc] at hk'; cases hk'
  | call c =>
    obtain ⟨callee, xs, ts⟩ := c
    cases callee with
    | builtin b => cases b <;> cases hk
    | _ => cases hk
  | _ => cases hk
end Go.AM
end
section
set_option linter.unusedVariables false
set_option linter.unusedSimpArgs false
namespace Go.AM
open Go.RowKit
/-! ### a step of the plan's run -/
inductive AV (P : Program) (callF : CallF) (o : Oper) (T : Tr Value) (D : List Deferred) (H : Heap) : Value → List Deferred → Heap → Prop where
  | val {v : Value} {H' : Heap} (h : opA P (ev T) o H = .val v H') : AV P callF o T D H v D H'
  | call {f : FuncId} {args : List Value} {v : Value} {H' : Heap} (h : opA P (ev T) o H = .call f args) (hc : callF f args H = some (v, H')) : AV P callF o T D H v D H'
  | dfr {d : Deferred} (h : opA P (ev T) o H = .dfr d) : AV P callF o T D H undef (d :: D) H
def PutR (nt : Nat) (T : Tr Value) (d : Option Tmp) (v : Value) (T' : Tr Value) : Prop := (d = none ∧ T' = T) ∨ ∃ t, d = some t ∧ t < nt ∧ T' = T.set t v
noncomputable def wantT (ops : Array Oper) (T : Tr Value) (o : Oper) : Bool := match o.guard with | none => true | some g => wantedG ops T g.1 g.2
/-- an operation of the plan, in its turn -/
inductive AStep (P : Program) (callF : CallF) (ops : Array Oper) (o : Oper) (T : Tr Value) (D : List Deferred) (H : Heap) : Value → List Deferred → Heap → Prop where
  | skip (h : wantT ops T o = false) : AStep P callF ops o T D H undef D H
  | run {v : Value} {D' : List Deferred} {H' : Heap} (h : wantT ops T o = true) (hv : AV P callF o T D H v D' H') : AStep P callF ops o T D H v D' H'
section
variable {P : Program} {callF : CallF} {ops : Array Oper} {nt : Nat}
theorem put_inv {T : Tr Value} {d : Option Tmp} {v : Value} {k : Tr Value → R} {e : AExit} {T2 : Tr Value} {D2 : List Deferred} {H2 : Heap} (h : AM.put nt T d v k = .ok e T2 D2 H2) : ∃ T', PutR nt T d v T' ∧ k T' = .ok e T2 D2 H2 := by
  cases d with
  | none => exact ⟨T, .inl ⟨rfl, rfl⟩, h⟩
  | some d =>
    have h' : @Bool.rec (fun _ => R) .fail (k (T.set d v)) (Nat.ble (Nat.succ d) nt) = .ok e T2 D2 H2 := h
    rw [natble] at h'
    by_cases hd : d < nt
    · have : decide (Nat.succ d ≤ nt) = true := decide_eq_true hd
      rw [this] at h'
      exact ⟨T.set d v, .inr ⟨d, rfl, hd, rfl⟩, h'⟩
    · have : decide (Nat.succ d ≤ nt) = false := decide_eq_false hd
      rw [this] at h'
      cases h'
theorem doOp_inv {o : Oper} {T : Tr Value} {D : List Deferred} {H : Heap} {k : Tr Value → List Deferred → Heap → R} {e : AExit} {T2 : Tr Value} {D2 : List Deferred} {H2 : Heap}
    (h : doOp P callF false nt o T D H k = .ok e T2 D2 H2) : ∃ v D' H' T', AV P callF o T D H v D' H' ∧ PutR nt T o.dst v T' ∧ k T' D' H' = .ok e T2 D2 H2 := by
  unfold doOp at h
  cases hA : opA P (ev T) o H with
  | fail => rw [hA] at h; cases h
  | val v H' =>
    rw [hA] at h
    obtain ⟨T', h1, h2⟩ := put_inv h
    exact ⟨v, D, H', T', .val hA, h1, h2⟩
  | call f args =>
    rw [hA] at h
    have h' : @Option.rec (Value × Heap) (fun _ => R) .fail (fun q => AM.put nt T o.dst q.1 fun T' => k T' D q.2) (callF f args H) = .ok e T2 D2 H2 := h
    cases hcall : callF f args H with
    | none => rw [hcall] at h'; cases h'
    | some q =>
      obtain ⟨v, H'⟩ := q
      rw [hcall] at h'
      obtain ⟨T', h1, h2⟩ := put_inv h'
      exact ⟨v, D, H', T', .call hA hcall, h1, h2⟩
  | dfr d =>
    rw [hA] at h
    obtain ⟨T', h1, h2⟩ := put_inv h
    exact ⟨undef, d :: D, H, T', .dfr hA, h1, h2⟩
  | recov => rw [hA] at h; cases h
theorem stepOp_inv {o : Oper} {T : Tr Value} {D : List Deferred} {H : Heap} {k : Tr Value → List Deferred → Heap → R} {e : AExit} {T2 : Tr Value} {D2 : List Deferred} {H2 : Heap}
    (h : stepOp P callF false ops nt o T D H k = .ok e T2 D2 H2) : ∃ v D' H' T', AStep P callF ops o T D H v D' H' ∧ PutR nt T o.dst v T' ∧ k T' D' H' = .ok e T2 D2 H2 := by
  unfold stepOp at h
  cases hg : o.guard with
  | none =>
    rw [hg] at h
    obtain ⟨v, D', H', T', h1, h2, h3⟩ := doOp_inv h
    exact ⟨v, D', H', T', .run (by unfold wantT; rw [hg]) h1, h2, h3⟩
  | some g =>
    rw [hg] at h
    simp only [bc_eq] at h
    by_cases hwg : wantedG ops T g.1 g.2 = true
    · rw [if_pos hwg] at h
      obtain ⟨v, D', H', T', h1, h2, h3⟩ := doOp_inv h
      exact ⟨v, D', H', T', .run (by unfold wantT; rw [hg]; exact hwg) h1, h2, h3⟩
    · rw [if_neg hwg] at h
      obtain ⟨T', h1, h2⟩ := put_inv h
      exact ⟨undef, D, H, T', .skip (by unfold wantT; rw [hg]; simpa using hwg), h1, h2⟩
theorem drawSeq_cons (x : PItem) (l : List PItem) (T : Tr Value) (D : List Deferred) (H : Heap) : drawSeq P callF ops nt (x :: l) T D H =
    stepOp P callF false ops nt x.it.o T D H fun T' D' H' => bc (allL (readAgain P ops T' H') x.again && allL (keptAgain ops T' H H') x.kept) (drawSeq P callF ops nt l T' D' H') .fail := rfl
theorem drawSeq_inv {x : PItem} {l : List PItem} {T : Tr Value} {D : List Deferred} {H : Heap} {e : AExit} {T2 : Tr Value} {D2 : List Deferred} {H2 : Heap} (h : drawSeq P callF ops nt (x :: l) T D H = .ok e T2 D2 H2) :
    ∃ v D' H' T', AStep P callF ops x.it.o T D H v D' H' ∧ PutR nt T x.it.o.dst v T' ∧ (∀ r ∈ x.again, readAgain P ops T' H' r = true) ∧ (∀ r ∈ x.kept, keptAgain ops T' H H' r = true) ∧ drawSeq P callF ops nt l T' D' H' = .ok e T2 D2 H2 := by
  rw [drawSeq_cons] at h
  obtain ⟨v, D', H', T', h1, h2, h3⟩ := stepOp_inv h
  rw [bc_eq] at h3
  split at h3
  · rename_i hc
    rw [Bool.and_eq_true, allL_eq, allL_eq] at hc
    exact ⟨v, D', H', T', h1, h2, List.all_eq_true.1 hc.1, List.all_eq_true.1 hc.2, h3⟩
  · cases h3
theorem PutR.eval {T T' : Tr Value} {d : Option Tmp} {v : Value} (h : PutR nt T d v T') : (∀ t, d ≠ some t → ev T' (.tmp t) = ev T (.tmp t)) ∧ (∀ t, d = some t → ev T' (.tmp t) = v) := by
  rcases h with ⟨rfl, rfl⟩ | ⟨u, rfl, hu, rfl⟩
  · exact ⟨fun _ _ => rfl, fun t h => by cases h⟩
  · refine ⟨fun t ht => ?_, fun t ht => ?_⟩
    · rw [ev_set, if_neg (fun e => ht (by rw [e]))]
    · cases ht; rw [ev_set, if_pos rfl]
/-- what is not written stays -/
theorem drawSeq_keeps : ∀ (l : List PItem) {T : Tr Value} {D : List Deferred} {H : Heap} {e : AExit} {T2 : Tr Value} {D2 : List Deferred} {H2 : Heap}, drawSeq P callF ops nt l T D H = .ok e T2 D2 H2 →
    ∀ t, (∀ x ∈ l, x.it.o.dst ≠ some t) → ev T2 (.tmp t) = ev T (.tmp t)
  | [], T, D, H, e, T2, D2, H2, h, t, ht => by cases h; rfl
  | x :: l, T, D, H, e, T2, D2, H2, h, t, ht => by
    obtain ⟨v, D', H', T', h1, h2, _, _, h3⟩ := drawSeq_inv h
    rw [drawSeq_keeps l h3 t fun y hy => ht y (by simp [hy])]
    exact h2.eval.1 t (ht x (by simp))
theorem wantT_ev {T T' : Tr Value} {o : Oper} (h : ∀ j w q d, o.guard = some (j, w) → ops[j]? = some q → q.dst = some d → ev T (.tmp d) = ev T' (.tmp d)) : wantT ops T o = wantT ops T' o := by
  unfold wantT
  cases hg : o.guard with
  | none => rfl
  | some g =>
    obtain ⟨j, w⟩ := g
    simp only
    unfold wantedG
    rw [getL_eq, Array.getElem?_toList]
    cases hj : ops[j]? with
    | none => rfl
    | some q =>
      simp only
      cases hd : q.dst with
      | none => rfl
      | some d =>
        simp only
        have he := h j w q d hg hj hd
        have e1 : ∀ U : Tr Value, ev U (.tmp d) = (U.get d).getD undef := fun U => by
          show @Option.rec Value (fun _ => Value) undef (fun v => v) (U.get d) = _
          cases U.get d <;> rfl
        rw [e1, e1] at he
        cases hT : T.get d with
        | none =>
          rw [hT] at he
          cases hU : T'.get d with
          | none => rfl
          | some u => rw [hU] at he; have he' : undef = u := he; subst he'; rfl
        | some v =>
          rw [hT] at he
          cases hU : T'.get d with
          | none => rw [hU] at he; have he' : v = undef := he; subst he'; rfl
          | some u => rw [hU] at he; have he' : v = u := he; subst he'; rfl
theorem wantT_run {T : Tr Value} {γ : Gm} {a : Act} {o : Oper} (h : ∀ j w q d, o.guard = some (j, w) → ops[j]? = some q → q.dst = some d → VR γ (ev T (.tmp d)) (a.eval (.tmp d))) : Region.wanted o (yielded ops a.tmps) = wantT ops T o := by
  unfold wantT
  cases hg : o.guard with
  | none => simp [Region.wanted, hg]
  | some g =>
    obtain ⟨j, want⟩ := g
    simp only
    unfold Region.wanted wantedG yielded
    rw [hg, getL_eq, Array.getElem?_toList]
    simp only
    cases hj : ops[j]? with
    | none => rfl
    | some q =>
      simp only [Option.bind_some]
      cases hd : q.dst with
      | none => rfl
      | some d =>
        have hv := h j want q d hg hj hd
        simp only [Option.bind_some]
        have hev : a.eval (.tmp d) = a.tmps.getD d undef := rfl
        rw [hev] at hv
        have hgd : a.tmps.getD d undef = (a.tmps[d]?).getD undef := by simp [Array.getD_eq_getD_getElem?]
        rw [hgd] at hv
        have hev2 : ev T (.tmp d) = (T.get d).getD undef := by
          show @Option.rec Value (fun _ => Value) undef (fun v => v) (T.get d) = _
          cases T.get d <;> rfl
        rw [hev2] at hv
        cases hT : T.get d with
        | none =>
          rw [hT] at hv
          have hu : (a.tmps[d]?).getD undef = undef := by
            have := scal_eq 1 (v := undef) rfl hv
            exact this
          cases ht : a.tmps[d]? with
          | none => simp
          | some u =>
            rw [ht] at hu
            have hu' : u = undef := hu
            subst hu'
            rfl
        | some v =>
          rw [hT] at hv
          cases ht : a.tmps[d]? with
          | none =>
            rw [ht] at hv
            have hv' : VR γ v undef := hv
            cases v with
            | bool b => cases hv'
            | _ => rfl
          | some u =>
            rw [ht] at hv
            have hv' : VR γ v u := hv
            cases v with
            | bool b =>
              have := hv'.bool_inv
              subst this
              simp
            | _ => cases hv' <;> rfl
end
/-! ### an operation of the plan, carried out in the world -/
section
variable {P : Program} {callF : CallF} {B : Nat} {w0 : World} {Q : Exit → Act → World → Prop}
theorem act_wp (hc : CallOkF P callF) {o : Oper} {T : Tr Value} {D D' : List Deferred} {H H' : Heap} {v : Value} (hs : AV P callF o T D H v D' H') {γ : Gm} {a : Act} {w : World}
    (hf : Fresh H) (hR : Rel B w0 H.tr.get γ w) (hops : OpsRel γ o (ev T) a.eval) (hD : DR γ D a.defers) {K : Act → World → Prop}
    (hk : ∀ γ' (a1 : Act) w' v', a1.tmps = a.tmps → DR γ' D' a1.defers → Mv γ H.next γ' H'.next → Rel B w0 H'.tr.get γ' w' → Fresh H' → VR γ' v v' → K (a1.put o.dst v') w') : o.wp P a w K Q := by
  cases hs with
  | val hA =>
    obtain ⟨w', γ', v', hd, hsub, hnew, hR', hv, hf', hle⟩ := (opA_ok hA).act hf B w0 γ w a.eval hR hops
    have fin := hk γ' a w' v' rfl (hD.mono hsub) ⟨hsub, hnew, hle⟩ hR' hf' hv
    unfold Oper.wp
    rcases hd with hd | ⟨hd, hu⟩
    · rw [hd]; exact fin
    · rw [hd, Oper.upon_skip]; rw [hu] at fin; exact fin
  | call hA hcall =>
    rename_i f args
    obtain ⟨fx, xs, ts, first, cap, hop, hfx, hargs⟩ := opA_call hA
    have h1 := hops fx (by rw [hop]; simp [Op.operands, Call.operands])
    rw [hfx] at h1
    obtain ⟨first', cap', hfx', hl1, hl2⟩ := h1.func_inv
    have hl3 : LR γ (xs.toList.map (ev T)) (xs.toList.map a.eval) := LR.map _ _ _ fun x hx => hops x (by rw [hop]; simp [Op.operands, Call.operands]; right; simpa using hx)
    have hl : LR γ args (first'.toList ++ (xs.toList.map a.eval ++ cap'.toList)) := by rw [hargs]; exact hl1.append (hl3.append hl2)
    have fin : ∀ v' w', Gave B w0 H γ v H' v' w' → K (a.put o.dst v') w' := fun v' w' hg => by
      obtain ⟨γ', hmv, hR', hv, hf'⟩ := hg.all
      exact hk γ' a w' v' rfl (hD.mono hmv.sub) hmv hR' hf' hv
    unfold Oper.wp
    rw [exec_call hop hfx']
    rcases hc f args H v H' hcall B w0 γ w _ hf hR hl with ⟨v', w', hrun, hg⟩ | ⟨hrun, hcalls⟩
    · rw [hrun]; exact fin v' w' hg
    · rw [hrun]
      refine Calls.mono hcalls fun e w' he => ?_
      cases e with
      | returned v' => exact fin v' w' he
      | panicked c => exact he.elim
      | outgrown => exact he.elim
  | dfr hA =>
    rename_i d
    obtain ⟨c, fx, g, first, cap, hop, hce, hfx, hd⟩ := opA_dfr hA
    obtain ⟨callee, xs, ts⟩ := c
    simp only at hce
    subst hce
    have h1 := hops fx (by rw [hop]; simp [Op.operands, Call.operands])
    rw [hfx] at h1
    obtain ⟨first', cap', hfx', hl1, hl2⟩ := h1.func_inv
    have hl3 : LR γ (xs.toList.map (ev T)) (xs.toList.map a.eval) := LR.map _ _ _ fun x hx => hops x (by rw [hop]; simp [Op.operands, Call.operands]; right; simpa using hx)
    have hdr : DefR γ d ⟨.fn (.func g) cap', first' ++ xs.map a.eval⟩ := by
      rw [hd]
      refine ⟨⟨g, cap, cap', rfl, rfl, hl2⟩, ?_⟩
      have : (first' ++ xs.map a.eval).toList = first'.toList ++ xs.toList.map a.eval := by simp
      rw [this]
      exact hl1.append hl3
    have fin := hk γ { a with defers := ⟨.fn (.func g) cap', first' ++ xs.map a.eval⟩ :: a.defers } w undef rfl (.cons hdr hD) (Mv.refl _ _) hR hf (VR.undef γ)
    unfold Oper.wp
    have hrun : (execOp a.eval o).run P w = .ok (.defer ⟨.fn (.func g) cap', first' ++ xs.map a.eval⟩) w := by
      simp [execOp, hop, resolve, hfx', Deferred.ofValue]
    rw [hrun]
    exact fin
/-- what is light is carried out by its own -/
theorem light_val {o : Oper} {T : Tr Value} {D D' : List Deferred} {H H' : Heap} {v : Value} (hk : isActs (kindOf P o.op) = false) (hs : AV P callF o T D H v D' H') : D' = D ∧ opA P (ev T) o H = .val v H' := by
  cases hs with
  | val h => exact ⟨rfl, h⟩
  | call h hc =>
    obtain ⟨fx, xs, ts, first, cap, hop, _⟩ := opA_call h
    rw [hop] at hk; cases hk
  | dfr h =>
    obtain ⟨c, fx, g, first, cap, hop, _⟩ := opA_dfr h
    rw [hop] at hk; cases hk
end
end Go.AM
end
section
set_option linter.unusedVariables false
set_option linter.unusedSimpArgs false
namespace Go.AM
open Go.RowKit
def Sl (l : Array Bool) (i : Nat) : Prop := l.getD i false = true
theorem Sl_set {l : Array Bool} {i : Nat} (hi : i < l.size) (j : Nat) : Sl (l.setIfInBounds i true) j ↔ Sl l j ∨ j = i := by
  unfold Sl
  by_cases h : i = j
  · subst h; simp [hi]
  · rw [getD_set_ne false h]
    exact ⟨.inl, fun k => k.resolve_right (fun e => h e.symm)⟩
/-- what the slots hold: 'R2' where their writer has come up, else 'R0' -/
structure SlotP (L : List Item) (X R0 R2 : Nat → Prop) : Prop where
  z : ∀ t, (∀ x ∈ L, x.o.dst = some t → ¬ X x.i) → R0 t
  s : ∀ x ∈ L, ∀ t, x.o.dst = some t → X x.i → R2 t
theorem SlotP.add {P : Program} {ops : Array Oper} {L : List Item} (C : Ctx P ops L) {X R0 R2 X' R0' R2' : Nat → Prop} (h : SlotP L X R0 R2) {x : Item} (hx : x ∈ L) (hX : ∀ j, X' j ↔ X j ∨ j = x.i)
    (h0 : ∀ t, x.o.dst ≠ some t → R0 t → R0' t) (h2 : ∀ t, x.o.dst ≠ some t → R2 t → R2' t) (hd : ∀ t, x.o.dst = some t → R2' t) : SlotP L X' R0' R2' := by
  refine ⟨fun t ht => ?_, fun y hy t hyt hyX => ?_⟩
  · exact h0 t (fun e => ht x hx e ((hX _).2 (.inr rfl))) (h.z t fun y hy hyt k => ht y hy hyt ((hX _).2 (.inl k)))
  · by_cases e : x.o.dst = some t
    · exact hd t e
    · rcases (hX _).1 hyX with k | k
      · exact h2 t e (h.s y hy t hyt k)
      · obtain rfl := C.same hy hx k
        exact absurd hyt e
def Closed (L : List Item) (X : Nat → Prop) : Prop := ∀ x ∈ L, X x.i → ∀ j, tb x.anc j = true → X j
theorem Closed.add {P : Program} {ops : Array Oper} {L : List Item} (C : Ctx P ops L) {X X' : Nat → Prop} (h : Closed L X) {x : Item} (hx : x ∈ L) (hX : ∀ j, X' j ↔ X j ∨ j = x.i) (hr : ∀ j, tb x.anc j = true → X j) : Closed L X' := fun y hy hyX j hj => by
  rcases (hX _).1 hyX with k | k
  · exact (hX _).2 (.inl (h y hy k j hj))
  · obtain rfl := C.same hy hx k
    exact (hX _).2 (.inl (hr j hj))
/-- an operation's operands, as the plan has them -/
def EnvOk (L : List Item) (T0 T2 : Tr Value) (x : Item) (Tx : Tr Value) : Prop :=
  ∀ t, Operand.tmp t ∈ x.o.op.operands.toList →
    (∀ y ∈ L, y.o.dst = some t → (tb x.anc y.i = true → ev Tx (.tmp t) = ev T2 (.tmp t)) ∧ (tb x.anc y.i = false → ev Tx (.tmp t) = ev T0 (.tmp t))) ∧
    ((∀ y ∈ L, y.o.dst ≠ some t) → ev Tx (.tmp t) = ev T0 (.tmp t))
section
variable {P : Program} {ops : Array Oper} {L : List Item} (C : Ctx P ops L) {T0 T2 : Tr Value}
include C
theorem env_of_slots {E : Nat → Prop} {T : Tr Value} {x : Item} (hx : x ∈ L) (hE : ¬ E x.i) (hcl : Closed L E) (hr : ∀ j, tb x.anc j = true → E j)
    (hs : SlotP L E (fun t => ev T (.tmp t) = ev T0 (.tmp t)) (fun t => ev T (.tmp t) = ev T2 (.tmp t))) : EnvOk L T0 T2 x T := fun t ht => by
  refine ⟨fun y hy hyt => ⟨fun h => hs.s y hy t hyt (hr _ h), fun h => ?_⟩, fun hn => hs.z t fun y hy hyt => absurd hyt (hn y hy)⟩
  refine hs.z t fun z hz hzt => ?_
  obtain rfl := C.uq y hy z hz t hyt hzt
  rcases C.slot x hx t ht y hy hyt with k | ⟨_, k | k⟩
  · rw [k] at h; cases h
  · rw [← k]; exact hE
  · exact fun hz => hE (hcl y hy hz _ k)
theorem env_of_reads {E : Nat → Prop} {T : Tr Value} {x : Item} (hx : x ∈ L) (hk : isReads x.kind = true) (hr : ∀ j, tb x.anc j = true → E j)
    (hs : SlotP L E (fun t => ev T (.tmp t) = ev T0 (.tmp t)) (fun t => ev T (.tmp t) = ev T2 (.tmp t))) : EnvOk L T0 T2 x T := fun t ht => by
  refine ⟨fun y hy hyt => ⟨fun h => hs.s y hy t hyt (hr _ h), fun h => ?_⟩, fun hn => hs.z t fun y hy hyt => absurd hyt (hn y hy)⟩
  rcases C.slot x hx t ht y hy hyt with k | ⟨k, _⟩
  · rw [k] at h; cases h
  · rw [hk] at k; cases k
theorem ops_of_env {S : Nat → Prop} {γ : Gm} {a : Act} {Tx : Tr Value} {x : Item} (hx : x ∈ L) (hS : ¬ S x.i) (hcl : Closed L S) (hr : ∀ j, tb x.anc j = true → S j)
    (hs : SlotP L S (fun t => VR γ (ev T0 (.tmp t)) (a.eval (.tmp t))) (fun t => VR γ (ev T2 (.tmp t)) (a.eval (.tmp t)))) (he : EnvOk L T0 T2 x Tx) (hok : allL okX x.o.op.operands.toList = true) : OpsRel γ x.o (ev Tx) a.eval := fun p hp => by
  rw [allL_eq] at hok
  have hpo := List.all_eq_true.1 hok p hp
  cases p with
  | tmp t =>
    obtain ⟨h1, h2⟩ := he t hp
    by_cases hw : ∃ y ∈ L, y.o.dst = some t
    · obtain ⟨y, hy, hyt⟩ := hw
      obtain ⟨h3, h4⟩ := h1 y hy hyt
      cases hb : tb x.anc y.i with
      | true => rw [h3 hb]; exact hs.s y hy t hyt (hr _ hb)
      | false =>
        rw [h4 hb]
        refine hs.z t fun z hz hzt => ?_
        obtain rfl := C.uq y hy z hz t hyt hzt
        rcases C.slot x hx t hp y hy hyt with k | ⟨_, k | k⟩
        · rw [k] at hb; cases hb
        · rw [← k]; exact hS
        · exact fun hz => hS (hcl y hy hz _ k)
    · rw [h2 fun y hy e => hw ⟨y, hy, e⟩]
      exact hs.z t fun y hy hyt => absurd ⟨y, hy, hyt⟩ hw
  | const v => exact scal_VR 4 hpo
  | global g => cases hpo
  | func f => exact .func f rfl rfl (fun i x y hx => by simp at hx) (fun i x y hx => by simp at hx)
theorem guard_slot {x : Item} (hx : x ∈ L) {j : Nat} {w : Bool} {q : Oper} {d : Nat} (hg : x.o.guard = some (j, w)) (hj : ops[j]? = some q) (hd : q.dst = some d) : ∃ y ∈ L, y.o.dst = some d ∧ tb x.anc y.i = true := by
  obtain ⟨y, h1, h2, h3⟩ := C.at_ j q hj
  exact ⟨y, List.mem_of_getElem? h1, by rw [h2]; exact hd, by rw [h3]; exact C.guard x hx j w hg q d hj hd⟩
end
/-- what is to come up, but has come up in the plan -/
def PendV (P : Program) (n0 id : Nat) (H : Heap) (γ : Gm) (x : Item) (Tx : Tr Value) (v : Value) : Prop :=
  match x.kind with
  | .pure => PureOk P x.o (ev Tx) v
  | .reads => ∃ Hs, ReadOk P x.o (ev Tx) Hs v ∧ Below1 Hs H.tr.get
  | .makes => ∃ blk, MakeOk P x.o (ev Tx) id v blk ∧ H.tr.get id = some blk ∧ γ id 0 = none ∧ n0 ≤ id ∧ blkOf v = some id
  | .acts => False
structure Pend (P : Program) (ops : Array Oper) (L : List Item) (nt : Nat) (T0 T2 : Tr Value) (n0 id : Nat) (H : Heap) (γ : Gm) (x : Item) : Prop where
  light : isActs x.kind = false
  dlt : ∀ d, x.o.dst = some d → d < nt
  off : wantT ops T2 x.o = false → ∀ d, x.o.dst = some d → ev T2 (.tmp d) = undef
  on : wantT ops T2 x.o = true → ∃ Tx v, EnvOk L T0 T2 x Tx ∧ (∀ d, x.o.dst = some d → ev T2 (.tmp d) = v) ∧ PendV P n0 id H γ x Tx v
structure Inv (P : Program) (ops : Array Oper) (L : List Item) (nt : Nat) (T0 T2 : Tr Value) (n0 : Nat) (γ0 : Gm) (B : Nat) (w0 : World) (E : Nat → Prop) (S : Array Bool) (idOf : Nat → Nat)
    (T : Tr Value) (D : List Deferred) (H : Heap) (γ : Gm) (a : Act) (w : World) : Prop where
  sz : S.size = ops.size
  sub : ∀ j, Sl S j → E j
  clE : Closed L E
  clS : Closed L (Sl S)
  slE : SlotP L E (fun t => ev T (.tmp t) = ev T0 (.tmp t)) (fun t => ev T (.tmp t) = ev T2 (.tmp t))
  slS : SlotP L (Sl S) (fun t => VR γ (ev T0 (.tmp t)) (a.eval (.tmp t))) (fun t => VR γ (ev T2 (.tmp t)) (a.eval (.tmp t)))
  pend : ∀ x ∈ L, E x.i → ¬ Sl S x.i → Pend P ops L nt T0 T2 n0 (idOf x.i) H γ x
  inj : ∀ x ∈ L, ∀ y ∈ L, (E x.i ∧ ¬ Sl S x.i ∧ isMakes x.kind = true ∧ wantT ops T2 x.o = true) → (E y.i ∧ ¬ Sl S y.i ∧ isMakes y.kind = true ∧ wantT ops T2 y.o = true) → idOf x.i = idOf y.i → x.i = y.i
  tsz : nt ≤ a.tmps.size
  defs : DR γ D a.defers
  fresh : Fresh H
  rel : Rel B w0 H.tr.get γ w
  mv : Mv γ0 n0 γ H.next
theorem put_eval {a : Act} {d : Option Tmp} {v : Value} (t : Nat) : (d ≠ some t → (a.put d v).eval (.tmp t) = a.eval (.tmp t)) ∧ (d = some t → t < a.tmps.size → (a.put d v).eval (.tmp t) = v) := by
  cases d with
  | none => exact ⟨fun _ => rfl, fun h => by cases h⟩
  | some d =>
    refine ⟨fun h => ?_, fun h hlt => ?_⟩
    · have e : d ≠ t := fun e => h (by rw [e])
      simp [Act.put, Act.eval, Array.getElem?_setIfInBounds_ne e]
    · cases h
      simp [Act.put, Act.eval, hlt]
theorem PendV.makes {P : Program} {n0 id : Nat} {H : Heap} {γ : Gm} {x : Item} {Tx : Tr Value} {v : Value} (h : PendV P n0 id H γ x Tx v) (hk : isMakes x.kind = true) :
    ∃ blk, MakeOk P x.o (ev Tx) id v blk ∧ H.tr.get id = some blk ∧ γ id 0 = none ∧ n0 ≤ id ∧ blkOf v = some id := by
  unfold PendV at h
  cases he : x.kind with
  | makes => rw [he] at h; exact h
  | _ => rw [he] at hk; cases hk
theorem PendV.turn {P : Program} {n0 id : Nat} {H H' : Heap} {γ γ' : Gm} {x : Item} {Tx : Tr Value} {v : Value} (h : PendV P n0 id H γ x Tx v)
    (hr : ∀ b y, H.tr.get b = some y → H'.tr.get b = some y) (hm : isMakes x.kind = true → γ' id 0 = none) : PendV P n0 id H' γ' x Tx v := by
  unfold PendV at h ⊢
  cases he : x.kind with
  | pure => rw [he] at h; exact h
  | reads => rw [he] at h; obtain ⟨Hs, h1, h2⟩ := h; exact ⟨Hs, h1, fun b y hy => hr _ _ (h2 b y hy)⟩
  | makes => rw [he] at h hm; obtain ⟨blk, h1, h2, h3, h4, h5⟩ := h; exact ⟨blk, h1, hr _ _ h2, hm rfl, h4, h5⟩
  | acts => rw [he] at h; exact h
section
variable {P : Program} {callF : CallF} {ops : Array Oper} {L : List Item} (C : Ctx P ops L) {nt : Nat} {T0 T2 : Tr Value} {n0 : Nat} {γ0 : Gm} {B : Nat} {w0 : World} {Q : Exit → Act → World → Prop}
  {E : Nat → Prop} {S : Array Bool} {idOf : Nat → Nat} {T : Tr Value} {D : List Deferred} {H : Heap} {γ : Gm} {a : Act} {w : World}
include C
theorem ix_lt {x : Item} (hx : x ∈ L) : x.i < ops.size := (Array.getElem?_eq_some_iff.1 (C.ix x hx).2).1
theorem Inv.wanted (I : Inv P ops L nt T0 T2 n0 γ0 B w0 E S idOf T D H γ a w) {x : Item} (hx : x ∈ L) (hr : ∀ j, tb x.anc j = true → Sl S j) : Region.wanted x.o (yielded ops a.tmps) = wantT ops T2 x.o :=
  wantT_run (γ := γ) fun j w' q d hg hj hd => by
    obtain ⟨y, hy, hyd, hya⟩ := guard_slot C hx hg hj hd
    exact I.slS.s y hy d hyd (hr _ hya)
theorem Inv.wantE (I : Inv P ops L nt T0 T2 n0 γ0 B w0 E S idOf T D H γ a w) {x : Item} (hx : x ∈ L) (hr : ∀ j, tb x.anc j = true → E j) : wantT ops T x.o = wantT ops T2 x.o :=
  wantT_ev fun j w' q d hg hj hd => by
    obtain ⟨y, hy, hyd, hya⟩ := guard_slot C hx hg hj hd
    exact I.slE.s y hy d hyd (hr _ hya)
theorem Inv.light (I : Inv P ops L nt T0 T2 n0 γ0 B w0 E S idOf T D H γ a w) {x : Item} (hx : x ∈ L) (hE : E x.i) (hr : ∀ j, tb x.anc j = true → Sl S j) (hdlt : ∀ d, x.o.dst = some d → d < nt)
    {γ' : Gm} {w' : World} {v' : Value} (hsub : GSub γ γ') (hR : Rel B w0 H.tr.get γ' w') (hv : ∀ d, x.o.dst = some d → VR γ' (ev T2 (.tmp d)) v')
    (hn : ∀ y ∈ L, y.i ≠ x.i → (E y.i ∧ ¬ Sl S y.i ∧ isMakes y.kind = true ∧ wantT ops T2 y.o = true) → γ' (idOf y.i) 0 = none) (hmv : Mv γ0 n0 γ' H.next) :
    Inv P ops L nt T0 T2 n0 γ0 B w0 E (S.setIfInBounds x.i true) idOf T D H γ' (a.put x.o.dst v') w' := by
  have hX := Sl_set (l := S) (i := x.i) (by rw [I.sz]; exact ix_lt C hx)
  refine ⟨by simpa using I.sz, fun j hj => ?_, I.clE, I.clS.add C hx hX hr, I.slE, I.slS.add C hx hX (fun t ht h => ?_) (fun t ht h => ?_) (fun t ht => ?_), fun y hy hyE hyS => ?_, fun y hy z hz h1 h2 => ?_, ?_, ?_, I.fresh, hR, hmv⟩
  · rcases (hX j).1 hj with h | rfl
    · exact I.sub j h
    · exact hE
  · rw [(put_eval t).1 ht]; exact h.mono hsub
  · rw [(put_eval t).1 ht]; exact h.mono hsub
  · rw [(put_eval t).2 ht (Nat.lt_of_lt_of_le (hdlt t ht) I.tsz)]; exact hv t ht
  · have hyS' : ¬ Sl S y.i := fun k => hyS ((hX _).2 (.inl k))
    have hyx : y.i ≠ x.i := fun k => hyS ((hX _).2 (.inr k))
    have hp := I.pend y hy hyE hyS'
    refine ⟨hp.light, hp.dlt, hp.off, fun hw => ?_⟩
    obtain ⟨Tx, v, h1, h2, h3⟩ := hp.on hw
    exact ⟨Tx, v, h1, h2, h3.turn (fun _ _ k => k) fun hk => hn y hy hyx ⟨hyE, hyS', hk, hw⟩⟩
  · exact I.inj y hy z hz ⟨h1.1, fun k => h1.2.1 ((hX _).2 (.inl k)), h1.2.2⟩ ⟨h2.1, fun k => h2.2.1 ((hX _).2 (.inl k)), h2.2.2⟩
  · cases x.o.dst <;> simpa [Act.put] using I.tsz
  · have : (a.put x.o.dst v').defers = a.defers := by cases x.o.dst <;> rfl
    rw [this]; exact I.defs.mono hsub
/-- what is light comes up in the world -/
theorem light_step (hok : ∀ x ∈ L, allL okX x.o.op.operands.toList = true) (I : Inv P ops L nt T0 T2 n0 γ0 B w0 E S idOf T D H γ a w) {x : Item} (hx : x ∈ L) (hE : E x.i) (hS : ¬ Sl S x.i) (hr : ∀ j, tb x.anc j = true → Sl S j) {K : Act → World → Prop}
    (hk : ∀ γ' a' w', Inv P ops L nt T0 T2 n0 γ0 B w0 E (S.setIfInBounds x.i true) idOf T D H γ' a' w' → K a' w') : wpOp P ops Q x.i K a w := by
  unfold wpOp
  rw [(C.ix x hx).2]
  simp only
  rw [I.wanted C hx hr]
  have hp := I.pend x hx hE hS
  have hmk : ∀ y ∈ L, y.i ≠ x.i → (E y.i ∧ ¬ Sl S y.i ∧ isMakes y.kind = true ∧ wantT ops T2 y.o = true) → γ (idOf y.i) 0 = none := fun y hy _ ⟨k1, k2, k3, k4⟩ => by
    obtain ⟨Tx, v, _, _, h3⟩ := (I.pend y hy k1 k2).on k4
    obtain ⟨_, _, _, h, _⟩ := h3.makes k3
    exact h
  cases hw : wantT ops T2 x.o with
  | false =>
    simp only [Bool.false_eq_true, if_false]
    exact hk γ _ w (I.light C hx hE hr hp.dlt (GSub.refl _) I.rel (fun d hd => by rw [hp.off hw d hd]; exact VR.undef γ) hmk I.mv)
  | true =>
    simp only [if_true]
    obtain ⟨Tx, v, henv, hv2, hpv⟩ := hp.on hw
    have hops : OpsRel γ x.o (ev Tx) a.eval := ops_of_env C hx hS I.clS hr I.slS henv (hok x hx)
    have fin : ∀ γ' w' v', GSub γ γ' → Rel B w0 H.tr.get γ' w' → VR γ' v v' → (∀ y ∈ L, y.i ≠ x.i → (E y.i ∧ ¬ Sl S y.i ∧ isMakes y.kind = true ∧ wantT ops T2 y.o = true) → γ' (idOf y.i) 0 = none) → Mv γ0 n0 γ' H.next → K (a.put x.o.dst v') w' := fun γ' w' v' h1 h2 h3 h4 h5 =>
      hk γ' _ w' (I.light C hx hE hr hp.dlt h1 h2 (fun d hd => by rw [hv2 d hd]; exact h3) h4 h5)
    have done : ∀ w' v', Done P x.o a.eval w w' v' → K (a.put x.o.dst v') w' → x.o.wp P a w K Q := fun w' v' hd h => by
      unfold Oper.wp
      rcases hd with hd | ⟨hd, hu⟩
      · rw [hd]; exact h
      · rw [hd, Oper.upon_skip]; rw [hu] at h; exact h
    left
    unfold PendV at hpv
    cases hkd : x.kind with
    | pure =>
      rw [hkd] at hpv
      obtain ⟨v', hd, hvr⟩ := hpv γ w a.eval hops
      exact done w v' hd (fin γ w v' (GSub.refl _) I.rel hvr hmk I.mv)
    | reads =>
      rw [hkd] at hpv
      obtain ⟨Hs, h1, h2⟩ := hpv
      obtain ⟨v', hd, hvr⟩ := h1 B w0 H.tr.get γ w a.eval h2 I.rel hops
      exact done w v' hd (fin γ w v' (GSub.refl _) I.rel hvr hmk I.mv)
    | makes =>
      rw [hkd] at hpv
      obtain ⟨blk, h1, h2, h3, h4, h5⟩ := hpv
      have hfree : ∀ g, γ (idOf x.i) g = none := fun g => by
        cases hg : γ (idOf x.i) g with
        | none => rfl
        | some k => exact absurd h3 (I.rel.dom _ _ _ hg).2.1
      obtain ⟨w', v', r, hd, hgrow, hB, hvr⟩ := h1 γ w a.eval hfree I.rel.low hops
      have hsub := setG_sub (r := r) (hfree 0) I.rel.low
      have hlt : idOf x.i < H.next := by
        rcases Nat.lt_or_ge (idOf x.i) H.next with k | k
        · exact k
        · have := I.fresh _ k; rw [h2] at this; cases this
      refine done w' v' hd (fin _ w' v' hsub ?_ hvr (fun y hy hyx hyk => ?_) ?_)
      · refine I.rel.step (b := idOf x.i) (fun j _ => rfl) h2 hB (fun j hj g => setG_other γ hj g) hsub (by rw [setG_same]; simp) (fun j g k _ hk => ?_) (fun g k hk => ?_) (fun g k hk _ => ?_) (hgrow.below.mono I.rel.base)
        · exact hgrow.below.block _ (I.rel.dom _ _ _ hk).2.2
        · by_cases hg : g = 0
          · subst hg; rw [setG_same] at hk; obtain rfl := Option.some.inj hk; exact .inl ⟨Nat.le_refl _, by rw [hgrow.size]; omega⟩
          · rw [setG_gen _ hg, hfree] at hk; cases hk
        · by_cases hg : g = 0
          · subst hg; rw [setG_same] at hk; obtain rfl := Option.some.inj hk; exact I.rel.base
          · rw [setG_gen _ hg, hfree] at hk; cases hk
      · have hne : idOf y.i ≠ idOf x.i := fun e => hyx (I.inj y hy x hx hyk ⟨hE, hS, by rw [hkd]; rfl, hw⟩ e)
        rw [setG_other γ hne]
        exact hmk y hy hyx hyk
      · refine ⟨I.mv.sub.trans hsub, fun b hb hb' => ?_, I.mv.le⟩
        by_cases e : b = idOf x.i
        · subst e; exact ⟨h4, hlt⟩
        · rw [setG_other γ e] at hb'; exact I.mv.new b hb hb'
    | acts => rw [hkd] at hpv; exact hpv.elim
end
end Go.AM
end
section
set_option linter.unusedVariables false
set_option linter.unusedSimpArgs false
namespace Go.AM
open Go.RowKit
theorem Rel.wider {B : Nat} {w0 w : World} {G G' : Mem} {γ : Gm} (R : Rel B w0 G γ w) (h : ∀ b, γ b 0 ≠ none → G' b = G b) : Rel B w0 G' γ w :=
  ⟨fun b x hx hb => R.blk b x (by rw [← h b hb]; exact hx) hb,
   fun b g k hk => by obtain ⟨p1, p2, p3⟩ := R.dom b g k hk; exact ⟨by rw [h b p2]; exact p1, p2, p3⟩, R.inj,
   fun b x g k hx hr hk => R.own b x g k (by rw [← h b (R.dom b g k hk).2.1]; exact hx) hr hk, R.below, R.base⟩
theorem alloc_get (H : Heap) (blk : Blk) (b : Nat) : (H.alloc blk).tr.get b = if H.next = b then some blk else H.tr.get b := Tr.get_set _ _ _ _
theorem alloc_fresh {H : Heap} (h : Fresh H) (blk : Blk) : Fresh (H.alloc blk) := fun b hb => by
  have hb' : H.next + 1 ≤ b := hb
  rw [alloc_get, if_neg (by omega)]; exact h b (by omega)
theorem New.up {n m m' : Nat} {γ γ' : Gm} (h : New n m γ γ') (hm : m ≤ m') : New n m' γ γ' := fun b h1 h2 => by
  have := h b h1 h2; omega
theorem Mv.up {γ γ' : Gm} {n m m' : Nat} (h : Mv γ n γ' m) (hm : m ≤ m') : Mv γ n γ' m' := ⟨h.sub, h.new.up hm, Nat.le_trans h.le hm⟩
section
variable {P : Program} {callF : CallF} {ops : Array Oper} {L : List Item} (C : Ctx P ops L) {nt : Nat} {T0 T2 : Tr Value} {n0 : Nat} {γ0 : Gm} {B : Nat} {w0 : World} {Q : Exit → Act → World → Prop}
  {E : Nat → Prop} {S : Array Bool} {idOf : Nat → Nat} {T : Tr Value} {D : List Deferred} {H : Heap} {γ : Gm} {a : Act} {w : World}
include C
theorem Inv.slE_put (I : Inv P ops L nt T0 T2 n0 γ0 B w0 E S idOf T D H γ a w) {x : Item} (hx : x ∈ L) {E' : Nat → Prop} (hX : ∀ j, E' j ↔ E j ∨ j = x.i) {T' : Tr Value} {v : Value} (hput : PutR nt T x.o.dst v T')
    (hfin : ∀ d, x.o.dst = some d → ev T2 (.tmp d) = v) : SlotP L E' (fun t => ev T' (.tmp t) = ev T0 (.tmp t)) (fun t => ev T' (.tmp t) = ev T2 (.tmp t)) :=
  I.slE.add C hx hX (fun t ht h => by rw [hput.eval.1 t ht]; exact h) (fun t ht h => by rw [hput.eval.1 t ht]; exact h) (fun t ht => by rw [hput.eval.2 t ht, hfin t ht])
/-- what is light is carried out in the plan alone -/
theorem adv_step (I : Inv P ops L nt T0 T2 n0 γ0 B w0 E S idOf T D H γ a w) {x : Item} (hx : x ∈ L) (hE : ¬ E x.i) (hr : ∀ j, tb x.anc j = true → E j) (hl : isActs x.kind = false)
    {v : Value} {D' : List Deferred} {H' : Heap} {T' : Tr Value} (hs : AStep P callF ops x.o T D H v D' H') (hput : PutR nt T x.o.dst v T') (hfin : ∀ d, x.o.dst = some d → ev T2 (.tmp d) = v) :
    ∃ idOf', Inv P ops L nt T0 T2 n0 γ0 B w0 (fun j => E j ∨ j = x.i) S idOf' T' D' H' γ a w := by
  have hX : ∀ j, (fun j => E j ∨ j = x.i) j ↔ E j ∨ j = x.i := fun j => Iff.rfl
  have hSx : ¬ Sl S x.i := fun h => hE (I.sub _ h)
  have hdlt : ∀ d, x.o.dst = some d → d < nt := fun d hd => by
    rcases hput with ⟨h, _⟩ | ⟨t, h, hlt, _⟩
    · rw [h] at hd; cases hd
    · rw [h] at hd; cases hd; exact hlt
  have hw := I.wantE C hx hr
  have henv : EnvOk L T0 T2 x T := env_of_slots C hx hE I.clE hr I.slE
  -- the two ways at once
  have key : ∀ (idOf' : Nat → Nat), D' = D → (∀ b y, H.tr.get b = some y → H'.tr.get b = some y) → (∀ b, b < H.next → H'.tr.get b = H.tr.get b) → Fresh H' → H.next ≤ H'.next →
      (∀ y ∈ L, y.i ≠ x.i → idOf' y.i = idOf y.i) → Pend P ops L nt T0 T2 n0 (idOf' x.i) H' γ x → (isMakes x.kind = true → wantT ops T2 x.o = true → idOf' x.i = H.next) →
      Inv P ops L nt T0 T2 n0 γ0 B w0 (fun j => E j ∨ j = x.i) S idOf' T' D' H' γ a w := fun idOf' hD hget hlow hf hle hid hpx hpm => by
    have lt_of : ∀ y ∈ L, (E y.i ∧ ¬ Sl S y.i ∧ isMakes y.kind = true ∧ wantT ops T2 y.o = true) → idOf y.i < H.next := fun y hy ⟨k1, k2, k3, k4⟩ => by
      obtain ⟨Tx, v, _, _, h3⟩ := (I.pend y hy k1 k2).on k4
      obtain ⟨_, _, h, _⟩ := h3.makes k3
      rcases Nat.lt_or_ge (idOf y.i) H.next with k | k
      · exact k
      · have := I.fresh _ k; rw [h] at this; cases this
    refine ⟨I.sz, fun j hj => .inl (I.sub j hj), I.clE.add C hx hX hr, I.clS, I.slE_put C hx hX hput hfin, I.slS, fun y hy hyE hyS => ?_, fun y hy z hz h1 h2 e => ?_, I.tsz, by rw [hD]; exact I.defs, hf, ?_, I.mv.up hle⟩
    · by_cases e : y.i = x.i
      · obtain rfl := C.same hy hx e; exact hpx
      · have hyE' : E y.i := hyE.resolve_right e
        have hp := I.pend y hy hyE' hyS
        rw [hid y hy e]
        refine ⟨hp.light, hp.dlt, hp.off, fun hw => ?_⟩
        obtain ⟨Tx, v, h1, h2, h3⟩ := hp.on hw
        refine ⟨Tx, v, h1, h2, h3.turn hget fun hk => ?_⟩
        obtain ⟨_, _, _, h, _⟩ := h3.makes hk
        exact h
    · by_cases e1 : y.i = x.i
      · by_cases e2 : z.i = x.i
        · rw [e1, e2]
        · obtain rfl := C.same hy hx e1
          have hz' := lt_of z hz ⟨h2.1.resolve_right e2, h2.2⟩
          rw [hpm h1.2.2.1 h1.2.2.2, hid z hz e2] at e; omega
      · by_cases e2 : z.i = x.i
        · obtain rfl := C.same hz hx e2
          have hy' := lt_of y hy ⟨h1.1.resolve_right e1, h1.2⟩
          rw [hpm h2.2.2.1 h2.2.2.2, hid y hy e1] at e; omega
        · rw [hid y hy e1, hid z hz e2] at e
          exact I.inj y hy z hz ⟨h1.1.resolve_right e1, h1.2⟩ ⟨h2.1.resolve_right e2, h2.2⟩ e
    · refine I.rel.wider fun b hb => hlow b ?_
      rcases Nat.lt_or_ge b H.next with k | k
      · exact k
      · cases hg : γ b 0 with
        | none => exact absurd hg hb
        | some j => obtain ⟨⟨y, hy⟩, _⟩ := I.rel.dom _ _ _ hg; rw [I.fresh b k] at hy; cases hy
  cases hs with
  | skip h =>
    rw [hw] at h
    exact ⟨idOf, key idOf rfl (fun _ _ k => k) (fun _ _ => rfl) I.fresh (Nat.le_refl _) (fun _ _ _ => rfl) ⟨hl, hdlt, fun _ => hfin, fun k => by rw [k] at h; cases h⟩ fun _ k => by rw [k] at h; cases h⟩
  | run h hv =>
    rw [hw] at h
    have hkd : isActs (kindOf P x.o.op) = false := by rw [← C.kind x hx]; exact hl
    obtain ⟨hD, hA⟩ := light_val hkd hv
    have hko := opA_ok hA
    rw [← C.kind x hx] at hko
    cases hk : x.kind with
    | pure =>
      rw [hk] at hko
      obtain ⟨rfl, hp⟩ := hko
      exact ⟨idOf, key idOf hD (fun _ _ k => k) (fun _ _ => rfl) I.fresh (Nat.le_refl _) (fun _ _ _ => rfl) ⟨hl, hdlt, (fun k => by rw [h] at k; cases k), fun _ => ⟨T, v, henv, hfin, by unfold PendV; rw [hk]; exact hp⟩⟩ fun k => by rw [hk] at k; cases k⟩
    | reads =>
      rw [hk] at hko
      obtain ⟨rfl, hp⟩ := hko
      exact ⟨idOf, key idOf hD (fun _ _ k => k) (fun _ _ => rfl) I.fresh (Nat.le_refl _) (fun _ _ _ => rfl) ⟨hl, hdlt, (fun k => by rw [h] at k; cases k), fun _ => ⟨T, v, henv, hfin, by unfold PendV; rw [hk]; exact ⟨H', hp, fun _ _ k => k⟩⟩⟩ fun k => by rw [hk] at k; cases k⟩
    | makes =>
      rw [hk] at hko
      obtain ⟨blk, rfl, hp⟩ := hko
      have hb := made_blk hA (by rw [← C.kind x hx, hk]; rfl)
      have hlow : ∀ b, b < H.next → (H.alloc blk).tr.get b = H.tr.get b := fun b hb => by rw [alloc_get, if_neg (by omega)]
      have hgn : γ H.next 0 = none := by
        cases hg : γ H.next 0 with
        | none => rfl
        | some j => obtain ⟨⟨y, hy⟩, _⟩ := I.rel.dom _ _ _ hg; rw [I.fresh _ (Nat.le_refl _)] at hy; cases hy
      refine ⟨fun j => if j = x.i then H.next else idOf j, key _ hD (fun b y k => ?_) hlow (alloc_fresh I.fresh blk) (Nat.le_succ _) (fun y _ hyx => if_neg hyx) ⟨hl, hdlt, (fun k => by rw [h] at k; cases k), fun _ => ⟨T, v, henv, hfin, ?_⟩⟩ fun _ _ => if_pos rfl⟩
      · rw [alloc_get]
        by_cases e : H.next = b
        · subst e; rw [I.fresh _ (Nat.le_refl _)] at k; cases k
        · rw [if_neg e]; exact k
      · unfold PendV; rw [hk]
        simp only [if_true]
        exact ⟨blk, hp, by rw [alloc_get, if_pos rfl], hgn, I.mv.le, hb⟩
    | acts => rw [hk] at hl; cases hl
/-- what acts comes up in both -/
theorem act_step (hc : CallOkF P callF) (hok : ∀ x ∈ L, allL okX x.o.op.operands.toList = true) (I : Inv P ops L nt T0 T2 n0 γ0 B w0 E S idOf T D H γ a w) {x : Item} (hx : x ∈ L) (hE : ¬ E x.i) (hr : ∀ j, tb x.anc j = true → Sl S j)
    {v : Value} {D' : List Deferred} {H' : Heap} {T' : Tr Value} (hs : AStep P callF ops x.o T D H v D' H') (hput : PutR nt T x.o.dst v T') (hfin : ∀ d, x.o.dst = some d → ev T2 (.tmp d) = v)
    (hag : ∀ r ∈ L, E r.i → tb x.anc r.i = false → (isReads r.kind = true → readAgain P ops T' H' r = true) ∧ (isMakes r.kind = true → keptAgain ops T' H H' r = true)) {K : Act → World → Prop}
    (hk : ∀ γ' a' w', Inv P ops L nt T0 T2 n0 γ0 B w0 (fun j => E j ∨ j = x.i) (S.setIfInBounds x.i true) idOf T' D' H' γ' a' w' → K a' w') : wpOp P ops Q x.i K a w := by
  have hrE : ∀ j, tb x.anc j = true → E j := fun j hj => I.sub j (hr j hj)
  have hSx : ¬ Sl S x.i := fun h => hE (I.sub _ h)
  have hX : ∀ j, (fun j => E j ∨ j = x.i) j ↔ E j ∨ j = x.i := fun j => Iff.rfl
  have hXS := Sl_set (l := S) (i := x.i) (by rw [I.sz]; exact ix_lt C hx)
  have hdlt : ∀ d, x.o.dst = some d → d < nt := fun d hd => by
    rcases hput with ⟨h, _⟩ | ⟨t, h, hlt, _⟩
    · rw [h] at hd; cases hd
    · rw [h] at hd; cases hd; exact hlt
  have hwE := I.wantE C hx hrE
  have slE' := I.slE_put C hx hX hput hfin
  have fin : ∀ γ' (a1 : Act) w' v', a1.tmps = a.tmps → DR γ' D' a1.defers → Mv γ H.next γ' H'.next → Rel B w0 H'.tr.get γ' w' → Fresh H' → VR γ' v v' → K (a1.put x.o.dst v') w' := fun γ' a1 w' v' ht hD hmv hR hf hv => by
    have hev : ∀ t, a1.eval (.tmp t) = a.eval (.tmp t) := fun t => by simp [Act.eval, ht]
    refine hk γ' _ w' ⟨by simpa using I.sz, fun j hj => ?_, I.clE.add C hx hX hrE, I.clS.add C hx hXS hr, slE', I.slS.add C hx hXS (fun t htt h => ?_) (fun t htt h => ?_) (fun t htt => ?_), fun r hrL hrE' hrS => ?_, fun y hy z hz h1 h2 => ?_, ?_, ?_, hf, hR, I.mv.trans hmv⟩
    · exact ((hXS j).1 hj).imp (I.sub j) id
    · rw [(put_eval t).1 htt, hev]; exact h.mono hmv.sub
    · rw [(put_eval t).1 htt, hev]; exact h.mono hmv.sub
    · rw [(put_eval t).2 htt (by rw [ht]; exact Nat.lt_of_lt_of_le (hdlt t htt) I.tsz), hfin t htt]; exact hv
    · have hrS' : ¬ Sl S r.i := fun k => hrS ((hXS _).2 (.inl k))
      have hrx : r.i ≠ x.i := fun k => hrS ((hXS _).2 (.inr k))
      have hE' : E r.i := hrE'.resolve_right hrx
      have hanc : tb x.anc r.i = false := by
        cases h : tb x.anc r.i with
        | false => rfl
        | true => exact absurd (hr _ h) hrS'
      obtain ⟨ag1, ag2⟩ := hag r hrL hE' hanc
      have hp := I.pend r hrL hE' hrS'
      have hrr : ∀ j, tb r.anc j = true → (E j ∨ j = x.i) := fun j hj => .inl (I.clE r hrL hE' j hj)
      have hwr : wantT ops T' r.o = wantT ops T2 r.o := wantT_ev fun j w' q d hg hj hd => by
        obtain ⟨y, hy, hyd, hya⟩ := guard_slot C hrL hg hj hd
        exact slE'.s y hy d hyd (hrr _ hya)
      refine ⟨hp.light, hp.dlt, hp.off, fun hw => ?_⟩
      obtain ⟨Tx, u, h1, h2, h3⟩ := hp.on hw
      rw [hw] at hwr
      cases hkd : r.kind with
      | pure => exact ⟨Tx, u, h1, h2, by unfold PendV at h3 ⊢; rw [hkd] at h3 ⊢; exact h3⟩
      | reads =>
        have hag := ag1 (by rw [hkd]; rfl)
        unfold readAgain at hag
        have hag' : bc (wantT ops T' r.o) (match r.o.dst, opA P (ev T') r.o H' with | some d, .val v _ => sameV 5 v (ev T' (.tmp d)) | _, _ => false) true = true := hag
        rw [hwr, bc_true] at hag'
        split at hag'
        · rename_i d v2 H2' hd hA
          have e := sameV_eq 5 hag'
          have hko := opA_ok hA
          rw [← C.kind r hrL, hkd] at hko
          obtain ⟨rfl, hro⟩ := hko
          refine ⟨T', v2, env_of_reads C hrL (by rw [hkd]; rfl) hrr slE', fun d' hd' => ?_, by unfold PendV; rw [hkd]; exact ⟨H2', hro, fun _ _ k => k⟩⟩
          rw [hd] at hd'; cases hd'
          rw [e]
          exact (slE'.s r hrL d hd (Or.inl hE' : E r.i ∨ r.i = x.i)).symm
        · cases hag'
      | makes =>
        have hag := ag2 (by rw [hkd]; rfl)
        unfold keptAgain at hag
        have hag' : bc (wantT ops T' r.o) (match r.o.dst with | some d => (match blkOf (ev T' (.tmp d)) with | some b => sameB (H.tr.get b) (H'.tr.get b) | none => false) | none => false) true = true := hag
        rw [hwr, bc_true] at hag'
        obtain ⟨blk, m1, m2, m3, m4, m5⟩ := h3.makes (by rw [hkd]; rfl)
        split at hag'
        · rename_i d hd
          split at hag'
          · rename_i b hb
            have e := sameB_eq hag'
            rw [slE'.s r hrL d hd (Or.inl hE' : E r.i ∨ r.i = x.i), h2 d hd, m5] at hb
            cases hb
            rw [m2] at e
            have hgn : γ' (idOf r.i) 0 = none := by
              cases hg : γ' (idOf r.i) 0 with
              | none => rfl
              | some k =>
                have := hmv.new (idOf r.i) m3 (by rw [hg]; simp)
                have h9 := I.fresh _ this.1
                rw [m2] at h9; cases h9
            exact ⟨Tx, u, h1, h2, by unfold PendV; rw [hkd]; exact ⟨blk, m1, e.symm, hgn, m4, m5⟩⟩
          · cases hag'
        · cases hag'
      | acts => unfold PendV at h3; rw [hkd] at h3; exact h3.elim
    · have e1 : y.i ≠ x.i := fun k => h1.2.1 ((hXS _).2 (.inr k))
      have e2 : z.i ≠ x.i := fun k => h2.2.1 ((hXS _).2 (.inr k))
      exact I.inj y hy z hz ⟨h1.1.resolve_right e1, fun k => h1.2.1 ((hXS _).2 (.inl k)), h1.2.2⟩ ⟨h2.1.resolve_right e2, fun k => h2.2.1 ((hXS _).2 (.inl k)), h2.2.2⟩
    · have : a1.tmps.size = a.tmps.size := by rw [ht]
      have h2 := I.tsz
      cases x.o.dst <;> simp [Act.put] <;> omega
    · have : (a1.put x.o.dst v').defers = a1.defers := by cases x.o.dst <;> rfl
      rw [this]; exact hD
  unfold wpOp
  rw [(C.ix x hx).2]
  simp only
  rw [I.wanted C hx hr]
  cases hs with
  | skip h =>
    rw [hwE] at h
    rw [h]
    simp only [Bool.false_eq_true, if_false]
    exact fin γ a w undef rfl I.defs (Mv.refl _ _) I.rel I.fresh (VR.undef γ)
  | run h hv =>
    rw [hwE] at h
    rw [h]
    simp only [if_true]
    left
    have henv : EnvOk L T0 T2 x T := env_of_slots C hx hE I.clE hrE I.slE
    have hops : OpsRel γ x.o (ev T) a.eval := ops_of_env C hx hSx I.clS hr I.slS henv (hok x hx)
    exact act_wp hc hv I.fresh I.rel hops I.defs fin
end
end Go.AM
end
section
set_option linter.unusedVariables false
set_option linter.unusedSimpArgs false
namespace Go.AM
open Go.RowKit
/-! ### stores that may come up in any order -/
structure HEq' (H H' : Heap) : Prop where
  get : ∀ b, H.tr.get b = H'.tr.get b
  next : H.next = H'.next
theorem HEq'.refl (H : Heap) : HEq' H H := ⟨fun _ => rfl, rfl⟩
theorem HEq'.trans {a b c : Heap} (h : HEq' a b) (k : HEq' b c) : HEq' a c := ⟨fun x => (h.get x).trans (k.get x), h.next.trans k.next⟩
theorem HEq'.symm {a b : Heap} (h : HEq' a b) : HEq' b a := ⟨fun x => (h.get x).symm, h.next.symm⟩
theorem HEq'.cblk {a b : Heap} (h : HEq' a b) (x : Nat) : a.cblk x = b.cblk x := by unfold Heap.cblk; rw [h.get]
theorem setC_get (H : Heap) (b : Nat) (c : CBlk) (j : Nat) : (H.setC b c).tr.get j = if b = j then some (.cells c) else H.tr.get j := Tr.get_set _ _ _ _
theorem HEq'.setC {a b : Heap} (h : HEq' a b) (x : Nat) (c : CBlk) : HEq' (a.setC x c) (b.setC x c) :=
  ⟨fun j => by rw [setC_get, setC_get, h.get], h.next⟩
theorem setC_comm (H : Heap) {x y : Nat} (h : x ≠ y) (c d : CBlk) : HEq' ((H.setC x c).setC y d) ((H.setC y d).setC x c) := by
  refine ⟨fun j => ?_, rfl⟩
  rw [setC_get, setC_get, setC_get, setC_get]
  by_cases e : y = j
  · subst e; rw [if_pos rfl, if_neg h, if_pos rfl]
  · rw [if_neg e, if_neg e]
theorem cblk_setC (H : Heap) {x y : Nat} (h : x ≠ y) (c : CBlk) : (H.setC x c).cblk y = H.cblk y := by
  unfold Heap.cblk; rw [setC_get, if_neg h]
/-- a store: of one block alone -/
theorem store_one {P : Program} {T : Tr Value} {x : Item} (hx : isStore x = true) {H H' : Heap} {v : Value} (h : opA P (ev T) x.o H = .val v H') :
    v = undef ∧ ∃ b c c', tailBlk T x = some b ∧ H.cblk b = some c ∧ H' = H.setC b c' ∧ ∀ Hx : Heap, Hx.cblk b = some c → opA P (ev T) x.o Hx = .val undef (Hx.setC b c') := by
  obtain ⟨⟨dst, op, ty, pos, after, guard⟩, i, anc, kind⟩ := x
  cases op with
  | store t p q =>
    have h' : opStore P t H (ev T p) (ev T q) = .val v H' := h
    unfold opStore ofAddr at h'
    split at h'
    · rename_i a ha
      split at h'
      · rename_i n hn
        simp only [bc_eq] at h'
        split at h'
        · rename_i hl
          split at h'
          · rename_i H1 hw
            cases h'
            unfold Heap.wr at hw
            cases hc : H.cblk a.block with
            | none => rw [hc] at hw; cases hw
            | some c =>
              rw [hc] at hw
              simp only [bc_eq] at hw
              split at hw
              · rename_i hcond
                cases hw
                refine ⟨rfl, a.block, c, _, ?_, hc, rfl, fun Hx hcx => ?_⟩
                · show (match (Op.store t p q) with | .store _ p _ => blkOf (ev T p) | _ => none) = some a.block
                  simp only [ha, blkOf]
                · show opStore P t Hx (ev T p) (ev T q) = _
                  unfold opStore ofAddr
                  rw [ha]
                  simp only [hn, bc_eq, hl, if_true]
                  unfold Heap.wr
                  rw [hcx]
                  simp only [bc_eq, hcond, if_true]
              · cases hw
          · cases h'
        · cases h'
      · cases h'
    · cases h'
  | _ => cases hx
theorem isStore_form {P : Program} {x : Item} (hx : isStore x = true) : x.o.dst = none ∧ x.o.guard = none ∧ isActs (kindOf P x.o.op) = true := by
  obtain ⟨⟨dst, op, ty, pos, after, guard⟩, i, anc, kind⟩ := x
  cases op with
  | store t p q =>
    cases dst with
    | none => cases guard with
      | none => exact ⟨rfl, rfl, rfl⟩
      | some g => cases hx
    | some d => cases hx
  | _ => cases hx
inductive StRun (P : Program) (T : Tr Value) : List Item → Heap → Heap → Prop where
  | nil (H : Heap) : StRun P T [] H H
  | cons {x : Item} {l : List Item} {H H1 H2 : Heap} (h : opA P (ev T) x.o H = .val undef H1) (t : StRun P T l H1 H2) : StRun P T (x :: l) H H2
theorem StRun.eq {P : Program} {T : Tr Value} : ∀ {l : List Item} {H H2 Hx : Heap}, (∀ x ∈ l, isStore x = true) → StRun P T l H H2 → HEq' H Hx → ∃ H2x, StRun P T l Hx H2x ∧ HEq' H2 H2x
  | [], H, H2, Hx, _, h, he => by cases h; exact ⟨Hx, .nil _, he⟩
  | x :: l, H, H2, Hx, hs, h, he => by
    cases h with
    | cons h t =>
      obtain ⟨_, b, c, c', h1, h2, rfl, h4⟩ := store_one (hs x (by simp)) h
      have h5 := h4 Hx (by rw [← he.cblk]; exact h2)
      obtain ⟨H2x, k1, k2⟩ := StRun.eq (fun y hy => hs y (by simp [hy])) t (he.setC b c')
      exact ⟨H2x, .cons h5 k1, k2⟩
/-- any of them may be the first -/
theorem StRun.first {P : Program} {T : Tr Value} {x : Item} : ∀ {l1 l2 : List Item} {H H2 : Heap}, (∀ y ∈ l1 ++ x :: l2, isStore y = true) → (∀ y ∈ l1, neqB (tailBlk T y) (tailBlk T x) = true) → StRun P T (l1 ++ x :: l2) H H2 →
    ∃ H1 H2', opA P (ev T) x.o H = .val undef H1 ∧ StRun P T (l1 ++ l2) H1 H2' ∧ HEq' H2' H2
  | [], l2, H, H2, hs, hn, h => by
    cases h with
    | cons h t => exact ⟨_, _, h, t, HEq'.refl _⟩
  | y :: l1, l2, H, H2, hs, hn, h => by
    cases h with
    | cons hy t =>
      rename_i Hy
      obtain ⟨H1, H2', k1, k2, k3⟩ := StRun.first (fun z hz => hs z (by simp at hz ⊢; rcases hz with h | h | h <;> simp [h])) (fun z hz => hn z (by simp [hz])) t
      obtain ⟨_, b, c, c', h1, h2, e1, h4⟩ := store_one (hs y (by simp)) hy
      obtain ⟨_, b', d, d', g1, g2, e2, g4⟩ := store_one (hs x (by simp)) k1
      have hne : b ≠ b' := by
        have := hn y (by simp)
        rw [h1, g1] at this
        simp only [neqB, Bool.not_eq_true'] at this
        intro e; subst e; simp at this
      subst e1 e2
      rw [cblk_setC H hne] at g2
      have x1 := g4 H g2
      have y1 := h4 (H.setC b' d') (by rw [cblk_setC H (Ne.symm hne)]; exact h2)
      have he : HEq' ((H.setC b c').setC b' d') ((H.setC b' d').setC b c') := setC_comm H hne c' d'
      obtain ⟨H2x, m1, m2⟩ := StRun.eq (fun z hz => hs z (by simp at hz ⊢; rcases hz with h | h <;> simp [h])) k2 he
      exact ⟨_, H2x, x1, .cons y1 m1, m2.symm.trans k3⟩
section
variable {P : Program} {callF : CallF} {ops : Array Oper} {nt : Nat}
theorem plainP_cons (x : Item) (l : List Item) : plainP (x :: l) = ⟨x, [], []⟩ :: plainP l := rfl
theorem tail_run : ∀ {l : List Item} {T : Tr Value} {D : List Deferred} {H : Heap} {e : AExit} {T2 : Tr Value} {D2 : List Deferred} {H2 : Heap}, (∀ x ∈ l, isStore x = true) → drawSeq P callF ops nt (plainP l) T D H = .ok e T2 D2 H2 →
    e = .normal ∧ T2 = T ∧ D2 = D ∧ StRun P T l H H2
  | [], T, D, H, e, T2, D2, H2, _, h => by cases h; exact ⟨rfl, rfl, rfl, .nil _⟩
  | x :: l, T, D, H, e, T2, D2, H2, hs, h => by
    rw [plainP_cons] at h
    obtain ⟨v, D', H', T', h1, h2, _, _, h3⟩ := drawSeq_inv h
    obtain ⟨f1, f2, f3⟩ := isStore_form (P := P) (hs x (by simp))
    have hT : T' = T := by
      rcases h2 with ⟨_, h⟩ | ⟨t, h, _⟩
      · exact h
      · have h' : x.o.dst = some t := h
        rw [f1] at h'; cases h'
    cases h1 with
    | skip h => unfold wantT at h; rw [f2] at h; cases h
    | run hw hv =>
      cases hv with
      | val hA =>
        obtain ⟨rfl, _⟩ := store_one (hs x (by simp)) hA
        obtain ⟨k1, k2, k3, k4⟩ := tail_run (fun y hy => hs y (by simp [hy])) h3
        subst hT
        exact ⟨k1, k2, k3, .cons hA k4⟩
      | call hA hc =>
        obtain ⟨fx, xs, ts, first, cap, hop, _⟩ := opA_call hA
        have := hs x (by simp)
        unfold isStore at this
        rw [hop] at this; cases this
      | dfr hA =>
        obtain ⟨c, fx, g, first, cap, hop, _⟩ := opA_dfr hA
        have := hs x (by simp)
        unfold isStore at this
        rw [hop] at this; cases this
theorem distinctT_ok {T : Tr Value} : ∀ {l : List Item}, distinctT T l = true → l.Pairwise (fun x y => neqB (tailBlk T x) (tailBlk T y) = true)
  | [], _ => .nil
  | x :: l, h => by
    have h' : bc (allL (fun y => neqB (tailBlk T x) (tailBlk T y)) l) (distinctT T l) false = true := h
    rw [bc_eq] at h'
    split at h'
    · rename_i ha
      rw [allL_eq] at ha
      exact .cons (List.all_eq_true.1 ha) (distinctT_ok h')
    · cases h'
end
/-! ### what the plan's form says -/
theorem MainOk.all {L : List Item} : ∀ {m : List PItem} {E : Nat → Prop} {last : Option Nat} {tail : List Item}, MainOk L E last m tail → ∀ y ∈ L, E y.i ∨ (∃ p ∈ m, p.it.i = y.i) ∨ ∃ z ∈ tail, z.i = y.i
  | [], E, last, tail, h, y, hy => (TailOk.all h y hy).imp id .inr
  | p :: m, E, last, tail, h, y, hy => by
    rcases MainOk.all h.2 y hy with (k | k) | ⟨q, hq, e⟩ | k
    · exact .inl k
    · exact .inr (.inl ⟨p, by simp, k.symm⟩)
    · exact .inr (.inl ⟨q, by simp [hq], e⟩)
    · exact .inr (.inr k)
theorem MainOk.mem {L : List Item} : ∀ {m : List PItem} {E : Nat → Prop} {last : Option Nat} {tail : List Item}, MainOk L E last m tail → (∀ p ∈ m, p.it ∈ L ∧ ¬ E p.it.i) ∧ ∀ z ∈ tail, z ∈ L ∧ ¬ E z.i ∧ isStore z = true
  | [], E, last, tail, h => ⟨fun p hp => by simp at hp, fun z hz => by obtain ⟨a, b, _, _, e, _⟩ := TailOk.mem h z hz; exact ⟨a, e, b⟩⟩
  | p :: m, E, last, tail, h => by
    obtain ⟨h1, h2⟩ := MainOk.mem h.2
    refine ⟨fun q hq => ?_, fun z hz => ?_⟩
    · rcases List.mem_cons.1 hq with rfl | hq
      · exact ⟨h.1.1, h.1.2.2.2.1⟩
      · exact ⟨(h1 q hq).1, fun k => (h1 q hq).2 (.inl k)⟩
    · obtain ⟨a, b, c⟩ := h2 z hz
      exact ⟨a, fun k => b (.inl k), c⟩
theorem MainOk.chain {L : List Item} {E0 : Nat → Prop} : ∀ {m : List PItem} {E : Nat → Prop} {k : Nat} {tail : List Item}, MainOk L E (some k) m tail → ¬ E0 k → (∀ j, E0 j → E j) → ∀ y, (∃ p ∈ m, p.it = y) ∨ y ∈ tail → ∃ k', tb y.anc k' = true ∧ ¬ E0 k'
  | [], E, k, tail, h, hk, hE, y, hy => by
    rcases hy with ⟨p, hp, _⟩ | hy
    · simp at hp
    · obtain ⟨_, _, c, _⟩ := TailOk.mem h y hy
      exact ⟨k, c, hk⟩
  | p :: m, E, k, tail, h, hk, hE, y, hy => by
    obtain ⟨⟨h1, h2, h3, h4, h5⟩, h6⟩ := h
    by_cases e : p.it = y
    · subst e; exact ⟨k, h2, hk⟩
    · have hy' : (∃ q ∈ m, q.it = y) ∨ y ∈ tail := by
        rcases hy with ⟨q, hq, e'⟩ | hy
        · rcases List.mem_cons.1 hq with rfl | hq
          · exact absurd e' e
          · exact .inl ⟨q, hq, e'⟩
        · exact .inr hy
      by_cases ha : isActs p.it.kind = true
      · rw [if_pos ha] at h6
        exact MainOk.chain h6 (fun k => h4 (hE _ k)) (fun j hj => .inl (hE j hj)) y hy'
      · rw [if_neg ha] at h6
        exact MainOk.chain h6 hk (fun j hj => .inl (hE j hj)) y hy'
end Go.AM
end
section
set_option linter.unusedVariables false
set_option linter.unusedSimpArgs false
namespace Go.AM
open Go.RowKit
theorem binds_any (e : Edge) : Region.binds .any e = bindsA e := by
  obtain ⟨on, g⟩ := e
  cases g <;> rfl
theorem Sl_false {S : Array Bool} {i : Nat} (h : S.getD i true = false) : ¬ Sl S i := by
  unfold Sl
  intro k
  rcases Nat.lt_or_ge i S.size with hlt | hge
  · simp [hlt] at h k; rw [h] at k; cases k
  · simp [hge] at h
theorem Sl_not {S : Array Bool} {i : Nat} (hi : i < S.size) (h : ¬ Sl S i) : S.getD i true = false := by
  unfold Sl at h
  simp [hi] at h ⊢; exact h
theorem count_set {S : Array Bool} {i : Nat} (hi : i < S.size) (h : ¬ Sl S i) : (S.setIfInBounds i true).toList.count true = S.toList.count true + 1 := by
  have h' := Sl_not hi h
  rw [Array.toList_setIfInBounds, List.count_set (by simpa using hi)]
  have : S.toList[i]'(by simpa using hi) = false := by simpa [hi] using h'
  rw [this]; simp
theorem count_full {S : Array Bool} (h : S.toList.count true = S.size) (i : Nat) (hi : i < S.size) : Sl S i := by
  have h2 : S.toList.count true = S.toList.length := by simpa using h
  have h3 := List.count_eq_length.1 h2
  unfold Sl
  simp [hi]
  exact (h3 S[i] (by simp)).symm
section
variable {P : Program} {callF : CallF} {ops : Array Oper} {L : List Item} (C : Ctx P ops L) {nt : Nat} {T0 T2 : Tr Value} {n0 : Nat} {γ0 : Gm} {B : Nat} {w0 : World} {Q : Exit → Act → World → Prop}
include C
theorem full_of_ready {S : Array Bool} (hsz : S.size = ops.size) (hr : Region.ready .any ops S = []) : ∀ i, i < ops.size → Sl S i := by
  intro i
  induction i using Nat.strongRecOn with
  | ind i ih =>
    intro hi
    by_cases h : Sl S i
    · exact h
    · have hio : ops[i]? = some ops[i] := by simp [hi]
      obtain ⟨x, hx1, hx2, hx3⟩ := C.at_ i ops[i] hio
      have hx : x ∈ L := List.mem_of_getElem? hx1
      have : i ∈ Region.ready .any ops S := mem_ready.2 ⟨Sl_not (by omega) h, ops[i], hio, fun e he hb => by
        rw [binds_any] at hb
        have h1 := (C.anc x hx).a1 e (by rw [hx2]; simpa using he) hb
        have h2 := (C.anc x hx).a3 _ h1
        exact ih e.on (by omega) (by omega)⟩
      rw [hr] at this; cases this
theorem ready_anc {S : Array Bool} (hcl : Closed L (Sl S)) {x : Item} (hx : x ∈ L) (h : ∀ e ∈ x.o.after, Region.binds .any e = true → S.getD e.on false = true) : ∀ j, tb x.anc j = true → Sl S j := fun j hj => by
  obtain ⟨e, he, hb, k⟩ := (C.anc x hx).a2 j hj
  have hon : Sl S e.on := h e (by simpa using he) (by rw [binds_any]; exact hb)
  rcases k with rfl | ⟨y, hy, hyj⟩
  · exact hon
  · have hyL : y ∈ L := List.mem_of_getElem? hy
    have e2 : y.i = e.on := by
      have h1 := (C.ix y hyL).1
      have hlt : e.on < ops.size := by rw [← C.len]; exact (List.getElem?_eq_some_iff.1 hy).1
      obtain ⟨z, z1, z2, z3⟩ := C.at_ e.on ops[e.on] (by simp [hlt])
      rw [hy] at z1; obtain rfl := Option.some.inj z1
      exact z3
    exact hcl y hyL (by rw [e2]; exact hon) j hyj
theorem fin_of {m : List PItem} {E : Nat → Prop} {last : Option Nat} {tail : List Item} {p : PItem} (hm : MainOk L E last (p :: m) tail) {T' : Tr Value} {v : Value} {T : Tr Value} (hput : PutR nt T p.it.o.dst v T')
    {D' D2 : List Deferred} {H' H1 : Heap} {e : AExit} (h : drawSeq P callF ops nt m T' D' H' = .ok e T2 D2 H1) : ∀ d, p.it.o.dst = some d → ev T2 (.tmp d) = v := fun d hd => by
  rw [drawSeq_keeps m h d fun q hq hqd => ?_]
  · exact hput.eval.2 d hd
  · obtain ⟨h1, h2⟩ := (MainOk.mem hm.2).1 q hq
    have := C.uq _ h1 _ hm.1.1 d hqd hd
    exact h2 (.inr (by rw [this]))
theorem advance {D2 : List Deferred} {H1 : Heap} {S : Array Bool} {γ : Gm} {a : Act} {w : World} {tail : List Item} : ∀ (m : List PItem) {E : Nat → Prop} {idOf : Nat → Nat} {T : Tr Value} {D : List Deferred} {H : Heap} {last : Option Nat},
    Inv P ops L nt T0 T2 n0 γ0 B w0 E S idOf T D H γ a w → MainOk L E last m tail → drawSeq P callF ops nt m T D H = .ok .normal T2 D2 H1 →
    ∃ E' idOf' T' D' H' m' last', Inv P ops L nt T0 T2 n0 γ0 B w0 E' S idOf' T' D' H' γ a w ∧ MainOk L E' last' m' tail ∧ drawSeq P callF ops nt m' T' D' H' = .ok .normal T2 D2 H1 ∧ (m' = [] ∨ ∃ p l, m' = p :: l ∧ isActs p.it.kind = true)
  | [], E, idOf, T, D, H, last, I, hm, h => ⟨E, idOf, T, D, H, [], last, I, hm, h, .inl rfl⟩
  | p :: m, E, idOf, T, D, H, last, I, hm, h => by
    by_cases ha : isActs p.it.kind = true
    · exact ⟨E, idOf, T, D, H, p :: m, last, I, hm, h, .inr ⟨p, m, rfl, ha⟩⟩
    · obtain ⟨v, D', H', T', h1, h2, _, _, h3⟩ := drawSeq_inv h
      obtain ⟨⟨k1, k2, k3, k4, k5⟩, k6⟩ := hm
      obtain ⟨idOf', I'⟩ := adv_step C I k1 k4 k3 (by simpa using ha) h1 h2 (fin_of C (m := m) (p := p) (E := E) (last := last) (tail := tail) ⟨⟨k1, k2, k3, k4, k5⟩, k6⟩ h2 h3)
      exact advance m I' k6 h3
theorem draw_any (hc : CallOkF P callF) (hok : ∀ x ∈ L, allL okX x.o.op.operands.toList = true) {D2 : List Deferred} {H2 : Heap}
    (hQ : ∀ γ' a' w', Mv γ0 n0 γ' H2.next → St B w0 nt T2 D2 H2 γ' a' w' → Q .normal a' w') : ∀ (fuel : Nat) {E : Nat → Prop} {S : Array Bool} {idOf : Nat → Nat} {T : Tr Value} {D : List Deferred} {H : Heap} {γ : Gm} {a : Act} {w : World} {m : List PItem} {tail : List Item} {last : Option Nat} {H1 Hf : Heap},
    Inv P ops L nt T0 T2 n0 γ0 B w0 E S idOf T D H γ a w → MainOk L E last m tail → drawSeq P callF ops nt m T D H = .ok .normal T2 D2 H1 → tail.Pairwise (fun x y => neqB (tailBlk T2 x) (tailBlk T2 y) = true) → StRun P T2 tail H1 Hf → HEq' Hf H2 →
    fuel + S.toList.count true = ops.size → wpAny P .any ops Q fuel S a w := by
  -- all have come up
  have stop : ∀ {E : Nat → Prop} {S : Array Bool} {idOf : Nat → Nat} {T : Tr Value} {D : List Deferred} {H : Heap} {γ : Gm} {a : Act} {w : World} {m : List PItem} {tail : List Item} {last : Option Nat} {H1 Hf : Heap},
      Inv P ops L nt T0 T2 n0 γ0 B w0 E S idOf T D H γ a w → MainOk L E last m tail → drawSeq P callF ops nt m T D H = .ok .normal T2 D2 H1 → StRun P T2 tail H1 Hf → HEq' Hf H2 → (∀ i, i < ops.size → Sl S i) → Q .normal a w := by
    intro E S idOf T D H γ a w m tail last H1 Hf I hm h ht he hall
    have hE : ∀ x ∈ L, E x.i := fun x hx => I.sub _ (hall _ (ix_lt C hx))
    obtain ⟨m1, m2⟩ := MainOk.mem hm
    have hm0 : m = [] := by
      cases m with
      | nil => rfl
      | cons p l => obtain ⟨k1, k2⟩ := m1 p (by simp); exact absurd (hE _ k1) k2
    have ht0 : tail = [] := by
      cases tail with
      | nil => rfl
      | cons p l => obtain ⟨k1, k2, _⟩ := m2 p (by simp); exact absurd (hE _ k1) k2
    subst hm0 ht0
    cases h
    cases ht
    have hg : Heap.tr H = Heap.tr H := rfl
    have hmem : H.tr.get = H2.tr.get := funext he.get
    refine hQ γ a w (by rw [← he.next]; exact I.mv) ⟨fun b hb => by rw [← he.get]; exact I.fresh b (by rw [he.next]; exact hb), by rw [← hmem]; exact I.rel, ⟨fun t => ?_, I.tsz, I.defs⟩⟩
    by_cases hw : ∃ y ∈ L, y.o.dst = some t
    · obtain ⟨y, hy, hyt⟩ := hw
      exact I.slS.s y hy t hyt (hall _ (ix_lt C hy))
    · have h1 := I.slS.z t fun y hy hyt => absurd ⟨y, hy, hyt⟩ hw
      have h2 := I.slE.z t fun y hy hyt => absurd ⟨y, hy, hyt⟩ hw
      rw [h2]; exact h1
  intro fuel
  induction fuel with
  | zero =>
    intro E S idOf T D H γ a w m tail last H1 Hf I hm h hp ht he hcnt
    have hall : ∀ i, i < ops.size → Sl S i := fun i hi => count_full (by rw [I.sz]; omega) i (by rw [I.sz]; exact hi)
    refine ⟨?_, stop I hm h ht he hall⟩
    refine List.eq_nil_iff_forall_not_mem.2 fun i hi => ?_
    obtain ⟨h0, o, ho, _⟩ := mem_ready.1 hi
    exact Sl_false h0 (hall i (Array.getElem?_eq_some_iff.1 ho).1)
  | succ fuel ih =>
    intro E S idOf T D H γ a w m tail last H1 Hf I hm h hp ht he hcnt
    obtain ⟨E, idOf, T, D, H, m, last, I, hm, h, hhead⟩ := advance C m I hm h
    refine ⟨fun hr => stop I hm h ht he (full_of_ready C I.sz hr), fun i hi => ?_⟩
    obtain ⟨h0, o, ho, hall⟩ := mem_ready.1 hi
    obtain ⟨x, hx1, hx2, hx3⟩ := C.at_ i o ho
    have hx : x ∈ L := List.mem_of_getElem? hx1
    subst hx2
    subst hx3
    have hS : ¬ Sl S x.i := Sl_false h0
    have hlt : x.i < S.size := by rw [I.sz]; exact ix_lt C hx
    have hanc := ready_anc C I.clS hx hall
    have hcnt' : fuel + (S.setIfInBounds x.i true).toList.count true = ops.size := by rw [count_set hlt hS]; omega
    by_cases hE : E x.i
    · exact light_step C hok I hx hE hS hanc fun γ' a' w' I' => ih I' hm h hp ht he hcnt'
    · have hwhere := (MainOk.all hm x hx).resolve_left hE
      rcases hhead with rfl | ⟨p, l, rfl, ha⟩
      · -- behind all else
        have hxt : x ∈ tail := by
          rcases hwhere with ⟨q, hq, _⟩ | ⟨z, hz, e⟩
          · simp at hq
          · obtain ⟨k1, _⟩ := (MainOk.mem hm).2 z hz
            obtain rfl := C.same k1 hx e
            exact hz
        cases h
        obtain ⟨l1, l2, rfl⟩ := List.append_of_mem hxt
        have hst : ∀ y ∈ l1 ++ x :: l2, isStore y = true := fun y hy => ((MainOk.mem hm).2 y hy).2.2
        have hp' := List.pairwise_append.1 hp
        obtain ⟨Hx, Hf', k1, k2, k3⟩ := StRun.first hst (fun y hy => hp'.2.2 y hy x (by simp)) ht
        obtain ⟨f1, f2, f3⟩ := isStore_form (P := P) (hst x (by simp))
        have hT : TailOk L E last (l1 ++ x :: l2) := hm
        refine act_step C hc hok I hx hE hanc (v := undef) (D' := D2) (H' := Hx) (T' := T2) (.run (by unfold wantT; rw [f2]) (.val k1)) (.inl ⟨f1, rfl⟩) (fun d hd => by rw [f1] at hd; cases hd) (fun r hr hrE hra => ?_) fun γ' a' w' I' => ?_
        · obtain ⟨_, _, _, _, _, k⟩ := hT.mem x (by simp)
          refine ⟨fun hk => ?_, fun hk => ?_⟩
          · rw [k r hr (by simp [hk])] at hra; cases hra
          · rw [k r hr (by simp [hk])] at hra; cases hra
        · have hm' : MainOk L (fun j => E j ∨ j = x.i) last [] (l1 ++ l2) := by
            have hpn := List.pairwise_append.1 hT.nd
            refine ⟨fun y hy => ?_, ?_, fun y hy => ?_⟩
            · have hy' : y ∈ l1 ++ x :: l2 := by simp at hy ⊢; rcases hy with h | h <;> simp [h]
              obtain ⟨a1, a2, a3, a4, a5, a6⟩ := hT.mem y hy'
              refine ⟨a1, a2, a3, fun j hj => .inl (a4 j hj), fun k => ?_, a6⟩
              rcases k with k | k
              · exact a5 k
              · rcases List.mem_append.1 hy with hy | hy
                · exact hpn.2.2 y hy x (by simp) k
                · exact (List.pairwise_cons.1 hpn.2.1).1 y hy k.symm
            · refine List.pairwise_append.2 ⟨hpn.1, (List.pairwise_cons.1 hpn.2.1).2, fun y hy z hz => hpn.2.2 y hy z (by simp [hz])⟩
            · rcases hT.all y hy with k | ⟨z, hz, e⟩
              · exact .inl (.inl k)
              · by_cases e2 : z = x
                · subst e2; exact .inl (.inr e.symm)
                · refine .inr ⟨z, ?_, e⟩
                  simp at hz ⊢
                  rcases hz with h | h | h
                  · exact .inl h
                  · exact absurd h e2
                  · exact .inr h
          have hpp : (l1 ++ l2).Pairwise (fun x y => neqB (tailBlk T2 x) (tailBlk T2 y) = true) :=
            List.pairwise_append.2 ⟨hp'.1, (List.pairwise_cons.1 hp'.2.1).2, fun y hy z hz => hp'.2.2 y hy z (by simp [hz])⟩
          exact ih I' hm' rfl hpp k2 (k3.trans he) hcnt'
      · -- the next that acts
        obtain ⟨⟨k1, k2, k3, k4, k5⟩, k6⟩ := hm
        have hxp : x = p.it := by
          by_cases e : x = p.it
          · exact e
          · exfalso
            rw [if_pos ha] at k6
            have hy : (∃ q ∈ l, q.it = x) ∨ x ∈ tail := by
              have hmm : MainOk L E last (p :: l) tail := ⟨⟨k1, k2, k3, k4, k5⟩, by rw [if_pos ha]; exact k6⟩
              rcases hwhere with ⟨q, hq, e'⟩ | ⟨z, hz, e'⟩
              · obtain ⟨q1, _⟩ := (MainOk.mem hmm).1 q hq
                have e2 := C.same q1 hx e'
                rcases List.mem_cons.1 hq with rfl | hq
                · exact absurd e2.symm e
                · exact .inl ⟨q, hq, e2⟩
              · obtain ⟨z1, _⟩ := (MainOk.mem hmm).2 z hz
                obtain rfl := C.same z1 hx e'
                exact .inr hz
            obtain ⟨k', c1, c2⟩ := MainOk.chain (E0 := E) k6 k4 (fun j hj => .inl hj) x hy
            exact c2 (I.sub _ (hanc _ c1))
        subst hxp
        obtain ⟨v, D', H', T', h1, h2, ag1, ag2, h3⟩ := drawSeq_inv h
        have hfin := fin_of C (m := l) (p := p) (E := E) (last := last) (tail := tail) ⟨⟨k1, k2, k3, k4, k5⟩, k6⟩ h2 h3
        refine act_step C hc hok I k1 k4 hanc h1 h2 hfin (fun r hr hrE hra => ?_) fun γ' a' w' I' => ih I' k6 h3 hp ht he hcnt'
        obtain ⟨g1, g2⟩ := k5 ha r hr hrE hra
        exact ⟨fun hk => ag1 r (g1 hk), fun hk => ag2 r (g2 hk)⟩
end
theorem drawSeq_normal {P : Program} {callF : CallF} {ops : Array Oper} {nt : Nat} : ∀ {l : List PItem} {T : Tr Value} {D : List Deferred} {H : Heap} {e : AExit} {T2 : Tr Value} {D2 : List Deferred} {H2 : Heap}, drawSeq P callF ops nt l T D H = .ok e T2 D2 H2 → e = .normal
  | [], T, D, H, e, T2, D2, H2, h => by cases h; rfl
  | x :: l, T, D, H, e, T2, D2, H2, h => by
    obtain ⟨v, D', H', T', _, _, _, _, h3⟩ := drawSeq_inv h
    exact drawSeq_normal h3
/-- Regions that draw their order are sound. -/
theorem draw_ok {P : Program} (hm : P.follows .mixedOrders = true) {callF : CallF} (hc : CallOkF P callF) : DrawOkF P callF := by
  intro B w0 nt id ops T D H e T2 D2 H2 hok h γ a w Q hst hQ
  unfold drawOps at h
  cases hp : plan P ops with
  | none => rw [hp] at h; cases h
  | some p =>
    rw [hp] at h
    have h' : runPlan P callF ops nt p T D H = .ok e T2 D2 H2 := h
    unfold runPlan at h'
    obtain ⟨L, C, hmain⟩ := plan_ok hp
    rcases onNormal_ok h' with ⟨T1, D1, H1, h1, h2⟩ | ⟨hn, h1⟩
    · rw [bc_eq] at h2
      split at h2
      · rename_i hd
        have hst' : ∀ y ∈ p.tail, isStore y = true := fun y hy => ((MainOk.mem hmain).2 y hy).2.2
        obtain ⟨rfl, rfl, rfl, hrun⟩ := tail_run hst' h2
        have hokL : ∀ x ∈ L, allL okX x.o.op.operands.toList = true := fun x hx => by
          unfold okOps at hok
          rw [allL_eq] at hok
          exact List.all_eq_true.1 hok x.o (by simpa using Array.mem_of_getElem? (C.ix x hx).2)
        have no : ∀ j, ¬ Sl (Array.replicate ops.size false) j := fun j hj => by
          unfold Sl at hj
          rcases Nat.lt_or_ge j ops.size with k | k
          · simp [k] at hj
          · simp [k] at hj
        refine wp_region_any hm (draw_any (T0 := T) (n0 := H.next) (γ0 := γ) (B := B) (w0 := w0) C hc hokL (fun γ' a' w' hmv hs => hQ γ' a' w' rfl hmv hs) ops.size (E := fun _ => False) (idOf := fun _ => 0) (γ := γ)
          ⟨by simp, fun j hj => (no j hj).elim, fun x _ h => h.elim, fun x _ h => (no _ h).elim, ⟨fun t _ => rfl, fun x _ t _ h => h.elim⟩, ⟨fun t _ => hst.acr.eval t, fun x _ t _ h => (no _ h).elim⟩, fun x _ h => h.elim, fun x _ y _ h => h.1.elim, hst.acr.size, hst.acr.defs, hst.fresh, ?_, Mv.refl _ _⟩
          hmain h1 (distinctT_ok hd) hrun (HEq'.refl _) (by rw [Array.toList_replicate, List.count_replicate]; simp))
        exact ⟨fun b x hx hb => BRel.kept (w := w) (GSub.refl _) (fun _ => rfl) (fun _ _ _ => rfl) (hst.rel.blk b x hx hb), hst.rel.dom, hst.rel.inj, hst.rel.own, ⟨hst.rel.below.os, hst.rel.below.tape, hst.rel.below.output, hst.rel.below.size, hst.rel.below.block⟩, hst.rel.base⟩
      · cases h2
    · exact absurd (drawSeq_normal h1) hn
end Go.AM
end
section
set_option linter.unusedVariables false
namespace Go.AM
open Go.RowKit
noncomputable section
def tru : Value → Bool | .bool b => b | _ => false
/-- does a closed call answer true? -/
def okCall (P : Program) (n f m : Nat) : Bool :=
  @Option.rec (Value × Heap) (fun _ => Bool) false (fun q => tru q.1) ((both P n).call f [] ⟨.nil, m⟩)
/-- A closed call that the machine carries out. -/
theorem closed_true {P : Program} (hm : P.follows .mixedOrders = true) {f : FuncId} {fn : Func} {c : Code} {m n : Nat} (hf : P.funcs[f]? = some fn) (hb : fn.body = some c) (hn : okName fn = true)
    (h : okCall P n f m = true) (w : World) : Calls P f #[] w fun e w' => e = .returned (.bool true) ∧ Below w.heap.size w w' := by
  unfold okCall at h
  cases hc : (both P n).call f [] ⟨.nil, m⟩ with
  | none => rw [hc] at h; cases h
  | some q =>
    rw [hc] at h
    obtain ⟨v, H'⟩ := q
    have h' : tru v = true := h
    have hv : v = .bool true := by
      cases v with
      | bool b => cases b with
        | true => rfl
        | false => cases h'
      | _ => cases h'
    subst hv
    refine Calls.mono (closed_ok (fun _ hc => draw_ok hm hc) hf hb hn hc rfl w) fun e w' he => ?_
    cases e with
    | returned v' => exact ⟨by rw [he.1], he.2⟩
    | panicked c => exact he.elim
    | outgrown => exact he.elim
end
end Go.AM
end
