/- A pair laid first into a class's own dictionary: the plain law. -/
import Derived.Test.YtgdobomofdenfaaLkChain
namespace Go.Proofs.Ytgdobomofdenfaa.Lk
open Go.RowKit Go.Proofs.YtgdobomofdenfaaW.PrintWords
set_option linter.unusedVariables false
set_option linter.unusedSimpArgs false

theorem at_inj {v u : Int} (hv : atB v = true) (hu : atB u = true) (h : atI v = atI u) : v = u := by
  unfold atB at hv hu
  have hv := of_decide_eq_true hv
  have hu := of_decide_eq_true hu
  unfold atI at h
  rw [if_pos hv, if_pos hu] at h
  omega
theorem ref_inj2 {n : Nat} {v u : Int} (hv : 0 ≤ refI n v) (h : refI n v = refI n u) : v = u := by
  obtain ⟨a1, _, a3⟩ := refI_at hv
  obtain ⟨b1, _, b3⟩ := refI_at (h ▸ hv : 0 ≤ refI n u)
  exact at_inj a1 b1 (by omega)
theorem at_two {v : Int} (hv : atB v = true) : v = 2 * atI v := by
  have h := of_decide_eq_true hv
  unfold atI
  rw [if_pos h]
  omega
/-- The heap with a pair laid first into an object's slots. -/
def laid (l : List Ob) (i : Nat) (x y : Int) : List Ob := l.set i { ob l i with slots := x :: y :: (ob l i).slots }
section
variable {l : List Ob} {d x y : Int}
theorem laid_len (i : Nat) : (laid l i x y).length = l.length := List.length_set ..
theorem laid_far {i j : Nat} (h : j ≠ i) : ob (laid l i x y) j = ob l j := by
  unfold ob laid
  rw [List.getD_eq_getElem?_getD, List.getElem?_set_ne (Ne.symm h), ← List.getD_eq_getElem?_getD]
theorem laid_at {i : Nat} (h : i < l.length) : ob (laid l i x y) i = { ob l i with slots := x :: y :: (ob l i).slots } := by
  unfold ob laid
  rw [List.getD_eq_getElem?_getD, List.getElem?_set_self h]
  rfl
theorem laid_ref (v : Int) (i : Nat) : refI (laid l i x y).length v = refI l.length v := by rw [laid_len]
theorem laid_kind (i j : Nat) : (ob (laid l i x y) j).kind = (ob l j).kind := by
  by_cases h : j = i
  · subst h
    by_cases hl : j < l.length
    · rw [laid_at hl]
    · unfold ob laid
      rw [List.set_eq_of_length_le (by omega)]
  · rw [laid_far h]
theorem laid_pairs (v : Int) (i : Nat) : pairsB (laid l i x y) v = pairsB l v := by
  unfold pairsB obv
  rw [laid_ref, laid_kind]
theorem laid_obv {v : Int} {i : Nat} (h : refI l.length v ≠ i) (h0 : 0 ≤ refI l.length v) : obv (laid l i x y) v = obv l v := by
  unfold obv
  rw [laid_ref, laid_far (by omega)]
theorem laid_class {v : Int} {i : Nat} (h : refI l.length v ≠ i) : classB (laid l i x y) v = classB l v := by
  unfold classB
  rw [decide_eq_decide]
  unfold classP
  rw [laid_ref]
  by_cases h0 : 0 ≤ refI l.length v
  · rw [laid_obv h h0]
    simp only [laid_ref, laid_pairs]
  · constructor <;> intro k <;> exact absurd k.1 h0
end
section
variable {l : List Ob} {c d x y : Int}
/-- What the statement's guards say. -/
structure LaysP (l : List Ob) (c d x y : Int) : Prop where
  cls : classB l c = true
  dic : dictI l c = d
  nz : d ≠ 0
  ref : 0 ≤ refI l.length d
  out : ∀ i : Nat, 1 ≤ i → i < l.length → classB l (2 * i) = true → ((2 * (i : Int) ≠ c → dictI l (2 * i) ≠ d) ∧ 2 * (i : Int) ≠ d)
  no : classB (laid l (refI l.length d).toNat x y) d = false
theorem LaysP.one (k : LaysP l c d x y) : 1 ≤ refI l.length d := by
  obtain ⟨a1, _, a3⟩ := refI_at k.ref
  have := at_two a1
  have := k.nz
  have := k.ref
  omega
theorem ref_two {v : Int} (h : 0 ≤ refI l.length v) : v = 2 * refI l.length v := by
  obtain ⟨a1, _, a3⟩ := refI_at h
  rw [a3]
  exact at_two a1
theorem LaysP.not (k : LaysP l c d x y) : classB l d = false := by
  cases h : classB l d with
  | false => rfl
  | true =>
    have h1 := k.one
    have h2 := refI_bd l.length d
    have e : (2 * ((refI l.length d).toNat : Int)) = d := by have := ref_two k.ref; omega
    exact absurd e (k.out (refI l.length d).toNat (by omega) (by omega) (by rw [e]; exact h)).2
theorem LaysP.same (k : LaysP l c d x y) (v : Int) : classB (laid l (refI l.length d).toNat x y) v = classB l v := by
  by_cases h : refI l.length v = ((refI l.length d).toNat : Int)
  · have h1 := k.ref
    obtain rfl : v = d := ref_inj2 (n := l.length) (by omega) (by omega)
    rw [k.no, k.not]
  · exact laid_class h
theorem LaysP.ne (k : LaysP l c d x y) {v : Int} (h : classB l v = true) : refI l.length v ≠ ((refI l.length d).toNat : Int) := by
  intro e
  have h1 := k.ref
  obtain rfl : v = d := ref_inj2 (n := l.length) (by omega) (by omega)
  rw [k.not] at h
  cases h
theorem LaysP.sup (k : LaysP l c d x y) {v : Int} (h : classB l v = true) : superI (laid l (refI l.length d).toNat x y) v = superI l v ∧ dictI (laid l (refI l.length d).toNat x y) v = dictI l v := by
  unfold superI dictI
  rw [laid_obv (k.ne h) (class_facts h).1]
  exact ⟨rfl, rfl⟩
theorem LaysP.up (k : LaysP l c d x y) : ∀ (n : Nat) (v : Int), upL (laid l (refI l.length d).toNat x y) n v = upL l n v
  | 0, _ => rfl
  | n + 1, v => by
    cases h : classB l v with
    | false => rw [upL_not n h, upL_not n (by rw [k.same]; exact h)]
    | true =>
      rw [upL_class n h, upL_class n (by rw [k.same]; exact h), (k.sup h).1]
      split
      · rfl
      · rw [k.up n]
theorem up_mem2 : ∀ (n : Nat) (v a : Int), (a, true) ∈ upL l n v → classB l a = true ∧ (a = v ∨ atI a ≠ 0)
  | 0, _, _, h => by cases h
  | n + 1, v, a, h => by
    cases hc : classB l v with
    | false =>
      rw [upL_not n hc] at h
      rcases List.mem_cons.1 h with h | h
      · injection h with _ h; cases h
      · cases h
    | true =>
      rw [upL_class n hc] at h
      rcases List.mem_cons.1 h with h | h
      · injection h with h _
        subst h
        exact ⟨hc, .inl rfl⟩
      · split at h
        · cases h
        · rename_i hz
          obtain ⟨h1, h2⟩ := up_mem2 n _ a h
          refine ⟨h1, .inr ?_⟩
          rcases h2 with rfl | h2
          · exact hz
          · exact h2
theorem LaysP.list (k : LaysP l c d x y) : pairsL (laid l (refI l.length d).toNat x y) d = x :: y :: pairsL l d := by
  have h1 := k.one
  have hk : pairsB l d = true := by
    have := (of_decide_eq_true k.cls).2.2.2.2.1
    rwa [show (obv l c).slots.getD 1 0 = d from k.dic] at this
  have h2 := refI_bd l.length d
  have hkind := of_decide_eq_true hk
  have hkd : (obv l d).kind = 0 := by rcases hkind with h | h; omega; exact h.2
  have hkd' : (obv (laid l (refI l.length d).toNat x y) d).kind = 0 := by unfold obv at hkd ⊢; rw [laid_ref, laid_kind]; exact hkd
  have e1 : pairsL (laid l (refI l.length d).toNat x y) d = (obv (laid l (refI l.length d).toNat x y) d).slots := by
    unfold pairsL; rw [laid_ref, if_neg (by omega), if_pos ⟨k.ref, hkd'⟩]
  have e2 : pairsL l d = (obv l d).slots := by
    unfold pairsL; rw [if_neg (by omega), if_pos ⟨k.ref, hkd⟩]
  rw [e1, e2]
  unfold obv
  rw [laid_ref, laid_at (by omega)]
theorem LaysP.far (k : LaysP l c d x y) {e : Int} (he : e ≠ d) : pairsL (laid l (refI l.length d).toNat x y) e = pairsL l e := by
  by_cases h0 : 0 ≤ refI l.length e
  · unfold pairsL
    rw [laid_ref]
    have hne : refI l.length e ≠ ((refI l.length d).toNat : Int) := by
      intro h
      have h1 := k.ref
      exact he (ref_inj2 (n := l.length) h0 (by omega))
    rw [laid_obv hne h0]
  · have e1 : pairsL (laid l (refI l.length d).toNat x y) e = [] := by
      unfold pairsL; rw [laid_ref, if_neg (by omega), if_neg (fun h => h0 h.1)]
    have e2 : pairsL l e = [] := by
      unfold pairsL; rw [if_neg (by omega), if_neg (fun h => h0 h.1)]
    rw [e1, e2]
theorem look_skip {xs : List Int} {sel : Int} (h : sel ≠ x) : lookP (x :: y :: xs) sel = lookP xs sel := by
  have := lookP_on (xs := x :: y :: xs) (sel := sel) (k := 0) (by simp) (by simpa using Ne.symm h)
  simpa using this
theorem look_first {xs : List Int} : lookP (x :: y :: xs) x = some y := by
  have := lookP_here (xs := x :: y :: xs) (sel := x) (k := 0) (by simp) (by simp)
  simpa using this
theorem find_cong {l' : List Ob} {sel : Int} : ∀ (r : List (Int × Bool)), (∀ a, (a, true) ∈ r → lookP (pairsL l' (dictI l' a)) sel = lookP (pairsL l (dictI l a)) sel) → findL l' sel r = findL l sel r
  | [], _ => rfl
  | (a, false) :: r, _ => rfl
  | (a, true) :: r, h => by
    have h1 := h a (.head _)
    have h2 := find_cong r (fun b hb => h b (.tail _ hb))
    cases hl : lookP (pairsL l (dictI l a)) sel with
    | none => rw [findL_none r hl, findL_none r (h1.trans hl), h2]
    | some v => rw [findL_some r hl, findL_some r (h1.trans hl)]
theorem LaysP.look (k : LaysP l c d x y) {sel a : Int} (hs : sel ≠ x) {n : Nat} (h : (a, true) ∈ upL l n c) : lookP (pairsL (laid l (refI l.length d).toNat x y) (dictI (laid l (refI l.length d).toNat x y) a)) sel = lookP (pairsL l (dictI l a)) sel := by
  obtain ⟨hc, ha⟩ := up_mem2 n c a h
  rw [(k.sup hc).2]
  by_cases hac : a = c
  · subst hac
    rw [k.dic, k.list, look_skip hs]
  · have hr := (class_facts hc).1
    obtain ⟨b1, b2, b3⟩ := refI_at hr
    have hat : atI a ≠ 0 := by rcases ha with h | h; exact absurd h hac; exact h
    have hnn := atI_nonneg a
    have e : (2 * ((refI l.length a).toNat : Int)) = a := by have := ref_two hr; omega
    have := (k.out (refI l.length a).toNat (by omega) (by omega) (by rw [e]; exact hc)).1 (by rw [e]; exact hac)
    rw [e] at this
    rw [k.far this]
theorem LaysP.find (k : LaysP l c d x y) {sel : Int} (hs : sel ≠ x) : findL (laid l (refI l.length d).toNat x y) sel (upL (laid l (refI l.length d).toNat x y) 64 c) = findL l sel (upL l 64 c) := by
  rw [k.up]
  exact find_cong _ (fun a ha => k.look hs ha)
theorem LaysP.found (k : LaysP l c d x y) : findL (laid l (refI l.length d).toNat x y) x (upL (laid l (refI l.length d).toNat x y) 64 c) = (y, c, 0) := by
  rw [k.up, upL_class 63 k.cls]
  exact findL_some _ (by rw [(k.sup k.cls).2, k.dic, k.list]; exact look_first)
end
theorem laid_may {h : Hp} {i : Nat} {x y : Int} (hm : mayB h = true) (hi : i < h.objs.length) (hk : (ob h.objs i).kind = 0) (hl : (ob h.objs i).slots.length ≤ 60) (hx : hasB h.objs.length x = true) (hy : hasB h.objs.length y = true) : mayB ⟨laid h.objs i x y, h.cap, h.last⟩ = true := by
  have ho := may_obj hm i hi
  have hm' := hm
  unfold mayB at hm ⊢
  rw [Bool.and_eq_true] at hm ⊢
  obtain ⟨h1, h2⟩ := hm
  constructor
  · show objsB (laid h.objs i x y).length (laid h.objs i x y) = true
    rw [laid_len]
    unfold objsB at h1 ⊢
    rw [List.all_eq_true] at h1 ⊢
    intro o ho'
    rcases List.mem_or_eq_of_mem_set ho' with h3 | rfl
    · exact h1 o h3
    · unfold objB at ho ⊢
      rw [Bool.and_eq_true, Bool.and_eq_true] at ho ⊢
      obtain ⟨⟨s1, s2⟩, s3⟩ := ho
      refine ⟨⟨?_, ?_⟩, ?_⟩
      · unfold slotsB at s1 ⊢
        simp only [List.all_cons, hx, hy, s1, Bool.and_true]
      · unfold kindB at s2 ⊢
        have s2 := of_decide_eq_true s2
        refine decide_eq_true ⟨s2.1, s2.2.1, fun h => absurd hk h, s2.2.2.2.1, s2.2.2.2.2⟩
      · unfold restB at s3 ⊢
        simp only [Bool.and_eq_true, decide_eq_true_eq] at s3 ⊢
        exact ⟨⟨⟨⟨s3.1.1.1.1, s3.1.1.1.2⟩, by simp only [List.length_cons]; omega⟩, s3.1.2⟩, s3.2⟩
  · show (decide (capP ⟨laid h.objs i x y, h.cap, h.last⟩) && hashB h.last) = true
    have : (capP ⟨laid h.objs i x y, h.cap, h.last⟩) = capP h := by unfold capP; rw [laid_len]
    rw [decide_eq_decide.2 (Iff.of_eq this)]
    exact h2
end Go.Proofs.Ytgdobomofdenfaa.Lk
