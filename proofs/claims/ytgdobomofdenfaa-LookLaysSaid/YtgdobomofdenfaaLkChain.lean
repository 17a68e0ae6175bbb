/- The chain of classes above a class: plain. -/
import Derived.Test.YtgdobomofdenfaaLkHidesA
namespace Go.Proofs.Ytgdobomofdenfaa.Lk
open Go.Proofs.YtgdobomofdenfaaW.PrintWords
set_option linter.unusedVariables false
set_option linter.unusedSimpArgs false

/-- The next class above a class, if there is one. -/
def above (l : List Ob) (c : Int) : Option Int := if atI (superI l c) = 0 then none else if classB l (superI l c) = true then some (superI l c) else none
/-- The class so many steps above. -/
def chainL (l : List Ob) (c : Int) : Nat → Option Int
  | 0 => if classB l c = true then some c else none
  | k + 1 => (chainL l c k).bind (above l)
theorem chain_class {l : List Ob} {c d : Int} : ∀ {k : Nat}, chainL l c k = some d → classB l d = true
  | 0, h => by
    unfold chainL at h
    split at h
    · injection h with h; subst h; assumption
    · cases h
  | k + 1, h => by
    unfold chainL at h
    obtain ⟨x, _, hx⟩ := Option.bind_eq_some_iff.1 h
    unfold above at hx
    split at hx
    · cases hx
    · split at hx
      · injection hx with hx; subst hx; assumption
      · cases hx
theorem chain_down {l : List Ob} {c d : Int} {k : Nat} (h : chainL l c (k + 1) = some d) : ∃ x, chainL l c k = some x := by
  unfold chainL at h
  obtain ⟨x, hx, _⟩ := Option.bind_eq_some_iff.1 h
  exact ⟨x, hx⟩
theorem chain_add {l : List Ob} {a b : Int} {i : Nat} (h : chainL l a i = some b) : ∀ j, chainL l a (i + j) = chainL l b j
  | 0 => by
    rw [Nat.add_zero, h]
    unfold chainL
    rw [if_pos (chain_class h)]
  | j + 1 => by
    rw [← Nat.add_assoc]
    show (chainL l a (i + j)).bind (above l) = (chainL l b j).bind (above l)
    rw [chain_add h j]
theorem chain_before {l : List Ob} {c d : Int} {k : Nat} (h : chainL l c k = some d) : ∀ i, i ≤ k → ∃ x, chainL l c i = some x := by
  induction k generalizing d with
  | zero =>
    intro i hi
    obtain rfl : i = 0 := by omega
    exact ⟨d, h⟩
  | succ k ih =>
    intro i hi
    by_cases he : i = k + 1
    · subst he; exact ⟨d, h⟩
    · obtain ⟨x, hx⟩ := chain_down h
      exact ih hx i (by omega)
/-- A step from a class. -/
theorem chain_succ {l : List Ob} {c : Int} (hc : classB l c = true) (k : Nat) : chainL l c (k + 1) = if atI (superI l c) = 0 then none else chainL l (superI l c) k := by
  have h0 : chainL l c 0 = some c := if_pos hc
  by_cases hs : atI (superI l c) = 0
  · rw [if_pos hs]
    induction k with
    | zero => show (chainL l c 0).bind (above l) = none; rw [h0]; show above l c = none; unfold above; rw [if_pos hs]
    | succ k ih => show (chainL l c (k + 1)).bind (above l) = none; rw [ih]; rfl
  · rw [if_neg hs]
    induction k with
    | zero =>
      show (chainL l c 0).bind (above l) = _
      rw [h0]
      show above l c = _
      unfold above
      rw [if_neg hs]
      rfl
    | succ k ih => show (chainL l c (k + 1)).bind (above l) = _; rw [ih]; rfl

/-- What is yielded, by the chain. -/
theorem up_mem {l : List Ob} {d : Int} : ∀ {k : Nat} {c : Int}, (d, true) ∈ upL l k c ↔ ∃ i, i < k ∧ chainL l c i = some d
  | 0, c => by
    constructor
    · intro h; cases h
    · rintro ⟨i, hi, _⟩; omega
  | k + 1, c => by
    cases hc : classB l c with
    | false =>
      rw [upL_not k hc]
      constructor
      · intro h
        rcases List.mem_singleton.1 h with h
        injection h with _ h; cases h
      · rintro ⟨i, _, h⟩
        obtain ⟨x, hx⟩ := chain_before h 0 (by omega)
        unfold chainL at hx
        rw [hc] at hx
        cases hx
    | true =>
      rw [upL_class k hc, List.mem_cons]
      constructor
      · rintro (h | h)
        · injection h with h _
          subst h
          exact ⟨0, by omega, if_pos hc⟩
        · split at h
          · cases h
          · rename_i hs
            obtain ⟨i, hi, h⟩ := up_mem.1 h
            exact ⟨i + 1, by omega, by rw [chain_succ hc, if_neg hs]; exact h⟩
      · rintro ⟨i, hi, h⟩
        cases i with
        | zero =>
          unfold chainL at h
          rw [if_pos hc] at h
          injection h with h
          subst h
          exact .inl rfl
        | succ i =>
          rw [chain_succ hc] at h
          split at h
          · cases h
          · rename_i hs
            rw [if_neg hs]
            exact .inr (up_mem.2 ⟨i, by omega, h⟩)
theorem under_iff {h : Hp} {c d : Int} (hm : mayB h = true) : underB h c d = true ↔ ∃ i, i < 64 ∧ chainL h.objs c i = some d := by
  unfold underB
  rw [hm, Bool.true_and, List.any_eq_true, ← up_mem]
  constructor
  · rintro ⟨⟨a, b⟩, hx, he⟩
    simp only [Bool.and_eq_true, beq_iff_eq] at he
    obtain ⟨rfl, rfl⟩ := he
    exact hx
  · intro hx
    exact ⟨_, hx, by simp⟩
/-- Something is found where a class on the chain has it. -/
theorem find_iff {l : List Ob} {sel : Int} : ∀ {k : Nat} {c : Int}, (findL l sel (upL l k c)).2.2 = 0 ↔ ∃ i x, i < k ∧ chainL l c i = some x ∧ (lookP (pairsL l (dictI l x)) sel).isSome = true
  | 0, c => by
    constructor
    · intro h; exact absurd (show (91 : Int) = 0 from h) (by decide)
    · rintro ⟨i, x, hi, _⟩; omega
  | k + 1, c => by
    cases hc : classB l c with
    | false =>
      rw [upL_not k hc]
      constructor
      · intro h; exact absurd (show (90 : Int) = 0 from h) (by decide)
      · rintro ⟨i, x, _, h, _⟩
        obtain ⟨y, hy⟩ := chain_before h 0 (by omega)
        unfold chainL at hy
        rw [hc] at hy
        cases hy
    | true =>
      rw [upL_class k hc]
      cases hp : lookP (pairsL l (dictI l c)) sel with
      | some v =>
        rw [findL_some _ hp]
        exact ⟨fun _ => ⟨0, c, by omega, if_pos hc, by rw [hp]; rfl⟩, fun _ => rfl⟩
      | none =>
        rw [findL_none _ hp]
        constructor
        · intro h
          split at h
          · exact absurd (show (91 : Int) = 0 from h) (by decide)
          · rename_i hs
            obtain ⟨i, x, hi, h1, h2⟩ := find_iff.1 h
            exact ⟨i + 1, x, by omega, by rw [chain_succ hc, if_neg hs]; exact h1, h2⟩
        · rintro ⟨i, x, hi, h1, h2⟩
          cases i with
          | zero =>
            unfold chainL at h1
            rw [if_pos hc] at h1
            injection h1 with h1
            subst h1
            rw [hp] at h2
            cases h2
          | succ i =>
            rw [chain_succ hc] at h1
            split at h1
            · cases h1
            · rename_i hs
              rw [if_neg hs]
              exact find_iff.2 ⟨i, x, by omega, h1, h2⟩

/-! Pigeons. -/
theorem pigeon : ∀ (n : Nat) (f : Nat → Nat), (∀ i, i ≤ n → f i < n) → ∃ p q, p < q ∧ q ≤ n ∧ f p = f q
  | 0, f, h => absurd (h 0 (Nat.le_refl _)) (Nat.not_lt_zero _)
  | n + 1, f, h => by
    by_cases hd : ∃ p, p ≤ n ∧ f p = f (n + 1)
    · obtain ⟨p, hp, he⟩ := hd
      exact ⟨p, n + 1, by omega, Nat.le_refl _, he⟩
    · -- what is the last one's place is taken by the greatest
      have hne : ∀ i, i ≤ n → f i ≠ f (n + 1) := fun i hi he => hd ⟨i, hi, he⟩
      obtain ⟨p, q, hpq, hq, he⟩ := pigeon n (fun i => if f i = n then f (n + 1) else f i) (fun i hi => by
        have h1 := h i (by omega)
        have h2 := h (n + 1) (Nat.le_refl _)
        have h3 := hne i hi
        show (if f i = n then f (n + 1) else f i) < n
        split <;> omega)
      refine ⟨p, q, hpq, by omega, ?_⟩
      have h1 := hne p (by omega)
      have h2 := hne q (by omega)
      split at he <;> split at he <;> omega
/-- A class value is told by its object's number. -/
theorem ref_inj {n : Nat} {a b : Int} (ha : 0 ≤ refI n a) (hb : 0 ≤ refI n b) (h : refI n a = refI n b) : a = b := by
  unfold refI at ha hb h
  split at ha
  · split at hb
    · rename_i h1 h2
      rw [if_pos h1, if_pos h2] at h
      have k1 := of_decide_eq_true h1.1
      have k2 := of_decide_eq_true h2.1
      unfold atI at h
      rw [if_pos k1, if_pos k2] at h
      omega
    · omega
  · omega
theorem chain_short {l : List Ob} {c d : Int} (n : Nat) (hn : l.length ≤ n) : ∀ (i : Nat), chainL l c i = some d → ∃ j, j < n ∧ chainL l c j = some d := by
  intro i
  induction i using Nat.strongRecOn with
  | _ i ih =>
    intro h
    by_cases hi : i < n
    · exact ⟨i, hi, h⟩
    · have hb := chain_before h
      obtain ⟨p, q, hpq, hq, he⟩ := pigeon l.length (fun k => (refI l.length ((chainL l c k).getD 0)).toNat) (fun k hk => by
        obtain ⟨x, hx⟩ := hb k (by omega)
        have := class_facts (chain_class hx)
        have h2 := (refI_bd l.length x).2
        show (refI l.length ((chainL l c k).getD 0)).toNat < l.length
        rw [hx]
        show (refI l.length x).toNat < l.length
        omega)
      obtain ⟨x, hx⟩ := hb p (by omega)
      obtain ⟨y, hy⟩ := hb q (by omega)
      have fx := (class_facts (chain_class hx)).1
      have fy := (class_facts (chain_class hy)).1
      rw [hx, hy] at he
      have hxy : x = y := ref_inj fx fy (by simp only [Option.getD_some] at he; omega)
      subst hxy
      obtain ⟨r, rfl⟩ : ∃ r, i = q + r := ⟨i - q, by omega⟩
      rw [chain_add hy r] at h
      refine ih (p + r) (by omega) ?_
      rw [chain_add hx r]
      exact h

theorem under_self {h : Hp} (hm : mayB h = true) (a : Int) : underB h a a = (mayB h && classB h.objs a) := by
  rw [hm, Bool.true_and]
  cases hc : classB h.objs a with
  | true => exact (under_iff hm).2 ⟨0, by omega, if_pos hc⟩
  | false =>
    cases hu : underB h a a with
    | false => rfl
    | true =>
      obtain ⟨i, _, hi⟩ := (under_iff hm).1 hu
      rw [chain_class hi] at hc
      cases hc
theorem under_trans {h : Hp} (hm : mayB h = true) (hn : h.objs.length ≤ 30) {a b c : Int} (h1 : underB h a b = true) (h2 : underB h b c = true) : underB h a c = true := by
  obtain ⟨i, _, hi⟩ := (under_iff hm).1 h1
  obtain ⟨j, _, hj⟩ := (under_iff hm).1 h2
  obtain ⟨i, hi0, hi⟩ := chain_short 30 hn i hi
  obtain ⟨j, hj0, hj⟩ := chain_short 30 hn j hj
  exact (under_iff hm).2 ⟨i + j, by omega, by rw [chain_add hi]; exact hj⟩
theorem under_find {h : Hp} (hm : mayB h = true) (hn : h.objs.length ≤ 30) {a b sel : Int} (h1 : underB h a b = true) (h2 : (findI h b sel).2.2 = 0) : (findI h a sel).2.2 = 0 := by
  unfold findI at *
  rw [if_pos hm] at h2 ⊢
  obtain ⟨i, _, hi⟩ := (under_iff hm).1 h1
  obtain ⟨j, x, _, hj, hx⟩ := find_iff.1 h2
  obtain ⟨i, hi0, hi⟩ := chain_short 30 hn i hi
  obtain ⟨j, hj0, hj⟩ := chain_short 30 hn j hj
  exact find_iff.2 ⟨i + j, x, by omega, by rw [chain_add hi]; exact hj, hx⟩
end Go.Proofs.Ytgdobomofdenfaa.Lk
