/- A cache's Find, all ways; the law's own heap of one class. -/
import Derived.Test.YtgdobomofdenfaaLkCaE
namespace Go.Proofs.Ytgdobomofdenfaa.Lk
open Go.RowKit Go.Proofs.YtgdobomofdenfaaW.PrintWords Go.Shelf
set_option linter.unusedVariables false
set_option linter.unusedSimpArgs false

/-- The entry at a key's place; is it that key's? -/
def enF (l : List En) (c s : Int) : En := l.getD (placeI l.length c s).toNat eZ
def hitB (l : List En) (c s : Int) : Bool := (enF l c s).full && ((enF l c s).cls == c && (enF l c s).sel == s)
/-- What Find tells, and what it leaves. -/
def resF (h : Hp) (c s : Int) (l : List En) : Int × Int × Int := if hitB l c s = true then ((enF l c s).meth, (enF l c s).at_, 0) else findI h c s
def entF (h : Hp) (c s : Int) (l : List En) : List En := if hitB l c s = true then l else if (findI h c s).2.2 = 0 then l.set (placeI l.length c s).toNat ⟨c, s, (findI h c s).1, (findI h c s).2.1, true⟩ else l
def hitF (c s : Int) (l : List En) (n : Int) : Int := if hitB l c s = true then n + 1 else n
def misF (c s : Int) (l : List En) (n : Int) : Int := if hitB l c s = true then n else n + 1
theorem ent_len (h : Hp) (c s : Int) (l : List En) : (entF h c s l).length = l.length := by
  unfold entF
  split
  · rfl
  · split
    · rw [List.length_set]
    · rfl
/-- What a Find leaves behind. -/
def CaPost (tc te gc ge : Nat) (w : World) (r : Int × Int × Int) (l : List En) (hits misses : Int) (e : Ending) (w' : World) : Prop :=
  e = .returned (.tuple #[.int .i64 r.1, .int .i64 r.2.1, .int .i64 r.2.2]) ∧ CaAt tc te gc ge l hits misses w' ∧ Keep2 gc ge w w'

theorem ca_Find {gc ge : Nat} {l : List En} {hits misses : Int} (w : World) (A : Option Addr) (cp : Nat) (h : Hp) (c s : Int) (hbits : bitsOk h.objs) (hl : h.objs.length ≤ cp) (hr : ∀ W', Keep2 gc ge w W' → kOb.C W' A h.objs.length h.objs)
    (hn : 0 < l.length) (hm : l.length ≤ 64) (k : CaAt 73 81 gc ge l hits misses w) (hh : 0 ≤ hits ∧ hits ≤ 1000000) (hh' : 0 ≤ misses ∧ misses ≤ 1000000) :
    Calls Try.prog 25 #[.pointer (some ⟨gc, 0, none⟩), .agg #[.slice A h.objs.length cp, .int .i64 h.cap, .int .i64 h.last], .int .i64 c, .int .i64 s] w
      (CaPost 73 81 gc ge w (resF h c s l) (entF h c s l) (hitF c s l hits) (misF c s l misses)) := by
  obtain ⟨⟨xc, xs, xm, xa, xf⟩, hx⟩ : ∃ x, l.getD (placeI l.length c s).toNat eZ = x := ⟨_, rfl⟩
  have he : enF l c s = ⟨xc, xs, xm, xa, xf⟩ := hx
  obtain ⟨⟨m, a, e'⟩, hf⟩ : ∃ r, findI h c s = r := ⟨_, rfl⟩
  by_cases hh3 : hitB l c s = true
  · have h4 := hh3
    unfold hitB at h4
    rw [he] at h4
    simp only [Bool.and_eq_true, beq_iff_eq] at h4
    obtain ⟨rfl, rfl, rfl⟩ := h4
    have := ca_Find_hit w A cp h xc xs xm xa hl hn hm k hh hx
    unfold CaPost resF entF hitF misF
    rw [if_pos hh3, if_pos hh3, if_pos hh3, if_pos hh3, he]
    exact this
  · have h4 : xf = false ∨ (xf = true ∧ (xc == c) = false) ∨ (xf = true ∧ xc = c ∧ (xs == s) = false) := by
      unfold hitB at hh3
      rw [he] at hh3
      cases xf with
      | false => exact .inl rfl
      | true =>
        cases hc : xc == c with
        | false => exact .inr (.inl ⟨rfl, rfl⟩)
        | true =>
          cases hs : xs == s with
          | false => exact .inr (.inr ⟨rfl, beq_iff_eq.1 hc, rfl⟩)
          | true => simp [hc, hs] at hh3
    unfold CaPost resF entF hitF misF
    rw [if_neg hh3, if_neg hh3, if_neg hh3, if_neg hh3, hf]
    by_cases he0 : e' = 0
    · subst he0
      rw [if_pos rfl]
      rcases h4 with h5 | ⟨h5, h6⟩ | ⟨h5, h6, h7⟩
      · exact ca_miss_0a w A cp h c s xc xs xm xa xf hbits hl hr hn hm k hh' hx h5 m a hf
      · exact ca_miss_1a w A cp h c s xc xs xm xa xf hbits hl hr hn hm k hh' hx h5 h6 m a hf
      · exact ca_miss_2a w A cp h c s xc xs xm xa xf hbits hl hr hn hm k hh' hx h5 h6 h7 m a hf
    · have he1 : (e' == 0) = false := beq_eq_false_iff_ne.2 he0
      rw [if_neg he0]
      rcases h4 with h5 | ⟨h5, h6⟩ | ⟨h5, h6, h7⟩
      · exact ca_miss_0b w A cp h c s xc xs xm xa xf hbits hl hr hn hm k hh' hx h5 m a e' he1 hf
      · exact ca_miss_1b w A cp h c s xc xs xm xa xf hbits hl hr hn hm k hh' hx h5 h6 m a e' he1 hf
      · exact ca_miss_2b w A cp h c s xc xs xm xa xf hbits hl hr hn hm k hh' hx h5 h6 h7 m a e' he1 hf

set_option maxRecDepth 100000 in
set_option maxHeartbeats 1000000 in
/-- At no cache. -/
theorem ca_Find_nil (w : World) (A : Option Addr) (cp : Nat) (h : Hp) (c s : Int) (hbits : bitsOk h.objs) (hl : h.objs.length ≤ cp) (hr : kOb.C w A h.objs.length h.objs) :
    Calls Try.prog 25 #[.pointer none, .agg #[.slice A h.objs.length cp, .int .i64 h.cap, .int .i64 h.last], .int .i64 c, .int .i64 s] w fun e w' => e = .returned (.tuple #[.int .i64 (findI h c s).1, .int .i64 (findI h c s).2.1, .int .i64 (findI h c s).2.2]) ∧ Below w.heap.size w w' := by
  have hu24 := Try.underlying24
  have HT := Lib.hid (HpAt.first (cp := cp) hr)
  clear hr
  go_enter Try.func25, Try.ntmps25
  go_wp2_with (go_at_call 14; refine (look_Find A cp h c s _ hbits hl HT.out.row).mono ?_; rintro e w5 ⟨rfl, hb5⟩; replace HT := Lib.hid (HT.out.next hb5); clear hb5)
  go_ret3
  exact ⟨rfl, HT.out.below⟩
set_option maxRecDepth 100000 in
set_option maxHeartbeats 1000000 in
theorem ca_Flush_nil (w : World) : Calls Try.prog 23 #[.pointer none] w fun e w' => e = .returned (.tuple #[]) ∧ w = w' := by
  go_enter Try.func23, Try.ntmps23
  go_wp2
  go_end0
  exact ⟨rfl, rfl⟩

def classH : Hp := ⟨[z0, sOb [0, 4, 1], sOb [0, 21, 2, 31]], 4, 0⟩
theorem box4 (w : World) (o0 o1 o2 o3 : Obj) : let W := ((((w.alloc o0).alloc o1).alloc o2).alloc o3); Below w.heap.size w W ∧ W.heap[w.heap.size + 1]? = some o1 ∧ W.heap[w.heap.size + 1 + 1]? = some o2 ∧ W.heap[w.heap.size + 1 + 1 + 1]? = some o3 := by
  intro W
  obtain ⟨h1, h2, h3, h4, h5⟩ := box3 (w.alloc o0) o1 o2 o3
  obtain ⟨k1, k2, k3⟩ := box1 w o0
  rw [k3] at h1 h2 h3 h4 h5
  exact ⟨k1.trans (h1.mono (by omega)), h2, h3, h4⟩
/-- What is handed back reads as a heap, wherever the blocks that have been made are as they were. -/
def GivesHpR (h : Hp) (w : World) (e : Ending) (w' : World) : Prop := (∃ A cp, e = .returned (.agg #[.slice A h.objs.length cp, .int .i64 h.cap, .int .i64 h.last]) ∧ h.objs.length ≤ cp ∧ ∀ W : World, (∀ k, w.heap.size ≤ k → k < w'.heap.size → W.heap[k]? = w'.heap[k]?) → kOb.C W A h.objs.length h.objs) ∧ Below w.heap.size w w'
set_option maxRecDepth 100000 in
set_option maxHeartbeats 2000000 in
theorem law_class (w : World) : Calls Try.prog 41 #[] w fun e w' => GivesHpR classH w e w' := by
  have hu24 := Try.underlying24
  have hu34 := Try.underlying34
  go_enter Try.func41, Try.ntmps41
  go_wp2
  obtain ⟨hb, h1, h2, h3⟩ := box4 w (.cells #[.slice (some ⟨w.heap.size + 1 + 1 + 1, 0, none⟩) 3 3, .int .i64 4, .int .i64 0] 24) (.cells #[.int .i64 0, .int .i64 4, .int .i64 1] 3) (.cells #[.int .i64 0, .int .i64 21, .int .i64 2, .int .i64 31] 3)
    (.cells #[.int .i64 0, .int .i64 0, .slice none 0 0, .string ⟨#[]⟩, .int .i64 0, .int .i64 0, .int .i64 0, .int .i64 0, .slice (some ⟨w.heap.size + 1, 0, none⟩) 3 3, .string ⟨#[]⟩, .int .i64 0, .int .i64 0, .int .i64 0, .int .i64 0, .slice (some ⟨w.heap.size + 1 + 1, 0, none⟩) 4 4, .string ⟨#[]⟩, .int .i64 0, .int .i64 0] 34)
  refine ⟨rfl, .agg #[.slice (some ⟨w.heap.size + 1 + 1 + 1, 0, none⟩) 3 3, .int .i64 4, .int .i64 0], by simp [results, Try.f41, go_sem], ?_⟩
  refine ⟨⟨some ⟨w.heap.size + 1 + 1 + 1, 0, none⟩, 3, rfl, Nat.le_refl _, fun W hW => ?_⟩, hb⟩
  have g1 := (hW _ (by omega) (Array.getElem?_eq_some_iff.1 h1).1).trans h1
  have g2 := (hW _ (by omega) (Array.getElem?_eq_some_iff.1 h2).1).trans h2
  have g3 := (hW _ (by omega) (Array.getElem?_eq_some_iff.1 h3).1).trans h3
  exact row_of_block ((((Reps.none (kOb.K _) 6).snoc (ob_nil _) rfl).snoc (ob_ints (xs := [0, 4, 1]) g1 rfl (by decide)) rfl).snoc (ob_ints (xs := [0, 21, 2, 31]) g2 rfl (by decide)) rfl) g3 (by decide)
end Go.Proofs.Ytgdobomofdenfaa.Lk
