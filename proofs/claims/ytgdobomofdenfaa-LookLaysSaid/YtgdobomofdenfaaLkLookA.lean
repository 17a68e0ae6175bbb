/- Classes: look.object, look.pairs, look.class. -/
import Derived.Test.YtgdobomofdenfaaLkHeapE
namespace Go.Proofs.Ytgdobomofdenfaa.Lk
open Go.RowKit Go.Proofs.YtgdobomofdenfaaW.PrintWords
set_option linter.unusedVariables false
set_option linter.unusedSimpArgs false

theorem refI_at {n : Nat} {v : Int} (h : 0 ≤ refI n v) : atB v = true ∧ atI v < n ∧ refI n v = atI v := by
  unfold refI at *
  split at h
  · rename_i hh; rw [if_pos hh]; exact ⟨hh.1, hh.2, rfl⟩
  · omega

set_option maxRecDepth 100000 in
set_option maxHeartbeats 1000000 in
theorem look_object_some (ad : Addr) (n c : Nat) (cap last v : Int) (w : World) (hn : n ≤ 9223372036854775807) (h : 0 ≤ refI n v) :
    Calls Try.prog 37 #[.agg #[.slice (some ad) n c, .int .i64 cap, .int .i64 last], .int .i64 v] w fun e w' => e = .returned (.pointer (some (ad.add ((refI n v).toNat * 6)))) ∧ Below w.heap.size w w' := by
  have hu24 := Try.underlying24
  obtain ⟨h1, h2, h3⟩ := refI_at h
  have h0 := atI_nonneg v
  have H3 := Lib.hid h3
  clear h h3
  go_enter Try.func37, Try.ntmps37
  go_wp2_with (go_at_call 53; refine (value_At v _).mono ?_; rintro e w' ⟨rfl, rfl⟩)
  go_ret
  exact ⟨by rw [H3.out]; rfl, (Below.refl _ _).alloc (Nat.le_refl _) _⟩
set_option maxRecDepth 100000 in
set_option maxHeartbeats 1000000 in
theorem look_object_none (A : Option Addr) (n c : Nat) (cap last v : Int) (w : World) (hn : n ≤ 9223372036854775807) (h : refI n v < 0) :
    Calls Try.prog 37 #[.agg #[.slice A n c, .int .i64 cap, .int .i64 last], .int .i64 v] w fun e w' => e = .returned (.pointer none) ∧ Below w.heap.size w w' := by
  have hu24 := Try.underlying24
  by_cases h1 : atB v = true
  · have h2 : (n : Int) ≤ atI v := by
      have h0 := atI_nonneg v
      rcases Int.lt_or_le (atI v) n with h' | h'
      · rw [refI_yes h1 h'] at h; omega
      · exact h'
    clear h
    go_enter Try.func37, Try.ntmps37
    go_wp2_with (go_at_call 53; refine (value_At v _).mono ?_; rintro e w' ⟨rfl, rfl⟩)
    go_ret
    exact ⟨rfl, (Below.refl _ _).alloc (Nat.le_refl _) _⟩
  · rw [Bool.not_eq_true] at h1
    clear h
    go_enter Try.func37, Try.ntmps37
    go_wp2_with (go_at_call 53; refine (value_At v _).mono ?_; rintro e w' ⟨rfl, rfl⟩)
    go_ret
    exact ⟨rfl, (Below.refl _ _).alloc (Nat.le_refl _) _⟩

/-- The object that a value is the ref of. -/
def obv (l : List Ob) (v : Int) : Ob := ob l (refI l.length v).toNat
def pairsB (l : List Ob) (v : Int) : Bool := decide (refI l.length v = 0 ∨ (0 ≤ refI l.length v ∧ (obv l v).kind = 0))
def pairsL (l : List Ob) (v : Int) : List Int := if refI l.length v = 0 then [] else if 0 ≤ refI l.length v ∧ (obv l v).kind = 0 then (obv l v).slots else []

set_option maxRecDepth 100000 in
set_option maxHeartbeats 1000000 in
theorem look_pairs_nil (A : Option Addr) (c : Nat) (l : List Ob) (cap last v : Int) (w : World) (hl : l.length ≤ c) (hr : kOb.C w A l.length l) (h : refI l.length v = 0) :
    Calls Try.prog 36 #[.agg #[.slice A l.length c, .int .i64 cap, .int .i64 last], .int .i64 v] w fun e w' => e = .returned (.tuple #[.slice none 0 0, .bool true]) ∧ Below w.heap.size w w' := by
  have hu24 := Try.underlying24
  have hm := Kd.C_max hr
  obtain ⟨h1, h2, h3⟩ := refI_at (n := l.length) (v := v) (by omega)
  obtain ⟨ad, A2, c2, rfl, hob⟩ := obs_at hr 0 (by omega)
  have hv : (atI v == 0) = true := beq_iff_eq.2 (by omega)
  have hb := box1 w (.cells #[.slice (some ad) l.length c, .int .i64 cap, .int .i64 last] 24)
  obtain ⟨hb1, hx1, hsz⟩ := hb
  have HR := Lib.hid hr
  have H := Lib.hid h
  clear hr hob h h3
  go_enter Try.func36, Try.ntmps36
  go_wp2_with (first
    | (go_at_call 37; refine (look_object_some ad l.length c cap last v _ hm (by rw [H.out]; omega)).mono ?_; rintro e w' ⟨rfl, hb⟩)
    | (go_at_call 53; refine (value_At v _).mono ?_; rintro e w' ⟨rfl, rfl⟩))
  go_ret2
  exact ⟨rfl, hb1.trans (hb.mono hb1.size)⟩

set_option maxRecDepth 100000 in
set_option maxHeartbeats 1000000 in
theorem look_pairs_bad (A : Option Addr) (c : Nat) (l : List Ob) (cap last v : Int) (w : World) (hl : l.length ≤ c) (hr : kOb.C w A l.length l) (h : refI l.length v ≠ 0) (h' : pairsB l v = false) :
    Calls Try.prog 36 #[.agg #[.slice A l.length c, .int .i64 cap, .int .i64 last], .int .i64 v] w fun e w' => e = .returned (.tuple #[.slice none 0 0, .bool false]) ∧ Below w.heap.size w w' := by
  have hu24 := Try.underlying24
  have hu34 := Try.underlying34
  have hm := Kd.C_max hr
  have hbd := refI_bd l.length v
  have hb := box1 w (.cells #[.slice A l.length c, .int .i64 cap, .int .i64 last] 24)
  obtain ⟨hb1, hx1, hsz⟩ := hb
  by_cases hp : 0 ≤ refI l.length v
  · have hk : (obv l v).kind ≠ 0 := fun hk => by unfold pairsB at h'; rw [decide_eq_true (.inr ⟨hp, hk⟩)] at h'; cases h'
    obtain ⟨h1, h2, h3⟩ := refI_at hp
    have h0 := atI_nonneg v
    obtain ⟨ad, A2, c2, rfl, hob⟩ := obs_at hr (refI l.length v).toNat (by omega)
    have hv : (atI v == 0) = false := beq_eq_false_iff_ne.2 (by omega)
    have hkb : ((obv l v).kind == 0) = false := beq_eq_false_iff_ne.2 hk
    have HOB := Lib.hid (hob.below hb1)
    have H := Lib.hid hp
    clear hr hob h h3 hk hp h' hbd
    go_enter Try.func36, Try.ntmps36
    go_wp2_with (first
      | (go_at_call 37; refine (look_object_some ad l.length c cap last v _ hm H.out).mono ?_; rintro e w' ⟨rfl, hb⟩; have y1 : w'.cell? ⟨(ad.add ((refI l.length v).toNat * 6)).block, (ad.add ((refI l.length v).toNat * 6)).off + 1, none⟩ = some (.int .i64 (obv l v).kind) := (HOB.out.below hb).c1)
      | (go_at_call 53; refine (value_At v _).mono ?_; rintro e w' ⟨rfl, rfl⟩))
    go_ret2
    exact ⟨rfl, hb1.trans (hb.mono hb1.size)⟩
  · have hp' : refI l.length v < 0 := by omega
    clear hr h hp h' hbd
    go_enter Try.func36, Try.ntmps36
    go_wp2_with (first
      | (go_at_call 37; refine (look_object_none A l.length c cap last v _ hm hp').mono ?_; rintro e w' ⟨rfl, hb⟩)
      | (go_at_call 53; refine (value_At v _).mono ?_; rintro e w' ⟨rfl, rfl⟩))
    go_ret2
    exact ⟨rfl, hb1.trans (hb.mono hb1.size)⟩

set_option maxRecDepth 100000 in
set_option maxHeartbeats 1000000 in
theorem look_pairs_ok (ad : Addr) (c : Nat) (l : List Ob) (cap last v : Int) (w : World) (hl : l.length ≤ c) (hm : l.length ≤ 9223372036854775807) (h : 0 < refI l.length v) (hk : (obv l v).kind = 0)
    (A2 : Option Addr) (c2 : Nat) (hob : ObAt w (ad.add ((refI l.length v).toNat * 6)) (obv l v) A2 c2) :
    Calls Try.prog 36 #[.agg #[.slice (some ad) l.length c, .int .i64 cap, .int .i64 last], .int .i64 v] w fun e w' => e = .returned (.tuple #[.slice A2 (obv l v).slots.length c2, .bool true]) ∧ Below w.heap.size w w' := by
  have hu24 := Try.underlying24
  have hu34 := Try.underlying34
  have hb := box1 w (.cells #[.slice (some ad) l.length c, .int .i64 cap, .int .i64 last] 24)
  obtain ⟨hb1, hx1, hsz⟩ := hb
  have hp : 0 ≤ refI l.length v := by omega
  obtain ⟨h1, h2, h3⟩ := refI_at hp
  have hv : (atI v == 0) = false := beq_eq_false_iff_ne.2 (by omega)
  have hkb : ((obv l v).kind == 0) = true := beq_iff_eq.2 hk
  have HOB := Lib.hid (hob.below hb1)
  have H := Lib.hid hp
  clear hob h h3 hk hp
  go_enter Try.func36, Try.ntmps36
  go_wp2_with (first
    | (go_at_call 37; refine (look_object_some ad l.length c cap last v _ hm H.out).mono ?_; rintro e w' ⟨rfl, hb⟩; have y1 : w'.cell? ⟨(ad.add ((refI l.length v).toNat * 6)).block, (ad.add ((refI l.length v).toNat * 6)).off + 1, none⟩ = some (.int .i64 (obv l v).kind) := (HOB.out.below hb).c1; have y2 : w'.cell? ⟨(ad.add ((refI l.length v).toNat * 6)).block, (ad.add ((refI l.length v).toNat * 6)).off + 2, none⟩ = some (.slice A2 (obv l v).slots.length c2) := (HOB.out.below hb).c2)
    | (go_at_call 53; refine (value_At v _).mono ?_; rintro e w' ⟨rfl, rfl⟩))
  go_ret2
  exact ⟨rfl, hb1.trans (hb.mono hb1.size)⟩

/-- Is a value a class, of a heap that may be? -/
def classP (l : List Ob) (c : Int) : Prop := 0 ≤ refI l.length c ∧ (obv l c).kind = 0 ∧ 3 ≤ (obv l c).slots.length ∧ 0 ≤ refI l.length ((obv l c).slots.getD 0 0) ∧
  pairsB l ((obv l c).slots.getD 1 0) = true ∧ nB ((obv l c).slots.getD 2 0) = true ∧ 0 ≤ nI ((obv l c).slots.getD 2 0) ∧ nI ((obv l c).slots.getD 2 0) ≤ 64
instance (l : List Ob) (c : Int) : Decidable (classP l c) := by unfold classP; infer_instance
def classB (l : List Ob) (c : Int) : Bool := decide (classP l c)
def superI (l : List Ob) (c : Int) : Int := (obv l c).slots.getD 0 0
def dictI (l : List Ob) (c : Int) : Int := (obv l c).slots.getD 1 0
/-- How class goes. -/
theorem class_ways (l : List Ob) (c : Int) :
    (refI l.length c < 0 ∧ classB l c = false) ∨ (0 ≤ refI l.length c ∧ ((obv l c).kind == 0) = false ∧ classB l c = false) ∨
    (0 ≤ refI l.length c ∧ ((obv l c).kind == 0) = true ∧ (obv l c).slots.length < 3 ∧ classB l c = false) ∨
    (0 ≤ refI l.length c ∧ ((obv l c).kind == 0) = true ∧ 3 ≤ (obv l c).slots.length ∧ refI l.length (superI l c) < 0 ∧ classB l c = false) ∨
    (0 ≤ refI l.length c ∧ ((obv l c).kind == 0) = true ∧ 3 ≤ (obv l c).slots.length ∧ 0 ≤ refI l.length (superI l c) ∧
      classB l c = (pairsB l (dictI l c) && (nB ((obv l c).slots.getD 2 0) && (decide (0 ≤ nI ((obv l c).slots.getD 2 0)) && decide (nI ((obv l c).slots.getD 2 0) ≤ 64))))) := by
  unfold classB
  rcases Int.lt_or_le (refI l.length c) 0 with h | h
  · exact .inl ⟨h, decide_eq_false (fun hh => by have := hh.1; omega)⟩
  · right
    by_cases hk : (obv l c).kind = 0
    · have hk' : ((obv l c).kind == 0) = true := beq_iff_eq.2 hk
      right
      rcases Nat.lt_or_ge (obv l c).slots.length 3 with h3 | h3
      · exact .inl ⟨h, hk', h3, decide_eq_false (fun hh => by have := hh.2.2.1; omega)⟩
      · right
        rcases Int.lt_or_le (refI l.length (superI l c)) 0 with hs | hs
        · exact .inl ⟨h, hk', h3, hs, decide_eq_false (fun hh => by have := hh.2.2.2.1; unfold superI at hs; omega)⟩
        · right
          refine ⟨h, hk', h3, hs, ?_⟩
          rw [Bool.eq_iff_iff, decide_eq_true_iff]
          unfold classP
          unfold superI at hs
          unfold dictI
          simp only [decide_eq_true_eq, Bool.and_eq_true]
          exact ⟨fun hh => ⟨hh.2.2.2.2.1, hh.2.2.2.2.2.1, hh.2.2.2.2.2.2.1, hh.2.2.2.2.2.2.2⟩, fun hh => ⟨h, hk, h3, hs, hh.1, hh.2.1, hh.2.2.1, hh.2.2.2⟩⟩
    · exact .inl ⟨h, beq_eq_false_iff_ne.2 hk, decide_eq_false (fun hh => hk hh.2.1)⟩
end Go.Proofs.Ytgdobomofdenfaa.Lk
