/- The program's heaps: heap.May and what it uses. -/
import Derived.Test.YtgdobomofdenfaaLkHeapB
namespace Go.Proofs.Ytgdobomofdenfaa.Lk
open Go.RowKit Go.Proofs.YtgdobomofdenfaaW.PrintWords
set_option linter.unusedVariables false
set_option linter.unusedSimpArgs false

def inB (a b : Int) : Bool := decide (0 ≤ a ∧ a ≤ b)
set_option maxHeartbeats 1000000 in
theorem heap_in (a b : Int) (w : World) : Calls Try.prog 48 #[.int .i64 a, .int .i64 b] w fun e w' => e = .returned (.bool (inB a b)) ∧ w = w' := by
  by_cases h : 0 ≤ a
  · go_enter Try.func48, Try.ntmps48
    go_wp2
    go_ret
    exact ⟨ret_b (by unfold inB; rw [decide_eq_decide]; omega), rfl⟩
  · go_enter Try.func48, Try.ntmps48
    go_wp2
    go_ret
    exact ⟨ret_b (b_no (by omega)), rfl⟩

set_option maxRecDepth 100000 in
set_option maxHeartbeats 1000000 in
theorem heap_ref (n : Nat) (v : Int) (w : World) (hn : n ≤ 9223372036854775807) :
    Calls Try.prog 59 #[.int .i64 n, .int .i64 v] w fun e w' => e = .returned (.int .i64 (refI n v)) ∧ w = w' := by
  by_cases h : atB v = true
  · by_cases h1 : atI v < n
    · go_enter Try.func59, Try.ntmps59
      go_wp2_with (go_at_call 53; refine (value_At v _).mono ?_; rintro e w' ⟨rfl, rfl⟩)
      go_ret
      exact ⟨ret_i (refI_yes h h1).symm, rfl⟩
    · go_enter Try.func59, Try.ntmps59
      go_wp2_with (go_at_call 53; refine (value_At v _).mono ?_; rintro e w' ⟨rfl, rfl⟩)
      go_ret
      exact ⟨ret_i (refI_far (by omega)).symm, rfl⟩
  · have h' := h
    rw [Bool.not_eq_true] at h
    go_enter Try.func59, Try.ntmps59
    go_wp2_with (go_at_call 53; refine (value_At v _).mono ?_; rintro e w' ⟨rfl, rfl⟩)
    go_ret
    exact ⟨ret_i (refI_not (by rw [h]; decide)).symm, rfl⟩

set_option maxRecDepth 100000 in
set_option maxHeartbeats 1000000 in
theorem heap_has (n : Nat) (v : Int) (w : World) (hn : n ≤ 9223372036854775807) :
    Calls Try.prog 63 #[.int .i64 n, .int .i64 v] w fun e w' => e = .returned (.bool (hasB n v)) ∧ w = w' := by
  by_cases h : nB v = true
  · go_enter Try.func63, Try.ntmps63
    go_wp2_with (first
      | (go_at_call 44; refine (value_N v _).mono ?_; rintro e w' ⟨rfl, rfl⟩)
      | (go_at_call 59; refine (heap_ref n v _ hn).mono ?_; rintro e w' ⟨rfl, rfl⟩))
    go_ret
    exact ⟨ret_b (by unfold hasB; rw [h]; rfl), rfl⟩
  · rw [Bool.not_eq_true] at h
    go_enter Try.func63, Try.ntmps63
    go_wp2_with (first
      | (go_at_call 44; refine (value_N v _).mono ?_; rintro e w' ⟨rfl, rfl⟩)
      | (go_at_call 59; refine (heap_ref n v _ hn).mono ?_; rintro e w' ⟨rfl, rfl⟩))
    go_ret
    exact ⟨ret_b (by unfold hasB; rw [h]; rfl), rfl⟩

set_option maxRecDepth 100000 in
set_option maxHeartbeats 1000000 in
/-- The closure in (objects).may. -/
theorem heap_may_1 (n : Nat) (v : Int) (b : Nat) (w : World) (hn : n ≤ 9223372036854775807) (hc : w.cell? ⟨b, 0, none⟩ = some (.int .i64 n)) :
    Calls Try.prog 62 #[.int .i64 v, .pointer (some ⟨b, 0, none⟩)] w fun e w' => e = .returned (.bool (!hasB n v)) ∧ w = w' := by
  go_enter Try.func62, Try.ntmps62
  go_wp2_with (go_at_call 63; refine (heap_has n v _ hn).mono ?_; rintro e w' ⟨rfl, rfl⟩)
  go_ret
  exact ⟨rfl, rfl⟩

/-- The first place at which something holds; -1: there is none. -/
def idxI {α : Type} (p : α → Bool) (xs : List α) : Int := match xs.findIdx? p with | some i => (i : Int) | none => -1
theorem idx_any {α : Type} (p : α → Bool) (xs : List α) : decide (0 ≤ idxI p xs) = xs.any p := by
  unfold idxI
  cases h : xs.findIdx? p with
  | none =>
    rw [List.findIdx?_eq_none_iff] at h
    have : xs.any p = false := by rw [List.any_eq_false]; intro x hx; rw [h x hx]; decide
    rw [this]; rfl
  | some i =>
    have h1 := (List.findIdx?_eq_some_iff_getElem.1 h)
    obtain ⟨hi, hp, _⟩ := h1
    have : xs.any p = true := List.any_eq_true.2 ⟨_, List.getElem_mem hi, hp⟩
    rw [this]
    simp
theorem idx_at {α : Type} (p : α → Bool) (xs : List α) (k : Nat) (hk : k < xs.length) (h0 : (xs.take k).any p = false) (h1 : p (xs[k]) = true) : idxI p xs = k := by
  unfold idxI
  have : xs.findIdx? p = some k := by
    rw [List.findIdx?_eq_some_iff_getElem]
    refine ⟨hk, h1, fun j hj => ?_⟩
    rw [List.any_eq_false] at h0
    have := h0 (xs[j]) (by rw [List.mem_take_iff_getElem]; exact ⟨j, by omega, rfl⟩)
    simpa using this
  rw [this]
theorem idx_none {α : Type} (p : α → Bool) (xs : List α) (h0 : xs.any p = false) : idxI p xs = -1 := by
  unfold idxI
  have : xs.findIdx? p = none := by
    rw [List.findIdx?_eq_none_iff]
    intro x hx
    rw [List.any_eq_false] at h0
    simpa using h0 x hx
  rw [this]
theorem any_step {α : Type} (p : α → Bool) (xs : List α) (k : Nat) (hk : k < xs.length) (h0 : (xs.take k).any p = false) (h1 : p (xs[k]) = false) : (xs.take (k + 1)).any p = false := by
  rw [List.take_succ_eq_append_getElem hk, List.any_append, h0]
  simpa using h1
theorem getD_at {α : Type} (xs : List α) (k : Nat) (d : α) (hk : k < xs.length) : xs.getD k d = xs[k] := by
  rw [List.getD_eq_getElem?_getD, List.getElem?_eq_getElem hk]; rfl

set_option maxRecDepth 100000 in
set_option maxHeartbeats 1000000 in
theorem idx_ints (n : Nat) (xs : List Int) (A : Option Addr) (c b : Nat) (w : World) (hn : n ≤ 9223372036854775807) (hl : xs.length ≤ c) (hr : (Kd.int .i64).C w A xs.length xs) (hc : w.cell? ⟨b, 0, none⟩ = some (.int .i64 n)) :
    Calls Try.prog 67 #[.slice A xs.length c, .func (.func 62) #[] #[.pointer (some ⟨b, 0, none⟩)]] w fun e w' => e = .returned (.int .i64 (idxI (fun v => !hasB n v) xs)) ∧ w = w' := by
  have hm := Kd.C_max hr
  have HR := Lib.hid hr
  have HC := Lib.hid hc
  clear hr hc
  go_enter Try.func67, Try.ntmps67
  go_wp2
  go_loop [8] (fun v => ∃ k : Nat, k ≤ xs.length ∧ v = .int .i64 k ∧ Hid ((xs.take k).any (fun v => !hasB n v) = false)) (fun v => xs.length - (intOf v).toNat)
  case atStart => exact ⟨0, Nat.zero_le _, rfl, Lib.hid rfl⟩
  case round =>
    obtain ⟨k, hk, rfl, HS⟩ := hrel
    by_cases hlt : k < xs.length
    · obtain ⟨ad, rfl, hcell⟩ := ints_at HR.out k hlt
      obtain ⟨v, hv⟩ : ∃ v, v = xs[k] := ⟨_, rfl⟩
      rw [getD_at _ _ _ hlt, ← hv] at hcell
      have HV := Lib.hid hv
      clear hv
      by_cases hh : hasB n v = true
      all_goals
        try rw [Bool.not_eq_true] at hh
        go_wp2_with (go_at_call 62; refine (heap_may_1 n v b _ hn HC.out).mono ?_; rintro e w' ⟨rfl, rfl⟩)
      · go_round
        case rel => exact ⟨k + 1, by omega, by go_num, Lib.hid (any_step _ xs k hlt HS.out (by rw [← HV.out, hh]; rfl))⟩
        case measure => simp [intOf]; omega
      · go_ret
        exact ⟨ret_i (idx_at _ xs k hlt HS.out (by rw [← HV.out, hh]; rfl)).symm, rfl⟩
    · go_wp2
      go_ret
      exact ⟨ret_i (idx_none _ xs (by have := HS.out; rwa [List.take_of_length_le (by omega)] at this)).symm, rfl⟩

theorem all_not_any (n : Nat) (xs : List Int) : (!(xs.any fun v => !hasB n v)) = slotsB n xs := by
  unfold slotsB
  induction xs with
  | nil => rfl
  | cons x xs ih => rw [List.any_cons, List.all_cons, ← ih]; cases hasB n x <;> simp
set_option maxRecDepth 100000 in
set_option maxHeartbeats 1000000 in
theorem contains_ints (n : Nat) (xs : List Int) (A : Option Addr) (c b : Nat) (w : World) (hn : n ≤ 9223372036854775807) (hl : xs.length ≤ c) (hr : (Kd.int .i64).C w A xs.length xs) (hc : w.cell? ⟨b, 0, none⟩ = some (.int .i64 n)) :
    Calls Try.prog 61 #[.slice A xs.length c, .func (.func 62) #[] #[.pointer (some ⟨b, 0, none⟩)]] w fun e w' => e = .returned (.bool (!slotsB n xs)) ∧ w = w' := by
  have HR := Lib.hid hr
  have HC := Lib.hid hc
  clear hr hc
  go_enter Try.func61, Try.ntmps61
  go_wp2_with (go_at_call 67; refine (idx_ints n xs A c b _ hn hl HR.out HC.out).mono ?_; rintro e w' ⟨rfl, rfl⟩)
  go_ret
  exact ⟨ret_b (by rw [← all_not_any, ← idx_any]; simp), rfl⟩
end Go.Proofs.Ytgdobomofdenfaa.Lk
