/- Values: what value.N, value.At and the reference's are. -/
import Derived.Test.YtgdobomofdenfaaLkBase
namespace Go.Proofs.Ytgdobomofdenfaa.Lk
open Go.RowKit Go.Proofs.YtgdobomofdenfaaW.PrintWords
set_option linter.unusedVariables false
set_option linter.unusedSimpArgs false

/-- Is a value an object's ref? -/
def atB (v : Int) : Bool := decide (v % 2 = 0 ∧ 0 ≤ v ∧ v ≤ 2097150)
def atI (v : Int) : Int := if v % 2 = 0 ∧ 0 ≤ v ∧ v ≤ 2097150 then v / 2 else 0
/-- Is a value a number? -/
def nB (v : Int) : Bool := decide (v % 2 = 1 ∧ -2147483647 ≤ v ∧ v ≤ 2147483647)
def nI (v : Int) : Int := if v % 2 = 1 ∧ -2147483647 ≤ v ∧ v ≤ 2147483647 then v / 2 else 0

theorem and_one (v : Int) : Go.bits .and .i64 v 1 = v % 2 := by
  have h : (BitVec.ofInt 64 v &&& BitVec.ofInt 64 1).toNat = (v % 2).toNat := by
    rw [BitVec.toNat_and, BitVec.toNat_ofInt, BitVec.toNat_ofInt]
    have h1 : ((1 : Int) % (2 ^ 64 : Nat)).toNat = 1 := by decide
    rw [h1, Nat.and_one_is_mod]
    omega
  show IntKind.wrap .i64 ((BitVec.ofInt 64 v &&& BitVec.ofInt 64 1).toNat : Int) = _
  rw [h]
  rcases Int.emod_two_eq v with h | h <;> rw [h] <;> decide

theorem ret_ib {a b : Int} {p q : Bool} (h : a = b) (h' : p = q) : Ending.returned (.tuple #[.int .i64 a, .bool p]) = .returned (.tuple #[.int .i64 b, .bool q]) := by rw [h, h']
theorem ret_b {p q : Bool} (h' : p = q) : Ending.returned (.bool p) = .returned (.bool q) := by rw [h']
theorem ret_i {a b : Int} (h' : a = b) : Ending.returned (.int .i64 a) = .returned (.int .i64 b) := by rw [h']
theorem b_yes {p : Prop} [Decidable p] (h : p) : true = decide p := (decide_eq_true h).symm
theorem b_no {p : Prop} [Decidable p] (h : ¬ p) : false = decide p := (decide_eq_false h).symm
theorem tmod2 (v : Int) : Int.tmod v 2 = 0 ↔ v % 2 = 0 := by rw [Int.tmod_eq_emod]; split <;> omega

set_option maxHeartbeats 1000000 in
theorem value_At (v : Int) (w : World) : Calls Try.prog 53 #[.int .i64 v] w fun e w' => e = .returned (.tuple #[.int .i64 (atI v), .bool (atB v)]) ∧ w = w' := by
  go_enter Try.func53, Try.ntmps53
  go_wp2
  all_goals
    go_ret2
    refine ⟨ret_ib ?_ ?_, rfl⟩
    · simp only [and_one] at *
      unfold atI
      split <;> omega
    · simp only [and_one] at *
      first | exact b_yes (by omega) | exact b_no (by omega)

set_option maxHeartbeats 1000000 in
theorem value_N (v : Int) (w : World) : Calls Try.prog 44 #[.int .i64 v] w fun e w' => e = .returned (.tuple #[.int .i64 (nI v), .bool (nB v)]) ∧ w = w' := by
  go_enter Try.func44, Try.ntmps44
  go_wp2
  all_goals
    go_ret2
    refine ⟨ret_ib ?_ ?_, rfl⟩
    · simp only [and_one] at *
      unfold nI
      split <;> omega
    · simp only [and_one] at *
      first | exact b_yes (by omega) | exact b_no (by omega)

theorem tdiv2 (v : Int) (h : v % 2 = 0) : Int.tdiv v 2 = v / 2 := by rw [Int.tdiv_eq_ediv]; split <;> omega
theorem wrap_small (v : Int) (h : -4611686018427387904 ≤ v) (h' : v ≤ 4611686018427387904) : wrap64 v = v := by unfold wrap64; omega

set_option maxHeartbeats 1000000 in
theorem r1_At (v : Int) (w : World) : Calls Try.prog 40 #[.int .i64 v] w fun e w' => e = .returned (.tuple #[.int .i64 (atI v), .bool (atB v)]) ∧ w = w' := by
  go_enter Try.func40, Try.ntmps40
  go_wp2
  all_goals
    go_ret2
    refine ⟨ret_ib ?_ ?_, rfl⟩
    · simp only [tmod2] at *
      unfold atI
      split <;> omega
    · simp only [tmod2] at *
      first | exact b_yes (by omega) | exact b_no (by omega)

set_option maxHeartbeats 1000000 in
theorem r1_N (v : Int) (w : World) : Calls Try.prog 39 #[.int .i64 v] w fun e w' => e = .returned (.tuple #[.int .i64 (nI v), .bool (nB v)]) ∧ w = w' := by
  by_cases h1 : v % 2 = 0
  · have h2 : v.tmod 2 = 0 := (tmod2 v).2 h1
    go_enter Try.func39, Try.ntmps39
    go_wp2
    go_ret2
    refine ⟨ret_ib ?_ ?_, rfl⟩
    · unfold nI; split <;> omega
    · exact b_no (by omega)
  · have h2 : ¬ v.tmod 2 = 0 := fun h => h1 ((tmod2 v).1 h)
    by_cases h3 : v < -2147483647
    · go_enter Try.func39, Try.ntmps39
      go_wp2
      go_ret2
      refine ⟨ret_ib ?_ ?_, rfl⟩
      · unfold nI; split <;> omega
      · exact b_no (by omega)
    · by_cases h4 : v > 2147483647
      · go_enter Try.func39, Try.ntmps39
        go_wp2
        go_ret2
        refine ⟨ret_ib ?_ ?_, rfl⟩
        · unfold nI; split <;> omega
        · exact b_no (by omega)
      · go_enter Try.func39, Try.ntmps39
        go_wp2
        all_goals (go_ret2; refine ⟨ret_ib ?_ ?_, rfl⟩)
        · rw [tdiv2 _ (by omega)]
          unfold nI
          split <;> omega
        · exact b_yes (by omega)
end Go.Proofs.Ytgdobomofdenfaa.Lk
