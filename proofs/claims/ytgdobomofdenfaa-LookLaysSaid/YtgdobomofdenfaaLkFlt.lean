/- Floats' bits: flt.Canon and the reference's. -/
import Derived.Test.YtgdobomofdenfaaLkVal
import Derived.Laws.Cover2
namespace Go.Proofs.Ytgdobomofdenfaa.Lk
open Go.RowKit Go.Proofs.YtgdobomofdenfaaW.PrintWords
set_option linter.unusedVariables false
set_option linter.unusedSimpArgs false

/-- Are a number's bits a NaN's? -/
def nanB (a : Int) : Bool := decide (9218868437227405312 < a % 9223372036854775808)
def nanI : Int := 9221120237041090561
def canonI (a : Int) : Int := if nanB a = true then nanI else a
/-- The bits as a word. -/
def word (a : Int) : Nat := (a % 18446744073709551616).toNat
def bitsI (a : Int) : Int := if nanB a = true then nanI else wrap64 (word a : Int)
def inI (a : Int) : Prop := -9223372036854775808 ≤ a ∧ a ≤ 9223372036854775807

theorem order_self (d : Ieee.Datum) : d.order d = if d.isNaN then none else some .eq := by
  cases d with
  | number s m i => simp [Ieee.Datum.order, Ieee.Datum.isNaN]
  | infinity s => simp [Ieee.Datum.order, Ieee.Datum.isNaN]
  | nan s f => simp [Ieee.Datum.order, Ieee.Datum.isNaN]
theorem read_nan (m : Nat) : ((FloatKind.f64.format).read m).isNaN = decide (9218868437227405312 < m % 9223372036854775808) := by
  have h1 : (FloatKind.f64.format).signWeight = 9223372036854775808 := by decide
  have h2 : (FloatKind.f64.format).binade = 4503599627370496 := by decide
  have h3 : (FloatKind.f64.format).infRung = 9218868437227405312 := by decide
  unfold Ieee.Format.read
  simp only [h1, h2, h3]
  split
  · simp [Ieee.Datum.isNaN]; omega
  · split
    · simp [Ieee.Datum.isNaN]; omega
    · split
      · simp [Ieee.Datum.isNaN]; omega
      · simp [Ieee.Datum.isNaN]; omega
theorem ne_self (a : Int) : ((FloatKind.f64.format).order (word a) (word a) != some .eq) = nanB a := by
  have h : (FloatKind.f64.format).order (word a) (word a) = if nanB a then none else some .eq := by
    unfold Ieee.Format.order
    rw [order_self, read_nan]
    have : (decide (9218868437227405312 < word a % 9223372036854775808)) = nanB a := by
      unfold nanB word
      rw [decide_eq_decide]
      omega
    rw [this]
  rw [h]
  cases nanB a <;> rfl
theorem wrap_u64 (a : Int) : (IntKind.u64.wrap a).toNat = word a := by
  unfold word
  congr 1
theorem back_i64 (a : Int) (h : inI a) : wrap64 (word a : Int) = a := by
  unfold inI at h
  unfold word wrap64
  omega

set_option maxHeartbeats 1000000 in
theorem flt_number (a : Int) (w : World) : Calls Try.prog 66 #[.int .i64 a] w fun e w' => e = .returned (.float .f64 (word a)) ∧ w = w' := by
  have k70 : ∀ n w, (callFunc 70 #[.int .u64 n]).run Try.prog w = .ok (.value (.float .f64 n.toNat)) w := fun n w => by kernel_rfl
  have hw := wrap_u64 a
  go_enter Try.func66, Try.ntmps66
  go_wp2
  go_ret
  exact ⟨rfl, rfl⟩

set_option maxHeartbeats 1000000 in
theorem flt_bits (a : Int) (w : World) : Calls Try.prog 65 #[.float .f64 (word a)] w fun e w' => e = .returned (.int .i64 (bitsI a)) ∧ w = w' := by
  have k69 : ∀ n w, (callFunc 69 #[.float .f64 n]).run Try.prog w = .ok (.value (.int .u64 (n : Int))) w := fun n w => by kernel_rfl
  have hn := ne_self a
  by_cases h : nanB a = true
  · rw [h] at hn
    go_enter Try.func65, Try.ntmps65
    go_wp2
    go_ret
    exact ⟨ret_i (by unfold bitsI; rw [if_pos h]; rfl), rfl⟩
  · rw [Bool.not_eq_true] at h
    rw [h] at hn
    go_enter Try.func65, Try.ntmps65
    go_wp2
    go_ret
    exact ⟨ret_i (by unfold bitsI; rw [if_neg (by rw [h]; decide)]), rfl⟩

set_option maxHeartbeats 1000000 in
theorem flt_Canon (a : Int) (w : World) (ha : inI a) : Calls Try.prog 60 #[.int .i64 a] w fun e w' => e = .returned (.int .i64 (canonI a)) ∧ w = w' := by
  go_enter Try.func60, Try.ntmps60
  go_wp2_with (first
    | (go_at_call 66; refine (flt_number a _).mono ?_; rintro e w' ⟨rfl, rfl⟩)
    | (go_at_call 65; refine (flt_bits a _).mono ?_; rintro e w' ⟨rfl, rfl⟩))
  go_ret
  exact ⟨ret_i (by unfold canonI bitsI; rw [back_i64 a ha]), rfl⟩

def plainI (a : Int) : Int := a % 9223372036854775808
theorem plain_and (a : Int) : Go.bits .and .i64 a 9223372036854775807 = plainI a := by
  have h : (BitVec.ofInt 64 a &&& BitVec.ofInt 64 9223372036854775807).toNat = (a % 9223372036854775808).toNat := by
    rw [BitVec.toNat_and, BitVec.toNat_ofInt, BitVec.toNat_ofInt]
    have h1 : ((9223372036854775807 : Int) % (2 ^ 64 : Nat)).toNat = 2 ^ 63 - 1 := by decide
    rw [h1, Nat.and_two_pow_sub_one_eq_mod]
    omega
  show IntKind.wrap .i64 ((BitVec.ofInt 64 a &&& BitVec.ofInt 64 9223372036854775807).toNat : Int) = _
  rw [h, IntKind.wrap_i64]
  unfold plainI
  omega

set_option maxHeartbeats 1000000 in
theorem r2_plain (a : Int) (w : World) : Calls Try.prog 64 #[.int .i64 a] w fun e w' => e = .returned (.int .i64 (plainI a)) ∧ w = w' := by
  go_enter Try.func64, Try.ntmps64
  go_wp2
  go_ret
  exact ⟨ret_i (plain_and a), rfl⟩

theorem plainI_bd (a : Int) : 0 ≤ plainI a ∧ plainI a ≤ 9223372036854775807 := by unfold plainI; omega
/-- Kind's answer is 0 just for a NaN. -/
def kindI (a : Int) : Int := if plainI a / 4503599627370496 = 2047 then (if plainI a % 4503599627370496 = 0 then 1 else 0) else if plainI a / 4503599627370496 > 0 then 4 else if plainI a % 4503599627370496 > 0 then 3 else 2
theorem kind_nan (a : Int) : (kindI a = 0) ↔ nanB a = true := by
  unfold kindI nanB plainI
  rw [decide_eq_true_iff]
  repeat' split
  all_goals omega
set_option maxHeartbeats 1000000 in
theorem r2_Kind (a : Int) (w : World) : Calls Try.prog 56 #[.int .i64 a] w fun e w' => e = .returned (.int .i64 (kindI a)) ∧ w = w' := by
  have hb := plainI_bd a
  obtain ⟨h0, h1⟩ := hb
  go_enter Try.func56, Try.ntmps56
  go_wp2_with (first
    | (go_at_call 64; refine (r2_plain a _).mono ?_; rintro e w' ⟨rfl, rfl⟩))
  all_goals
    go_ret
    refine ⟨ret_i ?_, rfl⟩
    clear h0 h1
    simp only [beq_iff_eq, beq_eq_false_iff_ne, ne_eq] at *
    unfold kindI
    repeat' split
    all_goals omega

set_option maxHeartbeats 1000000 in
theorem r2_Canon (a : Int) (w : World) : Calls Try.prog 47 #[.int .i64 a] w fun e w' => e = .returned (.int .i64 (canonI a)) ∧ w = w' := by
  have hk := kind_nan a
  have hc : kindI a = 0 → canonI a = nanI := fun h => by unfold canonI; rw [if_pos (hk.1 h)]
  have hc' : ¬ kindI a = 0 → canonI a = a := fun h => by unfold canonI; rw [if_neg (fun h' => h (hk.2 h'))]
  have Hc := Lib.hid hc
  have Hc' := Lib.hid hc'
  clear hk hc hc'
  by_cases h : kindI a = 0
  · have h1 : (kindI a == 0) = true := beq_iff_eq.2 h
    have H := Lib.hid h
    clear h
    go_enter Try.func47, Try.ntmps47
    go_wp2_with (first
      | (go_at_call 56; refine (r2_Kind a _).mono ?_; rintro e w' ⟨rfl, rfl⟩)
      | go_in)
    go_ret
    exact ⟨ret_i (Hc.out H.out).symm, rfl⟩
  · have h1 : (kindI a == 0) = false := beq_eq_false_iff_ne.2 h
    have H := Lib.hid h
    clear h
    go_enter Try.func47, Try.ntmps47
    go_wp2_with (first
      | (go_at_call 56; refine (r2_Kind a _).mono ?_; rintro e w' ⟨rfl, rfl⟩)
      | go_in)
    go_ret
    exact ⟨ret_i (Hc'.out H.out).symm, rfl⟩
end Go.Proofs.Ytgdobomofdenfaa.Lk
