/- The calls of the cache whose answers are fixed: they all are as told. -/
import Derived.Test.YtgdobomofdenfaaLkCaF
namespace Go.Proofs.Ytgdobomofdenfaa.Lk
open Go.RowKit Go.Proofs.YtgdobomofdenfaaW.PrintWords Go.Shelf
set_option linter.unusedVariables false
set_option linter.unusedSimpArgs false

theorem class_bits : bitsOk classH.objs := by
  intro o ho
  simp only [classH, List.mem_cons, List.not_mem_nil, or_false] at ho
  rcases ho with rfl | rfl | rfl <;> exact ⟨by decide, by decide⟩
def emptyH : Hp := ⟨[], 0, 0⟩
theorem empty_bits : bitsOk emptyH.objs := by intro o ho; cases ho
theorem empty_row (W : World) : kOb.C W none emptyH.objs.length emptyH.objs := ⟨rfl, Nat.zero_le _, fun h => absurd h (Nat.lt_irrefl _)⟩
def l0 : List En := List.replicate 4 eZ
def l1 : List En := [eZ, eZ, ⟨2, 0, 21, 2, true⟩, eZ]
theorem c1 : resF classH 2 0 l0 = (21, 2, 0) := by kernel_rfl
theorem c2 : entF classH 2 0 l0 = l1 := by kernel_rfl
theorem c3 : resF emptyH 2 0 l1 = (21, 2, 0) := by kernel_rfl
theorem c4 : entF emptyH 2 0 l1 = l1 := by kernel_rfl
theorem c5 : resF emptyH 2 0 l0 = (0, 0, 1) := by kernel_rfl
theorem c6 : entF emptyH 2 0 l0 = l0 := by kernel_rfl
theorem c7 : findI classH 2 2 = (31, 2, 0) := by kernel_rfl
theorem c8 : hitF 2 0 l0 0 = 0 ∧ misF 2 0 l0 0 = 1 ∧ hitF 2 0 l1 0 = 1 ∧ misF 2 0 l1 1 = 1 ∧ hitF 2 0 l0 1 = 1 ∧ misF 2 0 l0 1 = 2 := ⟨by kernel_rfl, by kernel_rfl, by kernel_rfl, by kernel_rfl, by kernel_rfl, by kernel_rfl⟩
/-- The three Finds. -/
theorem fix_1 {gc ge : Nat} (w : World) (A : Option Addr) (cp : Nat) (hl : 3 ≤ cp) (hr : ∀ W', Keep2 gc ge w W' → kOb.C W' A 3 classH.objs) (k : CaAt 73 81 gc ge l0 0 0 w) :
    Calls Try.prog 25 #[.pointer (some ⟨gc, 0, none⟩), .agg #[.slice A 3 cp, .int .i64 4, .int .i64 0], .int .i64 2, .int .i64 0] w fun e w' => e = .returned (.tuple #[.int .i64 21, .int .i64 2, .int .i64 0]) ∧ CaAt 73 81 gc ge l1 0 1 w' ∧ Keep2 gc ge w w' := by
  have := ca_Find w A cp classH 2 0 class_bits hl hr (by decide) (by decide) k (by decide) (by decide)
  unfold CaPost at this
  rw [c1, c2, c8.1, c8.2.1] at this
  exact this
theorem fix_2 {gc ge : Nat} (w : World) (k : CaAt 73 81 gc ge l1 0 1 w) :
    Calls Try.prog 25 #[.pointer (some ⟨gc, 0, none⟩), .agg #[.slice none 0 0, .int .i64 0, .int .i64 0], .int .i64 2, .int .i64 0] w fun e w' => e = .returned (.tuple #[.int .i64 21, .int .i64 2, .int .i64 0]) ∧ CaAt 73 81 gc ge l1 1 1 w' ∧ Keep2 gc ge w w' := by
  have := ca_Find w none 0 emptyH 2 0 empty_bits (Nat.le_refl _) (fun W' _ => empty_row W') (by decide) (by decide) k (by decide) (by decide)
  unfold CaPost at this
  rw [c3, c4, c8.2.2.1, c8.2.2.2.1] at this
  exact this
theorem fix_3 {gc ge : Nat} (w : World) (k : CaAt 73 81 gc ge l0 1 1 w) :
    Calls Try.prog 25 #[.pointer (some ⟨gc, 0, none⟩), .agg #[.slice none 0 0, .int .i64 0, .int .i64 0], .int .i64 2, .int .i64 0] w fun e w' => e = .returned (.tuple #[.int .i64 0, .int .i64 0, .int .i64 1]) ∧ CaAt 73 81 gc ge l0 1 2 w' ∧ Keep2 gc ge w w' := by
  have := ca_Find w none 0 emptyH 2 0 empty_bits (Nat.le_refl _) (fun W' _ => empty_row W') (by decide) (by decide) k (by decide) (by decide)
  unfold CaPost at this
  rw [c5, c6, c8.2.2.2.2.1, c8.2.2.2.2.2] at this
  exact this
theorem fix_4 (w : World) (A : Option Addr) (cp : Nat) (hl : 3 ≤ cp) (hr : kOb.C w A 3 classH.objs) :
    Calls Try.prog 25 #[.pointer none, .agg #[.slice A 3 cp, .int .i64 4, .int .i64 0], .int .i64 2, .int .i64 2] w fun e w' => e = .returned (.tuple #[.int .i64 31, .int .i64 2, .int .i64 0]) ∧ Below w.heap.size w w' := by
  have := ca_Find_nil w A cp classH 2 2 class_bits hl hr
  rw [c7] at this
  exact this

set_option maxRecDepth 100000 in
set_option maxHeartbeats 4000000 in
theorem law10_fixed (w : World) : Calls Try.prog 20 #[] w fun e w' => e = .returned (.bool true) ∧ Below w.heap.size w w' := by
  have hu24 := Try.underlying24
  have hu34 := Try.underlying34
  go_enter Try.func20, Try.ntmps20
  go_upto_region 2 with (go_at_call 21; refine (ca_New 4 _ (by decide) (by decide)).mono ?_; rintro e w1 ⟨rfl, k, hb⟩; have K := Lib.hid k; have HB := Lib.hid hb; clear k hb)
  go_upto_region 4 with (go_at_call 21; refine (ca_New_bad _ _ (by decide)).mono ?_; rintro e w2 ⟨rfl, rfl⟩)
  have hk1 := Lib.hid K.out.in_
  go_upto_region 5 with (first
    | (go_at_call 41; refine (law_class _).mono ?_; rintro e w3 ⟨⟨A, cp, he, hl, hrd⟩, hb⟩; obtain rfl : e = .returned (.agg #[.slice A 3 cp, .int .i64 4, .int .i64 0]) := he; have HL : 3 ≤ cp := hl; have HR := Lib.hid (show ∀ W', Keep2 (w.heap.size + 1) w.heap.size w3 W' → kOb.C W' A 3 classH.objs from fun W' q => hrd W' (fun k h1 h2 => q.block k h2 (by have := hk1.out.1; omega) (by have := hk1.out.2; omega))); replace K := Lib.hid (K.out.next hb); replace HB := Lib.hid (below_up HB.out HB.out.size hb); clear hl hrd hb)
    | (go_at_call 25; refine (fix_1 _ A cp HL HR.out K.out).mono ?_; rintro e w4 ⟨rfl, k, q⟩; replace K := Lib.hid k; replace HB := Lib.hid (q.below HB.out (Nat.le_succ _) (Nat.le_refl _) HB.out.size); clear k q HR))
  go_upto_region 8 with (first
    | (go_at_call 25; refine (fix_2 _ K.out).mono ?_; rintro e w5 ⟨rfl, k, q⟩; replace K := Lib.hid k; replace HB := Lib.hid (q.below HB.out (Nat.le_succ _) (Nat.le_refl _) HB.out.size); clear k q)
    | (go_at_call 27; refine (ca_Hits _ K.out).mono ?_; rintro e w6 ⟨rfl, hb⟩; replace K := Lib.hid (K.out.next hb); replace HB := Lib.hid (below_up HB.out HB.out.size hb); clear hb)
    | (go_at_call 23; refine (ca_Flush _ (by decide) K.out).mono ?_; rintro e w7 ⟨rfl, k, q⟩; replace K := Lib.hid k; replace HB := Lib.hid (q.below HB.out (Nat.le_succ _) (Nat.le_refl _) HB.out.size); clear k q))
  go_upto_region 11 with (first
    | (go_at_call 25; refine (fix_3 _ K.out).mono ?_; rintro e w8 ⟨rfl, k, q⟩; replace K := Lib.hid k; replace HB := Lib.hid (q.below HB.out (Nat.le_succ _) (Nat.le_refl _) HB.out.size); clear k q)
    | (go_at_call 27; refine (ca_Hits _ K.out).mono ?_; rintro e w9 ⟨rfl, hb⟩; replace K := Lib.hid (K.out.next hb); replace HB := Lib.hid (below_up HB.out HB.out.size hb); clear hb))
  go_wp2_with (first
    | (go_at_call 23; refine (ca_Flush_nil _).mono ?_; rintro e w10 ⟨rfl, rfl⟩)
    | (go_at_call 41; refine (law_class _).mono ?_; rintro e w11 ⟨⟨A', cp', he, hl, hrd⟩, hb⟩; obtain rfl : e = .returned (.agg #[.slice A' 3 cp', .int .i64 4, .int .i64 0]) := he; have HL' : 3 ≤ cp' := hl; have HR' := Lib.hid (show kOb.C w11 A' 3 classH.objs from hrd _ (fun _ _ _ => rfl)); replace HB := Lib.hid (below_up HB.out HB.out.size hb); clear hl hrd hb)
    | (go_at_call 25; refine (fix_4 _ A' cp' HL' HR'.out).mono ?_; rintro e w12 ⟨rfl, hb⟩; replace HB := Lib.hid (below_up HB.out HB.out.size hb); clear hb))
  go_ret
  exact ⟨rfl, HB.out⟩
end Go.Proofs.Ytgdobomofdenfaa.Lk
