/- The calls whose answers are fixed: they all are as told. -/
import Derived.Test.YtgdobomofdenfaaLkTower
namespace Go.Proofs.Ytgdobomofdenfaa.Lk
open Go.RowKit Go.Proofs.YtgdobomofdenfaaW.PrintWords Go.Shelf
set_option linter.unusedVariables false
set_option linter.unusedSimpArgs false

theorem tower_bits : bitsOk towerH.objs := by
  intro o ho
  simp only [towerH, List.mem_cons, List.not_mem_nil, or_false] at ho
  rcases ho with rfl | rfl | rfl | rfl | rfl <;> exact ⟨by decide, by decide⟩
theorem tower_may : mayB towerH = true := by kernel_rfl
abbrev towerV (A : Option Addr) (cp : Nat) : Value := .agg #[.slice A 5 cp, .int .i64 9, .int .i64 0]
section
variable (A : Option Addr) (cp : Nat) (w : World) (hl : 5 ≤ cp) (hr : kOb.C w A 5 towerH.objs)
include hl hr in
theorem tower_Find (c s : Int) : Calls Try.prog 14 #[.agg #[.slice A 5 cp, .int .i64 9, .int .i64 0], .int .i64 c, .int .i64 s] w fun x w' => x = .returned (.tuple #[.int .i64 (findI towerH c s).1, .int .i64 (findI towerH c s).2.1, .int .i64 (findI towerH c s).2.2]) ∧ Below w.heap.size w w' :=
  look_Find A cp towerH c s w tower_bits hl hr
include hl hr in
theorem tower_Of (c : Int) : Calls Try.prog 30 #[.agg #[.slice A 5 cp, .int .i64 9, .int .i64 0], .int .i64 c] w fun x w' => x = .returned (.tuple #[.int .i64 (ofI towerH c).1, .int .i64 (ofI towerH c).2]) ∧ Below w.heap.size w w' :=
  look_Of A cp towerH c w tower_bits hl hr
include hl hr in
theorem tower_Under (c d : Int) : Calls Try.prog 15 #[.agg #[.slice A 5 cp, .int .i64 9, .int .i64 0], .int .i64 c, .int .i64 d] w fun x w' => x = .returned (.bool (underB towerH c d)) ∧ Below w.heap.size w w' :=
  look_Under A cp towerH c d w tower_bits hl hr
include hl hr in
theorem tower_May (c : Int) : Calls Try.prog 31 #[.agg #[.slice A 5 cp, .int .i64 9, .int .i64 0], .int .i64 c] w fun x w' => x = .returned (.bool (mayB towerH && classB towerH.objs c)) ∧ Below w.heap.size w w' :=
  look_May A cp towerH c w tower_bits hl hr
end
theorem t1 : findI towerH 2 0 = (21, 2, 0) := by kernel_rfl
theorem t2 : findI towerH 2 2 = (41, 4, 0) := by kernel_rfl
theorem t3 : findI towerH 2 4 = (0, 0, 91) := by kernel_rfl
theorem t4 : findI towerH 6 0 = (0, 0, 90) := by kernel_rfl
theorem t5 : ofI towerH 7 = (6, 0) := by kernel_rfl
theorem t6 : ofI towerH 2 = (0, 0) := by kernel_rfl
theorem t7 : ofI towerH 10 = (0, 31) := by kernel_rfl
theorem t8 : underB towerH 2 4 = true := by kernel_rfl
theorem t9 : underB towerH 4 2 = false := by kernel_rfl
theorem t10 : (mayB towerH && classB towerH.objs 2) = true := by kernel_rfl
theorem t11 : (mayB towerH && classB towerH.objs 6) = false := by kernel_rfl

structure TowerAt (w0 : World) (A : Option Addr) (cp g : Nat) (W : World) : Prop where
  row : kOb.C W A 5 towerH.objs
  c0 : W.cell? ⟨g, 0, none⟩ = some (.slice A 5 cp)
  c1 : W.cell? ⟨g, 1, none⟩ = some (.int .i64 9)
  c2 : W.cell? ⟨g, 2, none⟩ = some (.int .i64 0)
  below : Below w0.heap.size w0 W
theorem TowerAt.next {w0 : World} {A : Option Addr} {cp g : Nat} {W W1 : World} (h : TowerAt w0 A cp g W) (hb : Below W.heap.size W W1) : TowerAt w0 A cp g W1 :=
  ⟨Kd.C_below h.row hb, pw_cell_below hb h.c0, pw_cell_below hb h.c1, pw_cell_below hb h.c2, below_up h.below h.below.size hb⟩
theorem TowerAt.first {w0 w1 : World} {A : Option Addr} {cp : Nat} (hr : kOb.C w1 A 5 towerH.objs) (hb : Below w0.heap.size w0 w1) : TowerAt w0 A cp w1.heap.size (w1.alloc (.cells #[.slice A 5 cp, .int .i64 9, .int .i64 0] 24)) := by
  obtain ⟨h1, h2, h3⟩ := box1 w1 (.cells #[.slice A 5 cp, .int .i64 9, .int .i64 0] 24)
  exact ⟨Kd.C_below hr h1, cellof h2 0, cellof h2 1, cellof h2 2, below_up hb hb.size h1⟩

set_option maxRecDepth 100000 in
set_option maxHeartbeats 4000000 in
theorem law_fixed (w : World) : Calls Try.prog 11 #[] w fun e w' => e = .returned (.bool true) ∧ Below w.heap.size w w' := by
  have hu24 := Try.underlying24
  have hu34 := Try.underlying34
  go_enter Try.func11, Try.ntmps11
  go_wp2_with (first
    | (go_at_call 29; refine (law_tower _).mono ?_; rintro e w1 ⟨⟨A, cp, he, hl, hr⟩, hb⟩; obtain rfl : e = .returned (.agg #[.slice A 5 cp, .int .i64 9, .int .i64 0]) := he; have HL : 5 ≤ cp := hl; have HT := Lib.hid (TowerAt.first (cp := cp) hr hb); clear hl hr hb)
    | (go_at_call 14; refine (tower_Find A cp _ HL HT.out.row _ _).mono ?_; rintro e w2 ⟨he, hb⟩; simp only [t1, t2, t3, t4] at he; subst he; replace HT := Lib.hid (HT.out.next hb); clear hb; have d0 := HT.out.c0; have d1 := HT.out.c1; have d2 := HT.out.c2)
    | (go_at_call 30; refine (tower_Of A cp _ HL HT.out.row _).mono ?_; rintro e w2 ⟨he, hb⟩; simp only [t5, t6, t7] at he; subst he; replace HT := Lib.hid (HT.out.next hb); clear hb; have d0 := HT.out.c0; have d1 := HT.out.c1; have d2 := HT.out.c2)
    | (go_at_call 15; refine (tower_Under A cp _ HL HT.out.row _ _).mono ?_; rintro e w2 ⟨he, hb⟩; simp only [t8, t9] at he; subst he; replace HT := Lib.hid (HT.out.next hb); clear hb; have d0 := HT.out.c0; have d1 := HT.out.c1; have d2 := HT.out.c2)
    | (go_at_call 31; refine (tower_May A cp _ HL HT.out.row _).mono ?_; rintro e w2 ⟨he, hb⟩; simp only [t10, t11] at he; subst he; replace HT := Lib.hid (HT.out.next hb); clear hb; have d0 := HT.out.c0; have d1 := HT.out.c1; have d2 := HT.out.c2))
  go_ret
  exact ⟨rfl, HT.out.below⟩
end Go.Proofs.Ytgdobomofdenfaa.Lk
