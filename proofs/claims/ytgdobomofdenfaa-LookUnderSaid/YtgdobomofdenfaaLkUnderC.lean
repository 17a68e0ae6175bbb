/- The second law's walk: the ways of one that may be. -/
import Derived.Test.YtgdobomofdenfaaLkUnderB
namespace Go.Proofs.Ytgdobomofdenfaa.Lk
open Go.RowKit Go.Proofs.YtgdobomofdenfaaW.PrintWords Go.Shelf
set_option linter.unusedVariables false
set_option linter.unusedSimpArgs false

set_option maxRecDepth 100000 in
set_option maxHeartbeats 4000000 in
theorem und_1 (A : Option Addr) (cp : Nat) (h : Hp) (a b c sel : Int) (w : World) (hbits : bitsOk h.objs) (hl : h.objs.length ≤ cp) (hr : kOb.C w A h.objs.length h.objs) (hm : mayB h = true) (hn : ¬ (30 : Int) < (h.objs.length : Int)) (hself : underB h a a = classB h.objs a) (h1 : underB h a b = false) :
    Calls Try.prog 4 #[.agg #[.slice A h.objs.length cp, .int .i64 h.cap, .int .i64 h.last], .agg #[.int .i64 a, .int .i64 b, .int .i64 c], .int .i64 sel] w fun e w' => e = .returned (.bool true) ∧ Below w.heap.size w w' := by
  have hu24 := Try.underlying24
  have hu34 := Try.underlying34
  have hmx := Kd.C_max hr
  have HM := Lib.hid hm
  have HI := Lib.hid hbits
  have HT := Lib.hid (ArAt.first (cp := cp) (a := a) (b := b) (c := c) hr)
  clear hr hbits hm
  cases hca : classB h.objs a
  ·
    rw [hca] at hself
    go_enter Try.func4, Try.ntmps4
    go_wp2_with (first
      | (go_at_call 11; refine (law_fixed _).mono ?_; rintro e w2 ⟨rfl, hb⟩; replace HT := Lib.hid (HT.out.next hb); clear hb; have d0 := HT.out.hp.c0; have d1 := HT.out.hp.c1; have d2 := HT.out.hp.c2)
      | (go_at_call 12; refine (r3_Small A cp h _ hl HT.out.hp.row).mono ?_; rintro e w2 ⟨⟨b, rfl⟩, hb⟩; replace HT := Lib.hid (HT.out.next hb); clear hb; have d0 := HT.out.hp.c0; have d1 := HT.out.hp.c1; have d2 := HT.out.hp.c2; cases b)
      | (go_at_call 13; refine (r3_May A cp h _ hl HT.out.hp.row).mono ?_; rintro e w2 ⟨he, hb⟩; rw [HM.out] at he; subst he; replace HT := Lib.hid (HT.out.next hb); clear hb; have d0 := HT.out.hp.c0; have d1 := HT.out.hp.c1; have d2 := HT.out.hp.c2))
    all_goals try (go_ret; exact ⟨rfl, HT.out.hp.below⟩)
    have z0 := fun x : Ext w2 => x.cell HT.out.a0
    have z1 := fun x : Ext w2 => x.cell HT.out.a1
    have z2 := fun x : Ext w2 => x.cell HT.out.a2
    refine wp_region_ext (by kernel_rfl) (by kernel_rfl) ?_
    repeat (go_big_quiet_step (fail))
    refine wpQuiet_nil ?_
    rintro _ ⟨x, rfl⟩
    clear z0 z1 z2 d0 d1 d2
    replace HT := Lib.hid (HT.out.next x.below)
    have d0 := HT.out.hp.c0
    have d1 := HT.out.hp.c1
    have d2 := HT.out.hp.c2
    go_wp2
    have v0 := fun y : Ext x.val => y.cell d0
    have v1 := fun y : Ext x.val => y.cell d1
    have v2 := fun y : Ext x.val => y.cell d2
    have UAA : ∀ y : Ext x.val, Calls Try.prog 15 #[.agg #[.slice A h.objs.length cp, .int .i64 h.cap, .int .i64 h.last], .int .i64 a, .int .i64 a] y.val fun e w'' => e = .returned (.bool false) ∧ ∃ z : Ext x.val, w'' = z.val := fun y => calls_ext (by have := look_Under A cp h a a y.val HI.out hl (Kd.C_below HT.out.hp.row y.below); rwa [hself] at this)
    have MA : ∀ y : Ext x.val, Calls Try.prog 16 #[.agg #[.slice A h.objs.length cp, .int .i64 h.cap, .int .i64 h.last], .int .i64 a] y.val fun e w'' => e = .returned (.bool false) ∧ ∃ z : Ext x.val, w'' = z.val := fun y => calls_ext (by have := r9_class A cp h a y.val HM.out hl (Kd.C_below HT.out.hp.row y.below); rwa [hca] at this)
    have UAB : ∀ y : Ext x.val, Calls Try.prog 15 #[.agg #[.slice A h.objs.length cp, .int .i64 h.cap, .int .i64 h.last], .int .i64 a, .int .i64 b] y.val fun e w'' => e = .returned (.bool false) ∧ ∃ z : Ext x.val, w'' = z.val := fun y => calls_ext (by have := look_Under A cp h a b y.val HI.out hl (Kd.C_below HT.out.hp.row y.below); rwa [h1] at this)
    refine wp_region_ext (by kernel_rfl) (by kernel_rfl) ?_
    repeat (go_big_quiet_step ((first | (go_at_call 15; with_reducible (first | exact UAA _ | exact UAB _ | exact UBC _ | exact UAC _)) | (go_at_call 16; with_reducible (first | exact MA _ | exact MC _)))))
    refine wpQuiet_nil ?_
    rintro _ ⟨y, rfl⟩
    clear v0 v1 v2 d0 d1 d2 UAA MA
    replace HT := Lib.hid (HT.out.next y.below)
    have d0 := HT.out.hp.c0
    have d1 := HT.out.hp.c1
    have d2 := HT.out.hp.c2
    go_wp2_with (first
      | (go_at_call 14; refine (look_Find A cp h _ sel _ HI.out hl HT.out.hp.row).mono ?_; rintro e w2 ⟨rfl, hb⟩; replace HT := Lib.hid (HT.out.next hb); clear hb; have d0 := HT.out.hp.c0; have d1 := HT.out.hp.c1; have d2 := HT.out.hp.c2)
      | (go_at_call 15; refine (look_Under A cp h _ _ _ HI.out hl HT.out.hp.row).mono ?_; rintro e w2 ⟨rfl, hb⟩; replace HT := Lib.hid (HT.out.next hb); clear hb; have d0 := HT.out.hp.c0; have d1 := HT.out.hp.c1; have d2 := HT.out.hp.c2))
    go_ret
    exact ⟨rfl, HT.out.hp.below⟩
  ·
    rw [hca] at hself
    go_enter Try.func4, Try.ntmps4
    go_wp2_with (first
      | (go_at_call 11; refine (law_fixed _).mono ?_; rintro e w2 ⟨rfl, hb⟩; replace HT := Lib.hid (HT.out.next hb); clear hb; have d0 := HT.out.hp.c0; have d1 := HT.out.hp.c1; have d2 := HT.out.hp.c2)
      | (go_at_call 12; refine (r3_Small A cp h _ hl HT.out.hp.row).mono ?_; rintro e w2 ⟨⟨b, rfl⟩, hb⟩; replace HT := Lib.hid (HT.out.next hb); clear hb; have d0 := HT.out.hp.c0; have d1 := HT.out.hp.c1; have d2 := HT.out.hp.c2; cases b)
      | (go_at_call 13; refine (r3_May A cp h _ hl HT.out.hp.row).mono ?_; rintro e w2 ⟨he, hb⟩; rw [HM.out] at he; subst he; replace HT := Lib.hid (HT.out.next hb); clear hb; have d0 := HT.out.hp.c0; have d1 := HT.out.hp.c1; have d2 := HT.out.hp.c2))
    all_goals try (go_ret; exact ⟨rfl, HT.out.hp.below⟩)
    have z0 := fun x : Ext w2 => x.cell HT.out.a0
    have z1 := fun x : Ext w2 => x.cell HT.out.a1
    have z2 := fun x : Ext w2 => x.cell HT.out.a2
    refine wp_region_ext (by kernel_rfl) (by kernel_rfl) ?_
    repeat (go_big_quiet_step (fail))
    refine wpQuiet_nil ?_
    rintro _ ⟨x, rfl⟩
    clear z0 z1 z2 d0 d1 d2
    replace HT := Lib.hid (HT.out.next x.below)
    have d0 := HT.out.hp.c0
    have d1 := HT.out.hp.c1
    have d2 := HT.out.hp.c2
    go_wp2
    have v0 := fun y : Ext x.val => y.cell d0
    have v1 := fun y : Ext x.val => y.cell d1
    have v2 := fun y : Ext x.val => y.cell d2
    have UAA : ∀ y : Ext x.val, Calls Try.prog 15 #[.agg #[.slice A h.objs.length cp, .int .i64 h.cap, .int .i64 h.last], .int .i64 a, .int .i64 a] y.val fun e w'' => e = .returned (.bool true) ∧ ∃ z : Ext x.val, w'' = z.val := fun y => calls_ext (by have := look_Under A cp h a a y.val HI.out hl (Kd.C_below HT.out.hp.row y.below); rwa [hself] at this)
    have MA : ∀ y : Ext x.val, Calls Try.prog 16 #[.agg #[.slice A h.objs.length cp, .int .i64 h.cap, .int .i64 h.last], .int .i64 a] y.val fun e w'' => e = .returned (.bool true) ∧ ∃ z : Ext x.val, w'' = z.val := fun y => calls_ext (by have := r9_class A cp h a y.val HM.out hl (Kd.C_below HT.out.hp.row y.below); rwa [hca] at this)
    have UAB : ∀ y : Ext x.val, Calls Try.prog 15 #[.agg #[.slice A h.objs.length cp, .int .i64 h.cap, .int .i64 h.last], .int .i64 a, .int .i64 b] y.val fun e w'' => e = .returned (.bool false) ∧ ∃ z : Ext x.val, w'' = z.val := fun y => calls_ext (by have := look_Under A cp h a b y.val HI.out hl (Kd.C_below HT.out.hp.row y.below); rwa [h1] at this)
    refine wp_region_ext (by kernel_rfl) (by kernel_rfl) ?_
    repeat (go_big_quiet_step ((first | (go_at_call 15; with_reducible (first | exact UAA _ | exact UAB _ | exact UBC _ | exact UAC _)) | (go_at_call 16; with_reducible (first | exact MA _ | exact MC _)))))
    refine wpQuiet_nil ?_
    rintro _ ⟨y, rfl⟩
    clear v0 v1 v2 d0 d1 d2 UAA MA
    replace HT := Lib.hid (HT.out.next y.below)
    have d0 := HT.out.hp.c0
    have d1 := HT.out.hp.c1
    have d2 := HT.out.hp.c2
    go_wp2_with (first
      | (go_at_call 14; refine (look_Find A cp h _ sel _ HI.out hl HT.out.hp.row).mono ?_; rintro e w2 ⟨rfl, hb⟩; replace HT := Lib.hid (HT.out.next hb); clear hb; have d0 := HT.out.hp.c0; have d1 := HT.out.hp.c1; have d2 := HT.out.hp.c2)
      | (go_at_call 15; refine (look_Under A cp h _ _ _ HI.out hl HT.out.hp.row).mono ?_; rintro e w2 ⟨rfl, hb⟩; replace HT := Lib.hid (HT.out.next hb); clear hb; have d0 := HT.out.hp.c0; have d1 := HT.out.hp.c1; have d2 := HT.out.hp.c2))
    go_ret
    exact ⟨rfl, HT.out.hp.below⟩

set_option maxRecDepth 100000 in
set_option maxHeartbeats 4000000 in
theorem und_2 (A : Option Addr) (cp : Nat) (h : Hp) (a b c sel : Int) (w : World) (hbits : bitsOk h.objs) (hl : h.objs.length ≤ cp) (hr : kOb.C w A h.objs.length h.objs) (hm : mayB h = true) (hn : ¬ (30 : Int) < (h.objs.length : Int)) (hself : underB h a a = classB h.objs a) (h1 : underB h a b = true) (h2 : underB h b c = false) (h5 : ((findI h b sel).2.2 != 0) = true) :
    Calls Try.prog 4 #[.agg #[.slice A h.objs.length cp, .int .i64 h.cap, .int .i64 h.last], .agg #[.int .i64 a, .int .i64 b, .int .i64 c], .int .i64 sel] w fun e w' => e = .returned (.bool true) ∧ Below w.heap.size w w' := by
  have hu24 := Try.underlying24
  have hu34 := Try.underlying34
  have hmx := Kd.C_max hr
  have HM := Lib.hid hm
  have HI := Lib.hid hbits
  have HT := Lib.hid (ArAt.first (cp := cp) (a := a) (b := b) (c := c) hr)
  clear hr hbits hm
  cases hca : classB h.objs a
  ·
    rw [hca] at hself
    go_enter Try.func4, Try.ntmps4
    go_wp2_with (first
      | (go_at_call 11; refine (law_fixed _).mono ?_; rintro e w2 ⟨rfl, hb⟩; replace HT := Lib.hid (HT.out.next hb); clear hb; have d0 := HT.out.hp.c0; have d1 := HT.out.hp.c1; have d2 := HT.out.hp.c2)
      | (go_at_call 12; refine (r3_Small A cp h _ hl HT.out.hp.row).mono ?_; rintro e w2 ⟨⟨b, rfl⟩, hb⟩; replace HT := Lib.hid (HT.out.next hb); clear hb; have d0 := HT.out.hp.c0; have d1 := HT.out.hp.c1; have d2 := HT.out.hp.c2; cases b)
      | (go_at_call 13; refine (r3_May A cp h _ hl HT.out.hp.row).mono ?_; rintro e w2 ⟨he, hb⟩; rw [HM.out] at he; subst he; replace HT := Lib.hid (HT.out.next hb); clear hb; have d0 := HT.out.hp.c0; have d1 := HT.out.hp.c1; have d2 := HT.out.hp.c2))
    all_goals try (go_ret; exact ⟨rfl, HT.out.hp.below⟩)
    have z0 := fun x : Ext w2 => x.cell HT.out.a0
    have z1 := fun x : Ext w2 => x.cell HT.out.a1
    have z2 := fun x : Ext w2 => x.cell HT.out.a2
    refine wp_region_ext (by kernel_rfl) (by kernel_rfl) ?_
    repeat (go_big_quiet_step (fail))
    refine wpQuiet_nil ?_
    rintro _ ⟨x, rfl⟩
    clear z0 z1 z2 d0 d1 d2
    replace HT := Lib.hid (HT.out.next x.below)
    have d0 := HT.out.hp.c0
    have d1 := HT.out.hp.c1
    have d2 := HT.out.hp.c2
    go_wp2
    have v0 := fun y : Ext x.val => y.cell d0
    have v1 := fun y : Ext x.val => y.cell d1
    have v2 := fun y : Ext x.val => y.cell d2
    have UAA : ∀ y : Ext x.val, Calls Try.prog 15 #[.agg #[.slice A h.objs.length cp, .int .i64 h.cap, .int .i64 h.last], .int .i64 a, .int .i64 a] y.val fun e w'' => e = .returned (.bool false) ∧ ∃ z : Ext x.val, w'' = z.val := fun y => calls_ext (by have := look_Under A cp h a a y.val HI.out hl (Kd.C_below HT.out.hp.row y.below); rwa [hself] at this)
    have MA : ∀ y : Ext x.val, Calls Try.prog 16 #[.agg #[.slice A h.objs.length cp, .int .i64 h.cap, .int .i64 h.last], .int .i64 a] y.val fun e w'' => e = .returned (.bool false) ∧ ∃ z : Ext x.val, w'' = z.val := fun y => calls_ext (by have := r9_class A cp h a y.val HM.out hl (Kd.C_below HT.out.hp.row y.below); rwa [hca] at this)
    have UAB : ∀ y : Ext x.val, Calls Try.prog 15 #[.agg #[.slice A h.objs.length cp, .int .i64 h.cap, .int .i64 h.last], .int .i64 a, .int .i64 b] y.val fun e w'' => e = .returned (.bool true) ∧ ∃ z : Ext x.val, w'' = z.val := fun y => calls_ext (by have := look_Under A cp h a b y.val HI.out hl (Kd.C_below HT.out.hp.row y.below); rwa [h1] at this)
    have UBC : ∀ y : Ext x.val, Calls Try.prog 15 #[.agg #[.slice A h.objs.length cp, .int .i64 h.cap, .int .i64 h.last], .int .i64 b, .int .i64 c] y.val fun e w'' => e = .returned (.bool false) ∧ ∃ z : Ext x.val, w'' = z.val := fun y => calls_ext (by have := look_Under A cp h b c y.val HI.out hl (Kd.C_below HT.out.hp.row y.below); rwa [h2] at this)
    refine wp_region_ext (by kernel_rfl) (by kernel_rfl) ?_
    repeat (go_big_quiet_step ((first | (go_at_call 15; with_reducible (first | exact UAA _ | exact UAB _ | exact UBC _ | exact UAC _)) | (go_at_call 16; with_reducible (first | exact MA _ | exact MC _)))))
    refine wpQuiet_nil ?_
    rintro _ ⟨y, rfl⟩
    clear v0 v1 v2 d0 d1 d2 UAA MA
    replace HT := Lib.hid (HT.out.next y.below)
    have d0 := HT.out.hp.c0
    have d1 := HT.out.hp.c1
    have d2 := HT.out.hp.c2
    go_wp2_with (first
      | (go_at_call 14; refine (look_Find A cp h _ sel _ HI.out hl HT.out.hp.row).mono ?_; rintro e w2 ⟨rfl, hb⟩; replace HT := Lib.hid (HT.out.next hb); clear hb; have d0 := HT.out.hp.c0; have d1 := HT.out.hp.c1; have d2 := HT.out.hp.c2)
      | (go_at_call 15; refine (look_Under A cp h _ _ _ HI.out hl HT.out.hp.row).mono ?_; rintro e w2 ⟨rfl, hb⟩; replace HT := Lib.hid (HT.out.next hb); clear hb; have d0 := HT.out.hp.c0; have d1 := HT.out.hp.c1; have d2 := HT.out.hp.c2))
    go_ret
    exact ⟨rfl, HT.out.hp.below⟩
  ·
    rw [hca] at hself
    go_enter Try.func4, Try.ntmps4
    go_wp2_with (first
      | (go_at_call 11; refine (law_fixed _).mono ?_; rintro e w2 ⟨rfl, hb⟩; replace HT := Lib.hid (HT.out.next hb); clear hb; have d0 := HT.out.hp.c0; have d1 := HT.out.hp.c1; have d2 := HT.out.hp.c2)
      | (go_at_call 12; refine (r3_Small A cp h _ hl HT.out.hp.row).mono ?_; rintro e w2 ⟨⟨b, rfl⟩, hb⟩; replace HT := Lib.hid (HT.out.next hb); clear hb; have d0 := HT.out.hp.c0; have d1 := HT.out.hp.c1; have d2 := HT.out.hp.c2; cases b)
      | (go_at_call 13; refine (r3_May A cp h _ hl HT.out.hp.row).mono ?_; rintro e w2 ⟨he, hb⟩; rw [HM.out] at he; subst he; replace HT := Lib.hid (HT.out.next hb); clear hb; have d0 := HT.out.hp.c0; have d1 := HT.out.hp.c1; have d2 := HT.out.hp.c2))
    all_goals try (go_ret; exact ⟨rfl, HT.out.hp.below⟩)
    have z0 := fun x : Ext w2 => x.cell HT.out.a0
    have z1 := fun x : Ext w2 => x.cell HT.out.a1
    have z2 := fun x : Ext w2 => x.cell HT.out.a2
    refine wp_region_ext (by kernel_rfl) (by kernel_rfl) ?_
    repeat (go_big_quiet_step (fail))
    refine wpQuiet_nil ?_
    rintro _ ⟨x, rfl⟩
    clear z0 z1 z2 d0 d1 d2
    replace HT := Lib.hid (HT.out.next x.below)
    have d0 := HT.out.hp.c0
    have d1 := HT.out.hp.c1
    have d2 := HT.out.hp.c2
    go_wp2
    have v0 := fun y : Ext x.val => y.cell d0
    have v1 := fun y : Ext x.val => y.cell d1
    have v2 := fun y : Ext x.val => y.cell d2
    have UAA : ∀ y : Ext x.val, Calls Try.prog 15 #[.agg #[.slice A h.objs.length cp, .int .i64 h.cap, .int .i64 h.last], .int .i64 a, .int .i64 a] y.val fun e w'' => e = .returned (.bool true) ∧ ∃ z : Ext x.val, w'' = z.val := fun y => calls_ext (by have := look_Under A cp h a a y.val HI.out hl (Kd.C_below HT.out.hp.row y.below); rwa [hself] at this)
    have MA : ∀ y : Ext x.val, Calls Try.prog 16 #[.agg #[.slice A h.objs.length cp, .int .i64 h.cap, .int .i64 h.last], .int .i64 a] y.val fun e w'' => e = .returned (.bool true) ∧ ∃ z : Ext x.val, w'' = z.val := fun y => calls_ext (by have := r9_class A cp h a y.val HM.out hl (Kd.C_below HT.out.hp.row y.below); rwa [hca] at this)
    have UAB : ∀ y : Ext x.val, Calls Try.prog 15 #[.agg #[.slice A h.objs.length cp, .int .i64 h.cap, .int .i64 h.last], .int .i64 a, .int .i64 b] y.val fun e w'' => e = .returned (.bool true) ∧ ∃ z : Ext x.val, w'' = z.val := fun y => calls_ext (by have := look_Under A cp h a b y.val HI.out hl (Kd.C_below HT.out.hp.row y.below); rwa [h1] at this)
    have UBC : ∀ y : Ext x.val, Calls Try.prog 15 #[.agg #[.slice A h.objs.length cp, .int .i64 h.cap, .int .i64 h.last], .int .i64 b, .int .i64 c] y.val fun e w'' => e = .returned (.bool false) ∧ ∃ z : Ext x.val, w'' = z.val := fun y => calls_ext (by have := look_Under A cp h b c y.val HI.out hl (Kd.C_below HT.out.hp.row y.below); rwa [h2] at this)
    refine wp_region_ext (by kernel_rfl) (by kernel_rfl) ?_
    repeat (go_big_quiet_step ((first | (go_at_call 15; with_reducible (first | exact UAA _ | exact UAB _ | exact UBC _ | exact UAC _)) | (go_at_call 16; with_reducible (first | exact MA _ | exact MC _)))))
    refine wpQuiet_nil ?_
    rintro _ ⟨y, rfl⟩
    clear v0 v1 v2 d0 d1 d2 UAA MA
    replace HT := Lib.hid (HT.out.next y.below)
    have d0 := HT.out.hp.c0
    have d1 := HT.out.hp.c1
    have d2 := HT.out.hp.c2
    go_wp2_with (first
      | (go_at_call 14; refine (look_Find A cp h _ sel _ HI.out hl HT.out.hp.row).mono ?_; rintro e w2 ⟨rfl, hb⟩; replace HT := Lib.hid (HT.out.next hb); clear hb; have d0 := HT.out.hp.c0; have d1 := HT.out.hp.c1; have d2 := HT.out.hp.c2)
      | (go_at_call 15; refine (look_Under A cp h _ _ _ HI.out hl HT.out.hp.row).mono ?_; rintro e w2 ⟨rfl, hb⟩; replace HT := Lib.hid (HT.out.next hb); clear hb; have d0 := HT.out.hp.c0; have d1 := HT.out.hp.c1; have d2 := HT.out.hp.c2))
    go_ret
    exact ⟨rfl, HT.out.hp.below⟩

set_option maxRecDepth 100000 in
set_option maxHeartbeats 4000000 in
theorem und_3 (A : Option Addr) (cp : Nat) (h : Hp) (a b c sel : Int) (w : World) (hbits : bitsOk h.objs) (hl : h.objs.length ≤ cp) (hr : kOb.C w A h.objs.length h.objs) (hm : mayB h = true) (hn : ¬ (30 : Int) < (h.objs.length : Int)) (hself : underB h a a = classB h.objs a) (h1 : underB h a b = true) (h2 : underB h b c = false) (h5 : ((findI h b sel).2.2 != 0) = false) (h6 : ((findI h a sel).2.2 == 0) = true) :
    Calls Try.prog 4 #[.agg #[.slice A h.objs.length cp, .int .i64 h.cap, .int .i64 h.last], .agg #[.int .i64 a, .int .i64 b, .int .i64 c], .int .i64 sel] w fun e w' => e = .returned (.bool true) ∧ Below w.heap.size w w' := by
  have hu24 := Try.underlying24
  have hu34 := Try.underlying34
  have hmx := Kd.C_max hr
  have HM := Lib.hid hm
  have HI := Lib.hid hbits
  have HT := Lib.hid (ArAt.first (cp := cp) (a := a) (b := b) (c := c) hr)
  clear hr hbits hm
  cases hca : classB h.objs a
  ·
    rw [hca] at hself
    go_enter Try.func4, Try.ntmps4
    go_wp2_with (first
      | (go_at_call 11; refine (law_fixed _).mono ?_; rintro e w2 ⟨rfl, hb⟩; replace HT := Lib.hid (HT.out.next hb); clear hb; have d0 := HT.out.hp.c0; have d1 := HT.out.hp.c1; have d2 := HT.out.hp.c2)
      | (go_at_call 12; refine (r3_Small A cp h _ hl HT.out.hp.row).mono ?_; rintro e w2 ⟨⟨b, rfl⟩, hb⟩; replace HT := Lib.hid (HT.out.next hb); clear hb; have d0 := HT.out.hp.c0; have d1 := HT.out.hp.c1; have d2 := HT.out.hp.c2; cases b)
      | (go_at_call 13; refine (r3_May A cp h _ hl HT.out.hp.row).mono ?_; rintro e w2 ⟨he, hb⟩; rw [HM.out] at he; subst he; replace HT := Lib.hid (HT.out.next hb); clear hb; have d0 := HT.out.hp.c0; have d1 := HT.out.hp.c1; have d2 := HT.out.hp.c2))
    all_goals try (go_ret; exact ⟨rfl, HT.out.hp.below⟩)
    have z0 := fun x : Ext w2 => x.cell HT.out.a0
    have z1 := fun x : Ext w2 => x.cell HT.out.a1
    have z2 := fun x : Ext w2 => x.cell HT.out.a2
    refine wp_region_ext (by kernel_rfl) (by kernel_rfl) ?_
    repeat (go_big_quiet_step (fail))
    refine wpQuiet_nil ?_
    rintro _ ⟨x, rfl⟩
    clear z0 z1 z2 d0 d1 d2
    replace HT := Lib.hid (HT.out.next x.below)
    have d0 := HT.out.hp.c0
    have d1 := HT.out.hp.c1
    have d2 := HT.out.hp.c2
    go_wp2
    have v0 := fun y : Ext x.val => y.cell d0
    have v1 := fun y : Ext x.val => y.cell d1
    have v2 := fun y : Ext x.val => y.cell d2
    have UAA : ∀ y : Ext x.val, Calls Try.prog 15 #[.agg #[.slice A h.objs.length cp, .int .i64 h.cap, .int .i64 h.last], .int .i64 a, .int .i64 a] y.val fun e w'' => e = .returned (.bool false) ∧ ∃ z : Ext x.val, w'' = z.val := fun y => calls_ext (by have := look_Under A cp h a a y.val HI.out hl (Kd.C_below HT.out.hp.row y.below); rwa [hself] at this)
    have MA : ∀ y : Ext x.val, Calls Try.prog 16 #[.agg #[.slice A h.objs.length cp, .int .i64 h.cap, .int .i64 h.last], .int .i64 a] y.val fun e w'' => e = .returned (.bool false) ∧ ∃ z : Ext x.val, w'' = z.val := fun y => calls_ext (by have := r9_class A cp h a y.val HM.out hl (Kd.C_below HT.out.hp.row y.below); rwa [hca] at this)
    have UAB : ∀ y : Ext x.val, Calls Try.prog 15 #[.agg #[.slice A h.objs.length cp, .int .i64 h.cap, .int .i64 h.last], .int .i64 a, .int .i64 b] y.val fun e w'' => e = .returned (.bool true) ∧ ∃ z : Ext x.val, w'' = z.val := fun y => calls_ext (by have := look_Under A cp h a b y.val HI.out hl (Kd.C_below HT.out.hp.row y.below); rwa [h1] at this)
    have UBC : ∀ y : Ext x.val, Calls Try.prog 15 #[.agg #[.slice A h.objs.length cp, .int .i64 h.cap, .int .i64 h.last], .int .i64 b, .int .i64 c] y.val fun e w'' => e = .returned (.bool false) ∧ ∃ z : Ext x.val, w'' = z.val := fun y => calls_ext (by have := look_Under A cp h b c y.val HI.out hl (Kd.C_below HT.out.hp.row y.below); rwa [h2] at this)
    refine wp_region_ext (by kernel_rfl) (by kernel_rfl) ?_
    repeat (go_big_quiet_step ((first | (go_at_call 15; with_reducible (first | exact UAA _ | exact UAB _ | exact UBC _ | exact UAC _)) | (go_at_call 16; with_reducible (first | exact MA _ | exact MC _)))))
    refine wpQuiet_nil ?_
    rintro _ ⟨y, rfl⟩
    clear v0 v1 v2 d0 d1 d2 UAA MA
    replace HT := Lib.hid (HT.out.next y.below)
    have d0 := HT.out.hp.c0
    have d1 := HT.out.hp.c1
    have d2 := HT.out.hp.c2
    go_wp2_with (first
      | (go_at_call 14; refine (look_Find A cp h _ sel _ HI.out hl HT.out.hp.row).mono ?_; rintro e w2 ⟨rfl, hb⟩; replace HT := Lib.hid (HT.out.next hb); clear hb; have d0 := HT.out.hp.c0; have d1 := HT.out.hp.c1; have d2 := HT.out.hp.c2)
      | (go_at_call 15; refine (look_Under A cp h _ _ _ HI.out hl HT.out.hp.row).mono ?_; rintro e w2 ⟨rfl, hb⟩; replace HT := Lib.hid (HT.out.next hb); clear hb; have d0 := HT.out.hp.c0; have d1 := HT.out.hp.c1; have d2 := HT.out.hp.c2))
    go_ret
    exact ⟨rfl, HT.out.hp.below⟩
  ·
    rw [hca] at hself
    go_enter Try.func4, Try.ntmps4
    go_wp2_with (first
      | (go_at_call 11; refine (law_fixed _).mono ?_; rintro e w2 ⟨rfl, hb⟩; replace HT := Lib.hid (HT.out.next hb); clear hb; have d0 := HT.out.hp.c0; have d1 := HT.out.hp.c1; have d2 := HT.out.hp.c2)
      | (go_at_call 12; refine (r3_Small A cp h _ hl HT.out.hp.row).mono ?_; rintro e w2 ⟨⟨b, rfl⟩, hb⟩; replace HT := Lib.hid (HT.out.next hb); clear hb; have d0 := HT.out.hp.c0; have d1 := HT.out.hp.c1; have d2 := HT.out.hp.c2; cases b)
      | (go_at_call 13; refine (r3_May A cp h _ hl HT.out.hp.row).mono ?_; rintro e w2 ⟨he, hb⟩; rw [HM.out] at he; subst he; replace HT := Lib.hid (HT.out.next hb); clear hb; have d0 := HT.out.hp.c0; have d1 := HT.out.hp.c1; have d2 := HT.out.hp.c2))
    all_goals try (go_ret; exact ⟨rfl, HT.out.hp.below⟩)
    have z0 := fun x : Ext w2 => x.cell HT.out.a0
    have z1 := fun x : Ext w2 => x.cell HT.out.a1
    have z2 := fun x : Ext w2 => x.cell HT.out.a2
    refine wp_region_ext (by kernel_rfl) (by kernel_rfl) ?_
    repeat (go_big_quiet_step (fail))
    refine wpQuiet_nil ?_
    rintro _ ⟨x, rfl⟩
    clear z0 z1 z2 d0 d1 d2
    replace HT := Lib.hid (HT.out.next x.below)
    have d0 := HT.out.hp.c0
    have d1 := HT.out.hp.c1
    have d2 := HT.out.hp.c2
    go_wp2
    have v0 := fun y : Ext x.val => y.cell d0
    have v1 := fun y : Ext x.val => y.cell d1
    have v2 := fun y : Ext x.val => y.cell d2
    have UAA : ∀ y : Ext x.val, Calls Try.prog 15 #[.agg #[.slice A h.objs.length cp, .int .i64 h.cap, .int .i64 h.last], .int .i64 a, .int .i64 a] y.val fun e w'' => e = .returned (.bool true) ∧ ∃ z : Ext x.val, w'' = z.val := fun y => calls_ext (by have := look_Under A cp h a a y.val HI.out hl (Kd.C_below HT.out.hp.row y.below); rwa [hself] at this)
    have MA : ∀ y : Ext x.val, Calls Try.prog 16 #[.agg #[.slice A h.objs.length cp, .int .i64 h.cap, .int .i64 h.last], .int .i64 a] y.val fun e w'' => e = .returned (.bool true) ∧ ∃ z : Ext x.val, w'' = z.val := fun y => calls_ext (by have := r9_class A cp h a y.val HM.out hl (Kd.C_below HT.out.hp.row y.below); rwa [hca] at this)
    have UAB : ∀ y : Ext x.val, Calls Try.prog 15 #[.agg #[.slice A h.objs.length cp, .int .i64 h.cap, .int .i64 h.last], .int .i64 a, .int .i64 b] y.val fun e w'' => e = .returned (.bool true) ∧ ∃ z : Ext x.val, w'' = z.val := fun y => calls_ext (by have := look_Under A cp h a b y.val HI.out hl (Kd.C_below HT.out.hp.row y.below); rwa [h1] at this)
    have UBC : ∀ y : Ext x.val, Calls Try.prog 15 #[.agg #[.slice A h.objs.length cp, .int .i64 h.cap, .int .i64 h.last], .int .i64 b, .int .i64 c] y.val fun e w'' => e = .returned (.bool false) ∧ ∃ z : Ext x.val, w'' = z.val := fun y => calls_ext (by have := look_Under A cp h b c y.val HI.out hl (Kd.C_below HT.out.hp.row y.below); rwa [h2] at this)
    refine wp_region_ext (by kernel_rfl) (by kernel_rfl) ?_
    repeat (go_big_quiet_step ((first | (go_at_call 15; with_reducible (first | exact UAA _ | exact UAB _ | exact UBC _ | exact UAC _)) | (go_at_call 16; with_reducible (first | exact MA _ | exact MC _)))))
    refine wpQuiet_nil ?_
    rintro _ ⟨y, rfl⟩
    clear v0 v1 v2 d0 d1 d2 UAA MA
    replace HT := Lib.hid (HT.out.next y.below)
    have d0 := HT.out.hp.c0
    have d1 := HT.out.hp.c1
    have d2 := HT.out.hp.c2
    go_wp2_with (first
      | (go_at_call 14; refine (look_Find A cp h _ sel _ HI.out hl HT.out.hp.row).mono ?_; rintro e w2 ⟨rfl, hb⟩; replace HT := Lib.hid (HT.out.next hb); clear hb; have d0 := HT.out.hp.c0; have d1 := HT.out.hp.c1; have d2 := HT.out.hp.c2)
      | (go_at_call 15; refine (look_Under A cp h _ _ _ HI.out hl HT.out.hp.row).mono ?_; rintro e w2 ⟨rfl, hb⟩; replace HT := Lib.hid (HT.out.next hb); clear hb; have d0 := HT.out.hp.c0; have d1 := HT.out.hp.c1; have d2 := HT.out.hp.c2))
    go_ret
    exact ⟨rfl, HT.out.hp.below⟩

set_option maxRecDepth 100000 in
set_option maxHeartbeats 4000000 in
theorem und_4 (A : Option Addr) (cp : Nat) (h : Hp) (a b c sel : Int) (w : World) (hbits : bitsOk h.objs) (hl : h.objs.length ≤ cp) (hr : kOb.C w A h.objs.length h.objs) (hm : mayB h = true) (hn : ¬ (30 : Int) < (h.objs.length : Int)) (hself : underB h a a = classB h.objs a) (h1 : underB h a b = true) (h2 : underB h b c = true) (h3 : classB h.objs c = false) (h5 : ((findI h b sel).2.2 != 0) = true) :
    Calls Try.prog 4 #[.agg #[.slice A h.objs.length cp, .int .i64 h.cap, .int .i64 h.last], .agg #[.int .i64 a, .int .i64 b, .int .i64 c], .int .i64 sel] w fun e w' => e = .returned (.bool true) ∧ Below w.heap.size w w' := by
  have hu24 := Try.underlying24
  have hu34 := Try.underlying34
  have hmx := Kd.C_max hr
  have HM := Lib.hid hm
  have HI := Lib.hid hbits
  have HT := Lib.hid (ArAt.first (cp := cp) (a := a) (b := b) (c := c) hr)
  clear hr hbits hm
  cases hca : classB h.objs a
  ·
    rw [hca] at hself
    go_enter Try.func4, Try.ntmps4
    go_wp2_with (first
      | (go_at_call 11; refine (law_fixed _).mono ?_; rintro e w2 ⟨rfl, hb⟩; replace HT := Lib.hid (HT.out.next hb); clear hb; have d0 := HT.out.hp.c0; have d1 := HT.out.hp.c1; have d2 := HT.out.hp.c2)
      | (go_at_call 12; refine (r3_Small A cp h _ hl HT.out.hp.row).mono ?_; rintro e w2 ⟨⟨b, rfl⟩, hb⟩; replace HT := Lib.hid (HT.out.next hb); clear hb; have d0 := HT.out.hp.c0; have d1 := HT.out.hp.c1; have d2 := HT.out.hp.c2; cases b)
      | (go_at_call 13; refine (r3_May A cp h _ hl HT.out.hp.row).mono ?_; rintro e w2 ⟨he, hb⟩; rw [HM.out] at he; subst he; replace HT := Lib.hid (HT.out.next hb); clear hb; have d0 := HT.out.hp.c0; have d1 := HT.out.hp.c1; have d2 := HT.out.hp.c2))
    all_goals try (go_ret; exact ⟨rfl, HT.out.hp.below⟩)
    have z0 := fun x : Ext w2 => x.cell HT.out.a0
    have z1 := fun x : Ext w2 => x.cell HT.out.a1
    have z2 := fun x : Ext w2 => x.cell HT.out.a2
    refine wp_region_ext (by kernel_rfl) (by kernel_rfl) ?_
    repeat (go_big_quiet_step (fail))
    refine wpQuiet_nil ?_
    rintro _ ⟨x, rfl⟩
    clear z0 z1 z2 d0 d1 d2
    replace HT := Lib.hid (HT.out.next x.below)
    have d0 := HT.out.hp.c0
    have d1 := HT.out.hp.c1
    have d2 := HT.out.hp.c2
    go_wp2
    have v0 := fun y : Ext x.val => y.cell d0
    have v1 := fun y : Ext x.val => y.cell d1
    have v2 := fun y : Ext x.val => y.cell d2
    have UAA : ∀ y : Ext x.val, Calls Try.prog 15 #[.agg #[.slice A h.objs.length cp, .int .i64 h.cap, .int .i64 h.last], .int .i64 a, .int .i64 a] y.val fun e w'' => e = .returned (.bool false) ∧ ∃ z : Ext x.val, w'' = z.val := fun y => calls_ext (by have := look_Under A cp h a a y.val HI.out hl (Kd.C_below HT.out.hp.row y.below); rwa [hself] at this)
    have MA : ∀ y : Ext x.val, Calls Try.prog 16 #[.agg #[.slice A h.objs.length cp, .int .i64 h.cap, .int .i64 h.last], .int .i64 a] y.val fun e w'' => e = .returned (.bool false) ∧ ∃ z : Ext x.val, w'' = z.val := fun y => calls_ext (by have := r9_class A cp h a y.val HM.out hl (Kd.C_below HT.out.hp.row y.below); rwa [hca] at this)
    have UAB : ∀ y : Ext x.val, Calls Try.prog 15 #[.agg #[.slice A h.objs.length cp, .int .i64 h.cap, .int .i64 h.last], .int .i64 a, .int .i64 b] y.val fun e w'' => e = .returned (.bool true) ∧ ∃ z : Ext x.val, w'' = z.val := fun y => calls_ext (by have := look_Under A cp h a b y.val HI.out hl (Kd.C_below HT.out.hp.row y.below); rwa [h1] at this)
    have UBC : ∀ y : Ext x.val, Calls Try.prog 15 #[.agg #[.slice A h.objs.length cp, .int .i64 h.cap, .int .i64 h.last], .int .i64 b, .int .i64 c] y.val fun e w'' => e = .returned (.bool true) ∧ ∃ z : Ext x.val, w'' = z.val := fun y => calls_ext (by have := look_Under A cp h b c y.val HI.out hl (Kd.C_below HT.out.hp.row y.below); rwa [h2] at this)
    have MC : ∀ y : Ext x.val, Calls Try.prog 16 #[.agg #[.slice A h.objs.length cp, .int .i64 h.cap, .int .i64 h.last], .int .i64 c] y.val fun e w'' => e = .returned (.bool false) ∧ ∃ z : Ext x.val, w'' = z.val := fun y => calls_ext (by have := r9_class A cp h c y.val HM.out hl (Kd.C_below HT.out.hp.row y.below); rwa [h3] at this)
    refine wp_region_ext (by kernel_rfl) (by kernel_rfl) ?_
    repeat (go_big_quiet_step ((first | (go_at_call 15; with_reducible (first | exact UAA _ | exact UAB _ | exact UBC _ | exact UAC _)) | (go_at_call 16; with_reducible (first | exact MA _ | exact MC _)))))
    refine wpQuiet_nil ?_
    rintro _ ⟨y, rfl⟩
    clear v0 v1 v2 d0 d1 d2 UAA MA
    replace HT := Lib.hid (HT.out.next y.below)
    have d0 := HT.out.hp.c0
    have d1 := HT.out.hp.c1
    have d2 := HT.out.hp.c2
    go_wp2_with (first
      | (go_at_call 14; refine (look_Find A cp h _ sel _ HI.out hl HT.out.hp.row).mono ?_; rintro e w2 ⟨rfl, hb⟩; replace HT := Lib.hid (HT.out.next hb); clear hb; have d0 := HT.out.hp.c0; have d1 := HT.out.hp.c1; have d2 := HT.out.hp.c2)
      | (go_at_call 15; refine (look_Under A cp h _ _ _ HI.out hl HT.out.hp.row).mono ?_; rintro e w2 ⟨rfl, hb⟩; replace HT := Lib.hid (HT.out.next hb); clear hb; have d0 := HT.out.hp.c0; have d1 := HT.out.hp.c1; have d2 := HT.out.hp.c2))
    go_ret
    exact ⟨rfl, HT.out.hp.below⟩
  ·
    rw [hca] at hself
    go_enter Try.func4, Try.ntmps4
    go_wp2_with (first
      | (go_at_call 11; refine (law_fixed _).mono ?_; rintro e w2 ⟨rfl, hb⟩; replace HT := Lib.hid (HT.out.next hb); clear hb; have d0 := HT.out.hp.c0; have d1 := HT.out.hp.c1; have d2 := HT.out.hp.c2)
      | (go_at_call 12; refine (r3_Small A cp h _ hl HT.out.hp.row).mono ?_; rintro e w2 ⟨⟨b, rfl⟩, hb⟩; replace HT := Lib.hid (HT.out.next hb); clear hb; have d0 := HT.out.hp.c0; have d1 := HT.out.hp.c1; have d2 := HT.out.hp.c2; cases b)
      | (go_at_call 13; refine (r3_May A cp h _ hl HT.out.hp.row).mono ?_; rintro e w2 ⟨he, hb⟩; rw [HM.out] at he; subst he; replace HT := Lib.hid (HT.out.next hb); clear hb; have d0 := HT.out.hp.c0; have d1 := HT.out.hp.c1; have d2 := HT.out.hp.c2))
    all_goals try (go_ret; exact ⟨rfl, HT.out.hp.below⟩)
    have z0 := fun x : Ext w2 => x.cell HT.out.a0
    have z1 := fun x : Ext w2 => x.cell HT.out.a1
    have z2 := fun x : Ext w2 => x.cell HT.out.a2
    refine wp_region_ext (by kernel_rfl) (by kernel_rfl) ?_
    repeat (go_big_quiet_step (fail))
    refine wpQuiet_nil ?_
    rintro _ ⟨x, rfl⟩
    clear z0 z1 z2 d0 d1 d2
    replace HT := Lib.hid (HT.out.next x.below)
    have d0 := HT.out.hp.c0
    have d1 := HT.out.hp.c1
    have d2 := HT.out.hp.c2
    go_wp2
    have v0 := fun y : Ext x.val => y.cell d0
    have v1 := fun y : Ext x.val => y.cell d1
    have v2 := fun y : Ext x.val => y.cell d2
    have UAA : ∀ y : Ext x.val, Calls Try.prog 15 #[.agg #[.slice A h.objs.length cp, .int .i64 h.cap, .int .i64 h.last], .int .i64 a, .int .i64 a] y.val fun e w'' => e = .returned (.bool true) ∧ ∃ z : Ext x.val, w'' = z.val := fun y => calls_ext (by have := look_Under A cp h a a y.val HI.out hl (Kd.C_below HT.out.hp.row y.below); rwa [hself] at this)
    have MA : ∀ y : Ext x.val, Calls Try.prog 16 #[.agg #[.slice A h.objs.length cp, .int .i64 h.cap, .int .i64 h.last], .int .i64 a] y.val fun e w'' => e = .returned (.bool true) ∧ ∃ z : Ext x.val, w'' = z.val := fun y => calls_ext (by have := r9_class A cp h a y.val HM.out hl (Kd.C_below HT.out.hp.row y.below); rwa [hca] at this)
    have UAB : ∀ y : Ext x.val, Calls Try.prog 15 #[.agg #[.slice A h.objs.length cp, .int .i64 h.cap, .int .i64 h.last], .int .i64 a, .int .i64 b] y.val fun e w'' => e = .returned (.bool true) ∧ ∃ z : Ext x.val, w'' = z.val := fun y => calls_ext (by have := look_Under A cp h a b y.val HI.out hl (Kd.C_below HT.out.hp.row y.below); rwa [h1] at this)
    have UBC : ∀ y : Ext x.val, Calls Try.prog 15 #[.agg #[.slice A h.objs.length cp, .int .i64 h.cap, .int .i64 h.last], .int .i64 b, .int .i64 c] y.val fun e w'' => e = .returned (.bool true) ∧ ∃ z : Ext x.val, w'' = z.val := fun y => calls_ext (by have := look_Under A cp h b c y.val HI.out hl (Kd.C_below HT.out.hp.row y.below); rwa [h2] at this)
    have MC : ∀ y : Ext x.val, Calls Try.prog 16 #[.agg #[.slice A h.objs.length cp, .int .i64 h.cap, .int .i64 h.last], .int .i64 c] y.val fun e w'' => e = .returned (.bool false) ∧ ∃ z : Ext x.val, w'' = z.val := fun y => calls_ext (by have := r9_class A cp h c y.val HM.out hl (Kd.C_below HT.out.hp.row y.below); rwa [h3] at this)
    refine wp_region_ext (by kernel_rfl) (by kernel_rfl) ?_
    repeat (go_big_quiet_step ((first | (go_at_call 15; with_reducible (first | exact UAA _ | exact UAB _ | exact UBC _ | exact UAC _)) | (go_at_call 16; with_reducible (first | exact MA _ | exact MC _)))))
    refine wpQuiet_nil ?_
    rintro _ ⟨y, rfl⟩
    clear v0 v1 v2 d0 d1 d2 UAA MA
    replace HT := Lib.hid (HT.out.next y.below)
    have d0 := HT.out.hp.c0
    have d1 := HT.out.hp.c1
    have d2 := HT.out.hp.c2
    go_wp2_with (first
      | (go_at_call 14; refine (look_Find A cp h _ sel _ HI.out hl HT.out.hp.row).mono ?_; rintro e w2 ⟨rfl, hb⟩; replace HT := Lib.hid (HT.out.next hb); clear hb; have d0 := HT.out.hp.c0; have d1 := HT.out.hp.c1; have d2 := HT.out.hp.c2)
      | (go_at_call 15; refine (look_Under A cp h _ _ _ HI.out hl HT.out.hp.row).mono ?_; rintro e w2 ⟨rfl, hb⟩; replace HT := Lib.hid (HT.out.next hb); clear hb; have d0 := HT.out.hp.c0; have d1 := HT.out.hp.c1; have d2 := HT.out.hp.c2))
    go_ret
    exact ⟨rfl, HT.out.hp.below⟩

set_option maxRecDepth 100000 in
set_option maxHeartbeats 4000000 in
theorem und_5 (A : Option Addr) (cp : Nat) (h : Hp) (a b c sel : Int) (w : World) (hbits : bitsOk h.objs) (hl : h.objs.length ≤ cp) (hr : kOb.C w A h.objs.length h.objs) (hm : mayB h = true) (hn : ¬ (30 : Int) < (h.objs.length : Int)) (hself : underB h a a = classB h.objs a) (h1 : underB h a b = true) (h2 : underB h b c = true) (h3 : classB h.objs c = false) (h5 : ((findI h b sel).2.2 != 0) = false) (h6 : ((findI h a sel).2.2 == 0) = true) :
    Calls Try.prog 4 #[.agg #[.slice A h.objs.length cp, .int .i64 h.cap, .int .i64 h.last], .agg #[.int .i64 a, .int .i64 b, .int .i64 c], .int .i64 sel] w fun e w' => e = .returned (.bool true) ∧ Below w.heap.size w w' := by
  have hu24 := Try.underlying24
  have hu34 := Try.underlying34
  have hmx := Kd.C_max hr
  have HM := Lib.hid hm
  have HI := Lib.hid hbits
  have HT := Lib.hid (ArAt.first (cp := cp) (a := a) (b := b) (c := c) hr)
  clear hr hbits hm
  cases hca : classB h.objs a
  ·
    rw [hca] at hself
    go_enter Try.func4, Try.ntmps4
    go_wp2_with (first
      | (go_at_call 11; refine (law_fixed _).mono ?_; rintro e w2 ⟨rfl, hb⟩; replace HT := Lib.hid (HT.out.next hb); clear hb; have d0 := HT.out.hp.c0; have d1 := HT.out.hp.c1; have d2 := HT.out.hp.c2)
      | (go_at_call 12; refine (r3_Small A cp h _ hl HT.out.hp.row).mono ?_; rintro e w2 ⟨⟨b, rfl⟩, hb⟩; replace HT := Lib.hid (HT.out.next hb); clear hb; have d0 := HT.out.hp.c0; have d1 := HT.out.hp.c1; have d2 := HT.out.hp.c2; cases b)
      | (go_at_call 13; refine (r3_May A cp h _ hl HT.out.hp.row).mono ?_; rintro e w2 ⟨he, hb⟩; rw [HM.out] at he; subst he; replace HT := Lib.hid (HT.out.next hb); clear hb; have d0 := HT.out.hp.c0; have d1 := HT.out.hp.c1; have d2 := HT.out.hp.c2))
    all_goals try (go_ret; exact ⟨rfl, HT.out.hp.below⟩)
    have z0 := fun x : Ext w2 => x.cell HT.out.a0
    have z1 := fun x : Ext w2 => x.cell HT.out.a1
    have z2 := fun x : Ext w2 => x.cell HT.out.a2
    refine wp_region_ext (by kernel_rfl) (by kernel_rfl) ?_
    repeat (go_big_quiet_step (fail))
    refine wpQuiet_nil ?_
    rintro _ ⟨x, rfl⟩
    clear z0 z1 z2 d0 d1 d2
    replace HT := Lib.hid (HT.out.next x.below)
    have d0 := HT.out.hp.c0
    have d1 := HT.out.hp.c1
    have d2 := HT.out.hp.c2
    go_wp2
    have v0 := fun y : Ext x.val => y.cell d0
    have v1 := fun y : Ext x.val => y.cell d1
    have v2 := fun y : Ext x.val => y.cell d2
    have UAA : ∀ y : Ext x.val, Calls Try.prog 15 #[.agg #[.slice A h.objs.length cp, .int .i64 h.cap, .int .i64 h.last], .int .i64 a, .int .i64 a] y.val fun e w'' => e = .returned (.bool false) ∧ ∃ z : Ext x.val, w'' = z.val := fun y => calls_ext (by have := look_Under A cp h a a y.val HI.out hl (Kd.C_below HT.out.hp.row y.below); rwa [hself] at this)
    have MA : ∀ y : Ext x.val, Calls Try.prog 16 #[.agg #[.slice A h.objs.length cp, .int .i64 h.cap, .int .i64 h.last], .int .i64 a] y.val fun e w'' => e = .returned (.bool false) ∧ ∃ z : Ext x.val, w'' = z.val := fun y => calls_ext (by have := r9_class A cp h a y.val HM.out hl (Kd.C_below HT.out.hp.row y.below); rwa [hca] at this)
    have UAB : ∀ y : Ext x.val, Calls Try.prog 15 #[.agg #[.slice A h.objs.length cp, .int .i64 h.cap, .int .i64 h.last], .int .i64 a, .int .i64 b] y.val fun e w'' => e = .returned (.bool true) ∧ ∃ z : Ext x.val, w'' = z.val := fun y => calls_ext (by have := look_Under A cp h a b y.val HI.out hl (Kd.C_below HT.out.hp.row y.below); rwa [h1] at this)
    have UBC : ∀ y : Ext x.val, Calls Try.prog 15 #[.agg #[.slice A h.objs.length cp, .int .i64 h.cap, .int .i64 h.last], .int .i64 b, .int .i64 c] y.val fun e w'' => e = .returned (.bool true) ∧ ∃ z : Ext x.val, w'' = z.val := fun y => calls_ext (by have := look_Under A cp h b c y.val HI.out hl (Kd.C_below HT.out.hp.row y.below); rwa [h2] at this)
    have MC : ∀ y : Ext x.val, Calls Try.prog 16 #[.agg #[.slice A h.objs.length cp, .int .i64 h.cap, .int .i64 h.last], .int .i64 c] y.val fun e w'' => e = .returned (.bool false) ∧ ∃ z : Ext x.val, w'' = z.val := fun y => calls_ext (by have := r9_class A cp h c y.val HM.out hl (Kd.C_below HT.out.hp.row y.below); rwa [h3] at this)
    refine wp_region_ext (by kernel_rfl) (by kernel_rfl) ?_
    repeat (go_big_quiet_step ((first | (go_at_call 15; with_reducible (first | exact UAA _ | exact UAB _ | exact UBC _ | exact UAC _)) | (go_at_call 16; with_reducible (first | exact MA _ | exact MC _)))))
    refine wpQuiet_nil ?_
    rintro _ ⟨y, rfl⟩
    clear v0 v1 v2 d0 d1 d2 UAA MA
    replace HT := Lib.hid (HT.out.next y.below)
    have d0 := HT.out.hp.c0
    have d1 := HT.out.hp.c1
    have d2 := HT.out.hp.c2
    go_wp2_with (first
      | (go_at_call 14; refine (look_Find A cp h _ sel _ HI.out hl HT.out.hp.row).mono ?_; rintro e w2 ⟨rfl, hb⟩; replace HT := Lib.hid (HT.out.next hb); clear hb; have d0 := HT.out.hp.c0; have d1 := HT.out.hp.c1; have d2 := HT.out.hp.c2)
      | (go_at_call 15; refine (look_Under A cp h _ _ _ HI.out hl HT.out.hp.row).mono ?_; rintro e w2 ⟨rfl, hb⟩; replace HT := Lib.hid (HT.out.next hb); clear hb; have d0 := HT.out.hp.c0; have d1 := HT.out.hp.c1; have d2 := HT.out.hp.c2))
    go_ret
    exact ⟨rfl, HT.out.hp.below⟩
  ·
    rw [hca] at hself
    go_enter Try.func4, Try.ntmps4
    go_wp2_with (first
      | (go_at_call 11; refine (law_fixed _).mono ?_; rintro e w2 ⟨rfl, hb⟩; replace HT := Lib.hid (HT.out.next hb); clear hb; have d0 := HT.out.hp.c0; have d1 := HT.out.hp.c1; have d2 := HT.out.hp.c2)
      | (go_at_call 12; refine (r3_Small A cp h _ hl HT.out.hp.row).mono ?_; rintro e w2 ⟨⟨b, rfl⟩, hb⟩; replace HT := Lib.hid (HT.out.next hb); clear hb; have d0 := HT.out.hp.c0; have d1 := HT.out.hp.c1; have d2 := HT.out.hp.c2; cases b)
      | (go_at_call 13; refine (r3_May A cp h _ hl HT.out.hp.row).mono ?_; rintro e w2 ⟨he, hb⟩; rw [HM.out] at he; subst he; replace HT := Lib.hid (HT.out.next hb); clear hb; have d0 := HT.out.hp.c0; have d1 := HT.out.hp.c1; have d2 := HT.out.hp.c2))
    all_goals try (go_ret; exact ⟨rfl, HT.out.hp.below⟩)
    have z0 := fun x : Ext w2 => x.cell HT.out.a0
    have z1 := fun x : Ext w2 => x.cell HT.out.a1
    have z2 := fun x : Ext w2 => x.cell HT.out.a2
    refine wp_region_ext (by kernel_rfl) (by kernel_rfl) ?_
    repeat (go_big_quiet_step (fail))
    refine wpQuiet_nil ?_
    rintro _ ⟨x, rfl⟩
    clear z0 z1 z2 d0 d1 d2
    replace HT := Lib.hid (HT.out.next x.below)
    have d0 := HT.out.hp.c0
    have d1 := HT.out.hp.c1
    have d2 := HT.out.hp.c2
    go_wp2
    have v0 := fun y : Ext x.val => y.cell d0
    have v1 := fun y : Ext x.val => y.cell d1
    have v2 := fun y : Ext x.val => y.cell d2
    have UAA : ∀ y : Ext x.val, Calls Try.prog 15 #[.agg #[.slice A h.objs.length cp, .int .i64 h.cap, .int .i64 h.last], .int .i64 a, .int .i64 a] y.val fun e w'' => e = .returned (.bool true) ∧ ∃ z : Ext x.val, w'' = z.val := fun y => calls_ext (by have := look_Under A cp h a a y.val HI.out hl (Kd.C_below HT.out.hp.row y.below); rwa [hself] at this)
    have MA : ∀ y : Ext x.val, Calls Try.prog 16 #[.agg #[.slice A h.objs.length cp, .int .i64 h.cap, .int .i64 h.last], .int .i64 a] y.val fun e w'' => e = .returned (.bool true) ∧ ∃ z : Ext x.val, w'' = z.val := fun y => calls_ext (by have := r9_class A cp h a y.val HM.out hl (Kd.C_below HT.out.hp.row y.below); rwa [hca] at this)
    have UAB : ∀ y : Ext x.val, Calls Try.prog 15 #[.agg #[.slice A h.objs.length cp, .int .i64 h.cap, .int .i64 h.last], .int .i64 a, .int .i64 b] y.val fun e w'' => e = .returned (.bool true) ∧ ∃ z : Ext x.val, w'' = z.val := fun y => calls_ext (by have := look_Under A cp h a b y.val HI.out hl (Kd.C_below HT.out.hp.row y.below); rwa [h1] at this)
    have UBC : ∀ y : Ext x.val, Calls Try.prog 15 #[.agg #[.slice A h.objs.length cp, .int .i64 h.cap, .int .i64 h.last], .int .i64 b, .int .i64 c] y.val fun e w'' => e = .returned (.bool true) ∧ ∃ z : Ext x.val, w'' = z.val := fun y => calls_ext (by have := look_Under A cp h b c y.val HI.out hl (Kd.C_below HT.out.hp.row y.below); rwa [h2] at this)
    have MC : ∀ y : Ext x.val, Calls Try.prog 16 #[.agg #[.slice A h.objs.length cp, .int .i64 h.cap, .int .i64 h.last], .int .i64 c] y.val fun e w'' => e = .returned (.bool false) ∧ ∃ z : Ext x.val, w'' = z.val := fun y => calls_ext (by have := r9_class A cp h c y.val HM.out hl (Kd.C_below HT.out.hp.row y.below); rwa [h3] at this)
    refine wp_region_ext (by kernel_rfl) (by kernel_rfl) ?_
    repeat (go_big_quiet_step ((first | (go_at_call 15; with_reducible (first | exact UAA _ | exact UAB _ | exact UBC _ | exact UAC _)) | (go_at_call 16; with_reducible (first | exact MA _ | exact MC _)))))
    refine wpQuiet_nil ?_
    rintro _ ⟨y, rfl⟩
    clear v0 v1 v2 d0 d1 d2 UAA MA
    replace HT := Lib.hid (HT.out.next y.below)
    have d0 := HT.out.hp.c0
    have d1 := HT.out.hp.c1
    have d2 := HT.out.hp.c2
    go_wp2_with (first
      | (go_at_call 14; refine (look_Find A cp h _ sel _ HI.out hl HT.out.hp.row).mono ?_; rintro e w2 ⟨rfl, hb⟩; replace HT := Lib.hid (HT.out.next hb); clear hb; have d0 := HT.out.hp.c0; have d1 := HT.out.hp.c1; have d2 := HT.out.hp.c2)
      | (go_at_call 15; refine (look_Under A cp h _ _ _ HI.out hl HT.out.hp.row).mono ?_; rintro e w2 ⟨rfl, hb⟩; replace HT := Lib.hid (HT.out.next hb); clear hb; have d0 := HT.out.hp.c0; have d1 := HT.out.hp.c1; have d2 := HT.out.hp.c2))
    go_ret
    exact ⟨rfl, HT.out.hp.below⟩

set_option maxRecDepth 100000 in
set_option maxHeartbeats 4000000 in
theorem und_6 (A : Option Addr) (cp : Nat) (h : Hp) (a b c sel : Int) (w : World) (hbits : bitsOk h.objs) (hl : h.objs.length ≤ cp) (hr : kOb.C w A h.objs.length h.objs) (hm : mayB h = true) (hn : ¬ (30 : Int) < (h.objs.length : Int)) (hself : underB h a a = classB h.objs a) (h1 : underB h a b = true) (h2 : underB h b c = true) (h3 : classB h.objs c = true) (h4 : underB h a c = true) (h5 : ((findI h b sel).2.2 != 0) = true) :
    Calls Try.prog 4 #[.agg #[.slice A h.objs.length cp, .int .i64 h.cap, .int .i64 h.last], .agg #[.int .i64 a, .int .i64 b, .int .i64 c], .int .i64 sel] w fun e w' => e = .returned (.bool true) ∧ Below w.heap.size w w' := by
  have hu24 := Try.underlying24
  have hu34 := Try.underlying34
  have hmx := Kd.C_max hr
  have HM := Lib.hid hm
  have HI := Lib.hid hbits
  have HT := Lib.hid (ArAt.first (cp := cp) (a := a) (b := b) (c := c) hr)
  clear hr hbits hm
  cases hca : classB h.objs a
  ·
    rw [hca] at hself
    go_enter Try.func4, Try.ntmps4
    go_wp2_with (first
      | (go_at_call 11; refine (law_fixed _).mono ?_; rintro e w2 ⟨rfl, hb⟩; replace HT := Lib.hid (HT.out.next hb); clear hb; have d0 := HT.out.hp.c0; have d1 := HT.out.hp.c1; have d2 := HT.out.hp.c2)
      | (go_at_call 12; refine (r3_Small A cp h _ hl HT.out.hp.row).mono ?_; rintro e w2 ⟨⟨b, rfl⟩, hb⟩; replace HT := Lib.hid (HT.out.next hb); clear hb; have d0 := HT.out.hp.c0; have d1 := HT.out.hp.c1; have d2 := HT.out.hp.c2; cases b)
      | (go_at_call 13; refine (r3_May A cp h _ hl HT.out.hp.row).mono ?_; rintro e w2 ⟨he, hb⟩; rw [HM.out] at he; subst he; replace HT := Lib.hid (HT.out.next hb); clear hb; have d0 := HT.out.hp.c0; have d1 := HT.out.hp.c1; have d2 := HT.out.hp.c2))
    all_goals try (go_ret; exact ⟨rfl, HT.out.hp.below⟩)
    have z0 := fun x : Ext w2 => x.cell HT.out.a0
    have z1 := fun x : Ext w2 => x.cell HT.out.a1
    have z2 := fun x : Ext w2 => x.cell HT.out.a2
    refine wp_region_ext (by kernel_rfl) (by kernel_rfl) ?_
    repeat (go_big_quiet_step (fail))
    refine wpQuiet_nil ?_
    rintro _ ⟨x, rfl⟩
    clear z0 z1 z2 d0 d1 d2
    replace HT := Lib.hid (HT.out.next x.below)
    have d0 := HT.out.hp.c0
    have d1 := HT.out.hp.c1
    have d2 := HT.out.hp.c2
    go_wp2
    have v0 := fun y : Ext x.val => y.cell d0
    have v1 := fun y : Ext x.val => y.cell d1
    have v2 := fun y : Ext x.val => y.cell d2
    have UAA : ∀ y : Ext x.val, Calls Try.prog 15 #[.agg #[.slice A h.objs.length cp, .int .i64 h.cap, .int .i64 h.last], .int .i64 a, .int .i64 a] y.val fun e w'' => e = .returned (.bool false) ∧ ∃ z : Ext x.val, w'' = z.val := fun y => calls_ext (by have := look_Under A cp h a a y.val HI.out hl (Kd.C_below HT.out.hp.row y.below); rwa [hself] at this)
    have MA : ∀ y : Ext x.val, Calls Try.prog 16 #[.agg #[.slice A h.objs.length cp, .int .i64 h.cap, .int .i64 h.last], .int .i64 a] y.val fun e w'' => e = .returned (.bool false) ∧ ∃ z : Ext x.val, w'' = z.val := fun y => calls_ext (by have := r9_class A cp h a y.val HM.out hl (Kd.C_below HT.out.hp.row y.below); rwa [hca] at this)
    have UAB : ∀ y : Ext x.val, Calls Try.prog 15 #[.agg #[.slice A h.objs.length cp, .int .i64 h.cap, .int .i64 h.last], .int .i64 a, .int .i64 b] y.val fun e w'' => e = .returned (.bool true) ∧ ∃ z : Ext x.val, w'' = z.val := fun y => calls_ext (by have := look_Under A cp h a b y.val HI.out hl (Kd.C_below HT.out.hp.row y.below); rwa [h1] at this)
    have UBC : ∀ y : Ext x.val, Calls Try.prog 15 #[.agg #[.slice A h.objs.length cp, .int .i64 h.cap, .int .i64 h.last], .int .i64 b, .int .i64 c] y.val fun e w'' => e = .returned (.bool true) ∧ ∃ z : Ext x.val, w'' = z.val := fun y => calls_ext (by have := look_Under A cp h b c y.val HI.out hl (Kd.C_below HT.out.hp.row y.below); rwa [h2] at this)
    have UAC : ∀ y : Ext x.val, Calls Try.prog 15 #[.agg #[.slice A h.objs.length cp, .int .i64 h.cap, .int .i64 h.last], .int .i64 a, .int .i64 c] y.val fun e w'' => e = .returned (.bool true) ∧ ∃ z : Ext x.val, w'' = z.val := fun y => calls_ext (by have := look_Under A cp h a c y.val HI.out hl (Kd.C_below HT.out.hp.row y.below); rwa [h4] at this)
    have MC : ∀ y : Ext x.val, Calls Try.prog 16 #[.agg #[.slice A h.objs.length cp, .int .i64 h.cap, .int .i64 h.last], .int .i64 c] y.val fun e w'' => e = .returned (.bool true) ∧ ∃ z : Ext x.val, w'' = z.val := fun y => calls_ext (by have := r9_class A cp h c y.val HM.out hl (Kd.C_below HT.out.hp.row y.below); rwa [h3] at this)
    refine wp_region_ext (by kernel_rfl) (by kernel_rfl) ?_
    repeat (go_big_quiet_step ((first | (go_at_call 15; with_reducible (first | exact UAA _ | exact UAB _ | exact UBC _ | exact UAC _)) | (go_at_call 16; with_reducible (first | exact MA _ | exact MC _)))))
    refine wpQuiet_nil ?_
    rintro _ ⟨y, rfl⟩
    clear v0 v1 v2 d0 d1 d2 UAA MA
    replace HT := Lib.hid (HT.out.next y.below)
    have d0 := HT.out.hp.c0
    have d1 := HT.out.hp.c1
    have d2 := HT.out.hp.c2
    go_wp2_with (first
      | (go_at_call 14; refine (look_Find A cp h _ sel _ HI.out hl HT.out.hp.row).mono ?_; rintro e w2 ⟨rfl, hb⟩; replace HT := Lib.hid (HT.out.next hb); clear hb; have d0 := HT.out.hp.c0; have d1 := HT.out.hp.c1; have d2 := HT.out.hp.c2)
      | (go_at_call 15; refine (look_Under A cp h _ _ _ HI.out hl HT.out.hp.row).mono ?_; rintro e w2 ⟨rfl, hb⟩; replace HT := Lib.hid (HT.out.next hb); clear hb; have d0 := HT.out.hp.c0; have d1 := HT.out.hp.c1; have d2 := HT.out.hp.c2))
    go_ret
    exact ⟨rfl, HT.out.hp.below⟩
  ·
    rw [hca] at hself
    go_enter Try.func4, Try.ntmps4
    go_wp2_with (first
      | (go_at_call 11; refine (law_fixed _).mono ?_; rintro e w2 ⟨rfl, hb⟩; replace HT := Lib.hid (HT.out.next hb); clear hb; have d0 := HT.out.hp.c0; have d1 := HT.out.hp.c1; have d2 := HT.out.hp.c2)
      | (go_at_call 12; refine (r3_Small A cp h _ hl HT.out.hp.row).mono ?_; rintro e w2 ⟨⟨b, rfl⟩, hb⟩; replace HT := Lib.hid (HT.out.next hb); clear hb; have d0 := HT.out.hp.c0; have d1 := HT.out.hp.c1; have d2 := HT.out.hp.c2; cases b)
      | (go_at_call 13; refine (r3_May A cp h _ hl HT.out.hp.row).mono ?_; rintro e w2 ⟨he, hb⟩; rw [HM.out] at he; subst he; replace HT := Lib.hid (HT.out.next hb); clear hb; have d0 := HT.out.hp.c0; have d1 := HT.out.hp.c1; have d2 := HT.out.hp.c2))
    all_goals try (go_ret; exact ⟨rfl, HT.out.hp.below⟩)
    have z0 := fun x : Ext w2 => x.cell HT.out.a0
    have z1 := fun x : Ext w2 => x.cell HT.out.a1
    have z2 := fun x : Ext w2 => x.cell HT.out.a2
    refine wp_region_ext (by kernel_rfl) (by kernel_rfl) ?_
    repeat (go_big_quiet_step (fail))
    refine wpQuiet_nil ?_
    rintro _ ⟨x, rfl⟩
    clear z0 z1 z2 d0 d1 d2
    replace HT := Lib.hid (HT.out.next x.below)
    have d0 := HT.out.hp.c0
    have d1 := HT.out.hp.c1
    have d2 := HT.out.hp.c2
    go_wp2
    have v0 := fun y : Ext x.val => y.cell d0
    have v1 := fun y : Ext x.val => y.cell d1
    have v2 := fun y : Ext x.val => y.cell d2
    have UAA : ∀ y : Ext x.val, Calls Try.prog 15 #[.agg #[.slice A h.objs.length cp, .int .i64 h.cap, .int .i64 h.last], .int .i64 a, .int .i64 a] y.val fun e w'' => e = .returned (.bool true) ∧ ∃ z : Ext x.val, w'' = z.val := fun y => calls_ext (by have := look_Under A cp h a a y.val HI.out hl (Kd.C_below HT.out.hp.row y.below); rwa [hself] at this)
    have MA : ∀ y : Ext x.val, Calls Try.prog 16 #[.agg #[.slice A h.objs.length cp, .int .i64 h.cap, .int .i64 h.last], .int .i64 a] y.val fun e w'' => e = .returned (.bool true) ∧ ∃ z : Ext x.val, w'' = z.val := fun y => calls_ext (by have := r9_class A cp h a y.val HM.out hl (Kd.C_below HT.out.hp.row y.below); rwa [hca] at this)
    have UAB : ∀ y : Ext x.val, Calls Try.prog 15 #[.agg #[.slice A h.objs.length cp, .int .i64 h.cap, .int .i64 h.last], .int .i64 a, .int .i64 b] y.val fun e w'' => e = .returned (.bool true) ∧ ∃ z : Ext x.val, w'' = z.val := fun y => calls_ext (by have := look_Under A cp h a b y.val HI.out hl (Kd.C_below HT.out.hp.row y.below); rwa [h1] at this)
    have UBC : ∀ y : Ext x.val, Calls Try.prog 15 #[.agg #[.slice A h.objs.length cp, .int .i64 h.cap, .int .i64 h.last], .int .i64 b, .int .i64 c] y.val fun e w'' => e = .returned (.bool true) ∧ ∃ z : Ext x.val, w'' = z.val := fun y => calls_ext (by have := look_Under A cp h b c y.val HI.out hl (Kd.C_below HT.out.hp.row y.below); rwa [h2] at this)
    have UAC : ∀ y : Ext x.val, Calls Try.prog 15 #[.agg #[.slice A h.objs.length cp, .int .i64 h.cap, .int .i64 h.last], .int .i64 a, .int .i64 c] y.val fun e w'' => e = .returned (.bool true) ∧ ∃ z : Ext x.val, w'' = z.val := fun y => calls_ext (by have := look_Under A cp h a c y.val HI.out hl (Kd.C_below HT.out.hp.row y.below); rwa [h4] at this)
    have MC : ∀ y : Ext x.val, Calls Try.prog 16 #[.agg #[.slice A h.objs.length cp, .int .i64 h.cap, .int .i64 h.last], .int .i64 c] y.val fun e w'' => e = .returned (.bool true) ∧ ∃ z : Ext x.val, w'' = z.val := fun y => calls_ext (by have := r9_class A cp h c y.val HM.out hl (Kd.C_below HT.out.hp.row y.below); rwa [h3] at this)
    refine wp_region_ext (by kernel_rfl) (by kernel_rfl) ?_
    repeat (go_big_quiet_step ((first | (go_at_call 15; with_reducible (first | exact UAA _ | exact UAB _ | exact UBC _ | exact UAC _)) | (go_at_call 16; with_reducible (first | exact MA _ | exact MC _)))))
    refine wpQuiet_nil ?_
    rintro _ ⟨y, rfl⟩
    clear v0 v1 v2 d0 d1 d2 UAA MA
    replace HT := Lib.hid (HT.out.next y.below)
    have d0 := HT.out.hp.c0
    have d1 := HT.out.hp.c1
    have d2 := HT.out.hp.c2
    go_wp2_with (first
      | (go_at_call 14; refine (look_Find A cp h _ sel _ HI.out hl HT.out.hp.row).mono ?_; rintro e w2 ⟨rfl, hb⟩; replace HT := Lib.hid (HT.out.next hb); clear hb; have d0 := HT.out.hp.c0; have d1 := HT.out.hp.c1; have d2 := HT.out.hp.c2)
      | (go_at_call 15; refine (look_Under A cp h _ _ _ HI.out hl HT.out.hp.row).mono ?_; rintro e w2 ⟨rfl, hb⟩; replace HT := Lib.hid (HT.out.next hb); clear hb; have d0 := HT.out.hp.c0; have d1 := HT.out.hp.c1; have d2 := HT.out.hp.c2))
    go_ret
    exact ⟨rfl, HT.out.hp.below⟩

set_option maxRecDepth 100000 in
set_option maxHeartbeats 4000000 in
theorem und_7 (A : Option Addr) (cp : Nat) (h : Hp) (a b c sel : Int) (w : World) (hbits : bitsOk h.objs) (hl : h.objs.length ≤ cp) (hr : kOb.C w A h.objs.length h.objs) (hm : mayB h = true) (hn : ¬ (30 : Int) < (h.objs.length : Int)) (hself : underB h a a = classB h.objs a) (h1 : underB h a b = true) (h2 : underB h b c = true) (h3 : classB h.objs c = true) (h4 : underB h a c = true) (h5 : ((findI h b sel).2.2 != 0) = false) (h6 : ((findI h a sel).2.2 == 0) = true) :
    Calls Try.prog 4 #[.agg #[.slice A h.objs.length cp, .int .i64 h.cap, .int .i64 h.last], .agg #[.int .i64 a, .int .i64 b, .int .i64 c], .int .i64 sel] w fun e w' => e = .returned (.bool true) ∧ Below w.heap.size w w' := by
  have hu24 := Try.underlying24
  have hu34 := Try.underlying34
  have hmx := Kd.C_max hr
  have HM := Lib.hid hm
  have HI := Lib.hid hbits
  have HT := Lib.hid (ArAt.first (cp := cp) (a := a) (b := b) (c := c) hr)
  clear hr hbits hm
  cases hca : classB h.objs a
  ·
    rw [hca] at hself
    go_enter Try.func4, Try.ntmps4
    go_wp2_with (first
      | (go_at_call 11; refine (law_fixed _).mono ?_; rintro e w2 ⟨rfl, hb⟩; replace HT := Lib.hid (HT.out.next hb); clear hb; have d0 := HT.out.hp.c0; have d1 := HT.out.hp.c1; have d2 := HT.out.hp.c2)
      | (go_at_call 12; refine (r3_Small A cp h _ hl HT.out.hp.row).mono ?_; rintro e w2 ⟨⟨b, rfl⟩, hb⟩; replace HT := Lib.hid (HT.out.next hb); clear hb; have d0 := HT.out.hp.c0; have d1 := HT.out.hp.c1; have d2 := HT.out.hp.c2; cases b)
      | (go_at_call 13; refine (r3_May A cp h _ hl HT.out.hp.row).mono ?_; rintro e w2 ⟨he, hb⟩; rw [HM.out] at he; subst he; replace HT := Lib.hid (HT.out.next hb); clear hb; have d0 := HT.out.hp.c0; have d1 := HT.out.hp.c1; have d2 := HT.out.hp.c2))
    all_goals try (go_ret; exact ⟨rfl, HT.out.hp.below⟩)
    have z0 := fun x : Ext w2 => x.cell HT.out.a0
    have z1 := fun x : Ext w2 => x.cell HT.out.a1
    have z2 := fun x : Ext w2 => x.cell HT.out.a2
    refine wp_region_ext (by kernel_rfl) (by kernel_rfl) ?_
    repeat (go_big_quiet_step (fail))
    refine wpQuiet_nil ?_
    rintro _ ⟨x, rfl⟩
    clear z0 z1 z2 d0 d1 d2
    replace HT := Lib.hid (HT.out.next x.below)
    have d0 := HT.out.hp.c0
    have d1 := HT.out.hp.c1
    have d2 := HT.out.hp.c2
    go_wp2
    have v0 := fun y : Ext x.val => y.cell d0
    have v1 := fun y : Ext x.val => y.cell d1
    have v2 := fun y : Ext x.val => y.cell d2
    have UAA : ∀ y : Ext x.val, Calls Try.prog 15 #[.agg #[.slice A h.objs.length cp, .int .i64 h.cap, .int .i64 h.last], .int .i64 a, .int .i64 a] y.val fun e w'' => e = .returned (.bool false) ∧ ∃ z : Ext x.val, w'' = z.val := fun y => calls_ext (by have := look_Under A cp h a a y.val HI.out hl (Kd.C_below HT.out.hp.row y.below); rwa [hself] at this)
    have MA : ∀ y : Ext x.val, Calls Try.prog 16 #[.agg #[.slice A h.objs.length cp, .int .i64 h.cap, .int .i64 h.last], .int .i64 a] y.val fun e w'' => e = .returned (.bool false) ∧ ∃ z : Ext x.val, w'' = z.val := fun y => calls_ext (by have := r9_class A cp h a y.val HM.out hl (Kd.C_below HT.out.hp.row y.below); rwa [hca] at this)
    have UAB : ∀ y : Ext x.val, Calls Try.prog 15 #[.agg #[.slice A h.objs.length cp, .int .i64 h.cap, .int .i64 h.last], .int .i64 a, .int .i64 b] y.val fun e w'' => e = .returned (.bool true) ∧ ∃ z : Ext x.val, w'' = z.val := fun y => calls_ext (by have := look_Under A cp h a b y.val HI.out hl (Kd.C_below HT.out.hp.row y.below); rwa [h1] at this)
    have UBC : ∀ y : Ext x.val, Calls Try.prog 15 #[.agg #[.slice A h.objs.length cp, .int .i64 h.cap, .int .i64 h.last], .int .i64 b, .int .i64 c] y.val fun e w'' => e = .returned (.bool true) ∧ ∃ z : Ext x.val, w'' = z.val := fun y => calls_ext (by have := look_Under A cp h b c y.val HI.out hl (Kd.C_below HT.out.hp.row y.below); rwa [h2] at this)
    have UAC : ∀ y : Ext x.val, Calls Try.prog 15 #[.agg #[.slice A h.objs.length cp, .int .i64 h.cap, .int .i64 h.last], .int .i64 a, .int .i64 c] y.val fun e w'' => e = .returned (.bool true) ∧ ∃ z : Ext x.val, w'' = z.val := fun y => calls_ext (by have := look_Under A cp h a c y.val HI.out hl (Kd.C_below HT.out.hp.row y.below); rwa [h4] at this)
    have MC : ∀ y : Ext x.val, Calls Try.prog 16 #[.agg #[.slice A h.objs.length cp, .int .i64 h.cap, .int .i64 h.last], .int .i64 c] y.val fun e w'' => e = .returned (.bool true) ∧ ∃ z : Ext x.val, w'' = z.val := fun y => calls_ext (by have := r9_class A cp h c y.val HM.out hl (Kd.C_below HT.out.hp.row y.below); rwa [h3] at this)
    refine wp_region_ext (by kernel_rfl) (by kernel_rfl) ?_
    repeat (go_big_quiet_step ((first | (go_at_call 15; with_reducible (first | exact UAA _ | exact UAB _ | exact UBC _ | exact UAC _)) | (go_at_call 16; with_reducible (first | exact MA _ | exact MC _)))))
    refine wpQuiet_nil ?_
    rintro _ ⟨y, rfl⟩
    clear v0 v1 v2 d0 d1 d2 UAA MA
    replace HT := Lib.hid (HT.out.next y.below)
    have d0 := HT.out.hp.c0
    have d1 := HT.out.hp.c1
    have d2 := HT.out.hp.c2
    go_wp2_with (first
      | (go_at_call 14; refine (look_Find A cp h _ sel _ HI.out hl HT.out.hp.row).mono ?_; rintro e w2 ⟨rfl, hb⟩; replace HT := Lib.hid (HT.out.next hb); clear hb; have d0 := HT.out.hp.c0; have d1 := HT.out.hp.c1; have d2 := HT.out.hp.c2)
      | (go_at_call 15; refine (look_Under A cp h _ _ _ HI.out hl HT.out.hp.row).mono ?_; rintro e w2 ⟨rfl, hb⟩; replace HT := Lib.hid (HT.out.next hb); clear hb; have d0 := HT.out.hp.c0; have d1 := HT.out.hp.c1; have d2 := HT.out.hp.c2))
    go_ret
    exact ⟨rfl, HT.out.hp.below⟩
  ·
    rw [hca] at hself
    go_enter Try.func4, Try.ntmps4
    go_wp2_with (first
      | (go_at_call 11; refine (law_fixed _).mono ?_; rintro e w2 ⟨rfl, hb⟩; replace HT := Lib.hid (HT.out.next hb); clear hb; have d0 := HT.out.hp.c0; have d1 := HT.out.hp.c1; have d2 := HT.out.hp.c2)
      | (go_at_call 12; refine (r3_Small A cp h _ hl HT.out.hp.row).mono ?_; rintro e w2 ⟨⟨b, rfl⟩, hb⟩; replace HT := Lib.hid (HT.out.next hb); clear hb; have d0 := HT.out.hp.c0; have d1 := HT.out.hp.c1; have d2 := HT.out.hp.c2; cases b)
      | (go_at_call 13; refine (r3_May A cp h _ hl HT.out.hp.row).mono ?_; rintro e w2 ⟨he, hb⟩; rw [HM.out] at he; subst he; replace HT := Lib.hid (HT.out.next hb); clear hb; have d0 := HT.out.hp.c0; have d1 := HT.out.hp.c1; have d2 := HT.out.hp.c2))
    all_goals try (go_ret; exact ⟨rfl, HT.out.hp.below⟩)
    have z0 := fun x : Ext w2 => x.cell HT.out.a0
    have z1 := fun x : Ext w2 => x.cell HT.out.a1
    have z2 := fun x : Ext w2 => x.cell HT.out.a2
    refine wp_region_ext (by kernel_rfl) (by kernel_rfl) ?_
    repeat (go_big_quiet_step (fail))
    refine wpQuiet_nil ?_
    rintro _ ⟨x, rfl⟩
    clear z0 z1 z2 d0 d1 d2
    replace HT := Lib.hid (HT.out.next x.below)
    have d0 := HT.out.hp.c0
    have d1 := HT.out.hp.c1
    have d2 := HT.out.hp.c2
    go_wp2
    have v0 := fun y : Ext x.val => y.cell d0
    have v1 := fun y : Ext x.val => y.cell d1
    have v2 := fun y : Ext x.val => y.cell d2
    have UAA : ∀ y : Ext x.val, Calls Try.prog 15 #[.agg #[.slice A h.objs.length cp, .int .i64 h.cap, .int .i64 h.last], .int .i64 a, .int .i64 a] y.val fun e w'' => e = .returned (.bool true) ∧ ∃ z : Ext x.val, w'' = z.val := fun y => calls_ext (by have := look_Under A cp h a a y.val HI.out hl (Kd.C_below HT.out.hp.row y.below); rwa [hself] at this)
    have MA : ∀ y : Ext x.val, Calls Try.prog 16 #[.agg #[.slice A h.objs.length cp, .int .i64 h.cap, .int .i64 h.last], .int .i64 a] y.val fun e w'' => e = .returned (.bool true) ∧ ∃ z : Ext x.val, w'' = z.val := fun y => calls_ext (by have := r9_class A cp h a y.val HM.out hl (Kd.C_below HT.out.hp.row y.below); rwa [hca] at this)
    have UAB : ∀ y : Ext x.val, Calls Try.prog 15 #[.agg #[.slice A h.objs.length cp, .int .i64 h.cap, .int .i64 h.last], .int .i64 a, .int .i64 b] y.val fun e w'' => e = .returned (.bool true) ∧ ∃ z : Ext x.val, w'' = z.val := fun y => calls_ext (by have := look_Under A cp h a b y.val HI.out hl (Kd.C_below HT.out.hp.row y.below); rwa [h1] at this)
    have UBC : ∀ y : Ext x.val, Calls Try.prog 15 #[.agg #[.slice A h.objs.length cp, .int .i64 h.cap, .int .i64 h.last], .int .i64 b, .int .i64 c] y.val fun e w'' => e = .returned (.bool true) ∧ ∃ z : Ext x.val, w'' = z.val := fun y => calls_ext (by have := look_Under A cp h b c y.val HI.out hl (Kd.C_below HT.out.hp.row y.below); rwa [h2] at this)
    have UAC : ∀ y : Ext x.val, Calls Try.prog 15 #[.agg #[.slice A h.objs.length cp, .int .i64 h.cap, .int .i64 h.last], .int .i64 a, .int .i64 c] y.val fun e w'' => e = .returned (.bool true) ∧ ∃ z : Ext x.val, w'' = z.val := fun y => calls_ext (by have := look_Under A cp h a c y.val HI.out hl (Kd.C_below HT.out.hp.row y.below); rwa [h4] at this)
    have MC : ∀ y : Ext x.val, Calls Try.prog 16 #[.agg #[.slice A h.objs.length cp, .int .i64 h.cap, .int .i64 h.last], .int .i64 c] y.val fun e w'' => e = .returned (.bool true) ∧ ∃ z : Ext x.val, w'' = z.val := fun y => calls_ext (by have := r9_class A cp h c y.val HM.out hl (Kd.C_below HT.out.hp.row y.below); rwa [h3] at this)
    refine wp_region_ext (by kernel_rfl) (by kernel_rfl) ?_
    repeat (go_big_quiet_step ((first | (go_at_call 15; with_reducible (first | exact UAA _ | exact UAB _ | exact UBC _ | exact UAC _)) | (go_at_call 16; with_reducible (first | exact MA _ | exact MC _)))))
    refine wpQuiet_nil ?_
    rintro _ ⟨y, rfl⟩
    clear v0 v1 v2 d0 d1 d2 UAA MA
    replace HT := Lib.hid (HT.out.next y.below)
    have d0 := HT.out.hp.c0
    have d1 := HT.out.hp.c1
    have d2 := HT.out.hp.c2
    go_wp2_with (first
      | (go_at_call 14; refine (look_Find A cp h _ sel _ HI.out hl HT.out.hp.row).mono ?_; rintro e w2 ⟨rfl, hb⟩; replace HT := Lib.hid (HT.out.next hb); clear hb; have d0 := HT.out.hp.c0; have d1 := HT.out.hp.c1; have d2 := HT.out.hp.c2)
      | (go_at_call 15; refine (look_Under A cp h _ _ _ HI.out hl HT.out.hp.row).mono ?_; rintro e w2 ⟨rfl, hb⟩; replace HT := Lib.hid (HT.out.next hb); clear hb; have d0 := HT.out.hp.c0; have d1 := HT.out.hp.c1; have d2 := HT.out.hp.c2))
    go_ret
    exact ⟨rfl, HT.out.hp.below⟩
end Go.Proofs.Ytgdobomofdenfaa.Lk
