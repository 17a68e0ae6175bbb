/- The second law's walk. -/
import Derived.Test.YtgdobomofdenfaaLkChain
namespace Go.Proofs.Ytgdobomofdenfaa.Lk
open Go.RowKit Go.Proofs.YtgdobomofdenfaaW.PrintWords Go.Shelf
set_option linter.unusedVariables false
set_option linter.unusedSimpArgs false

/-- The heap's box and the array's. -/
structure ArAt (w0 : World) (A : Option Addr) (cp g : Nat) (h : Hp) (ga : Nat) (a b c : Int) (W : World) : Prop where
  hp : HpAt w0 A cp g h W
  lt : w0.heap.size ≤ ga
  blk : W.heap[ga]? = some (.cells #[.int .i64 a, .int .i64 b, .int .i64 c] 36 (0, 0))
section
variable {w0 : World} {A : Option Addr} {cp g : Nat} {h : Hp} {ga : Nat} {a b c : Int} {W W1 : World}
theorem ArAt.next (k : ArAt w0 A cp g h ga a b c W) (hb : Below W.heap.size W W1) : ArAt w0 A cp g h ga a b c W1 :=
  ⟨k.hp.next hb, k.lt, (hb.block ga (Array.getElem?_eq_some_iff.1 k.blk).1).trans k.blk⟩
theorem ArAt.a0 (k : ArAt w0 A cp g h ga a b c W) : W.cell? ⟨ga, 0, none⟩ = some (.int .i64 a) := cellof k.blk 0
theorem ArAt.a1 (k : ArAt w0 A cp g h ga a b c W) : W.cell? ⟨ga, 1, none⟩ = some (.int .i64 b) := cellof k.blk 1
theorem ArAt.a2 (k : ArAt w0 A cp g h ga a b c W) : W.cell? ⟨ga, 2, none⟩ = some (.int .i64 c) := cellof k.blk 2
theorem ArAt.first (hr : kOb.C w0 A h.objs.length h.objs) : ArAt w0 A cp w0.heap.size h (w0.heap.size + 1) a b c ((w0.alloc (.cells #[.slice A h.objs.length cp, .int .i64 h.cap, .int .i64 h.last] 24)).alloc (.cells #[.int .i64 a, .int .i64 b, .int .i64 c] 36)) := by
  obtain ⟨h1, h2, h3, h4⟩ := box2 w0 (.cells #[.slice A h.objs.length cp, .int .i64 h.cap, .int .i64 h.last] 24) (.cells #[.int .i64 a, .int .i64 b, .int .i64 c] 36)
  exact ⟨⟨hr, Nat.le_refl _, h2, h1⟩, Nat.le_succ _, h3⟩
end
theorem r9_class (A : Option Addr) (cp : Nat) (h : Hp) (c : Int) (w : World) (hm : mayB h = true) (hl : h.objs.length ≤ cp) (hr : kOb.C w A h.objs.length h.objs) :
    Calls Try.prog 16 #[.agg #[.slice A h.objs.length cp, .int .i64 h.cap, .int .i64 h.last], .int .i64 c] w fun e w' => e = .returned (.bool (classB h.objs c)) ∧ Below w.heap.size w w' := by
  have := r9_May A cp h c w hl hr
  rw [hm, Bool.true_and] at this
  exact this

set_option maxRecDepth 100000 in
set_option maxHeartbeats 4000000 in
theorem und_a (A : Option Addr) (cp : Nat) (h : Hp) (a b c sel : Int) (w : World) (hl : h.objs.length ≤ cp) (hr : kOb.C w A h.objs.length h.objs) (hm : mayB h = false) :
    Calls Try.prog 4 #[.agg #[.slice A h.objs.length cp, .int .i64 h.cap, .int .i64 h.last], .agg #[.int .i64 a, .int .i64 b, .int .i64 c], .int .i64 sel] w fun e w' => e = .returned (.bool true) ∧ Below w.heap.size w w' := by
  have hu24 := Try.underlying24
  have hu34 := Try.underlying34
  have hmx := Kd.C_max hr
  have HM := Lib.hid hm
  have HT := Lib.hid (ArAt.first (cp := cp) (a := a) (b := b) (c := c) hr)
  clear hr
  go_enter Try.func4, Try.ntmps4
  go_wp2_with (first
    | (go_at_call 11; refine (law_fixed _).mono ?_; rintro e w2 ⟨rfl, hb⟩; replace HT := Lib.hid (HT.out.next hb); clear hb; have d0 := HT.out.hp.c0; have d1 := HT.out.hp.c1; have d2 := HT.out.hp.c2)
    | (go_at_call 12; refine (r3_Small A cp h _ hl HT.out.hp.row).mono ?_; rintro e w2 ⟨⟨b, rfl⟩, hb⟩; replace HT := Lib.hid (HT.out.next hb); clear hb; have d0 := HT.out.hp.c0; have d1 := HT.out.hp.c1; have d2 := HT.out.hp.c2; cases b)
    | (go_at_call 13; refine (r3_May A cp h _ hl HT.out.hp.row).mono ?_; rintro e w2 ⟨he, hb⟩; rw [HM.out] at he; subst he; replace HT := Lib.hid (HT.out.next hb); clear hb; have d0 := HT.out.hp.c0; have d1 := HT.out.hp.c1; have d2 := HT.out.hp.c2))
  all_goals
    go_ret
    exact ⟨rfl, HT.out.hp.below⟩
set_option maxRecDepth 100000 in
set_option maxHeartbeats 4000000 in
theorem und_b (A : Option Addr) (cp : Nat) (h : Hp) (a b c sel : Int) (w : World) (hl : h.objs.length ≤ cp) (hr : kOb.C w A h.objs.length h.objs) (hm : mayB h = true) (hn : (30 : Int) < (h.objs.length : Int)) :
    Calls Try.prog 4 #[.agg #[.slice A h.objs.length cp, .int .i64 h.cap, .int .i64 h.last], .agg #[.int .i64 a, .int .i64 b, .int .i64 c], .int .i64 sel] w fun e w' => e = .returned (.bool true) ∧ Below w.heap.size w w' := by
  have hu24 := Try.underlying24
  have hu34 := Try.underlying34
  have hmx := Kd.C_max hr
  have HM := Lib.hid hm
  have HT := Lib.hid (ArAt.first (cp := cp) (a := a) (b := b) (c := c) hr)
  clear hr
  go_enter Try.func4, Try.ntmps4
  go_wp2_with (first
    | (go_at_call 11; refine (law_fixed _).mono ?_; rintro e w2 ⟨rfl, hb⟩; replace HT := Lib.hid (HT.out.next hb); clear hb; have d0 := HT.out.hp.c0; have d1 := HT.out.hp.c1; have d2 := HT.out.hp.c2)
    | (go_at_call 12; refine (r3_Small A cp h _ hl HT.out.hp.row).mono ?_; rintro e w2 ⟨⟨b, rfl⟩, hb⟩; replace HT := Lib.hid (HT.out.next hb); clear hb; have d0 := HT.out.hp.c0; have d1 := HT.out.hp.c1; have d2 := HT.out.hp.c2; cases b)
    | (go_at_call 13; refine (r3_May A cp h _ hl HT.out.hp.row).mono ?_; rintro e w2 ⟨he, hb⟩; rw [HM.out] at he; subst he; replace HT := Lib.hid (HT.out.next hb); clear hb; have d0 := HT.out.hp.c0; have d1 := HT.out.hp.c1; have d2 := HT.out.hp.c2))
  all_goals
    go_ret
    exact ⟨rfl, HT.out.hp.below⟩

/-- What is under what, in the ways that the law knows. -/
theorem und_ways {h : Hp} (hm : mayB h = true) (hn : h.objs.length ≤ 30) (a b c sel : Int) :
    (underB h a b = false) ∨
    (underB h a b = true ∧ ((underB h b c = false) ∨ (underB h b c = true ∧ classB h.objs c = false) ∨ (underB h b c = true ∧ classB h.objs c = true ∧ underB h a c = true)) ∧
      (((findI h b sel).2.2 != 0) = true ∨ (((findI h b sel).2.2 != 0) = false ∧ ((findI h a sel).2.2 == 0) = true))) := by
  cases hab : underB h a b with
  | false => exact .inl rfl
  | true =>
    refine .inr ⟨rfl, ?_, ?_⟩
    · cases hbc : underB h b c with
      | false => exact .inl rfl
      | true =>
        cases hc : classB h.objs c with
        | false => exact .inr (.inl ⟨rfl, rfl⟩)
        | true => exact .inr (.inr ⟨rfl, rfl, under_trans hm hn hab hbc⟩)
    · by_cases he : (findI h b sel).2.2 = 0
      · exact .inr ⟨by simp [he], by simp [under_find hm hn hab he]⟩
      · exact .inl (by simp [he])
end Go.Proofs.Ytgdobomofdenfaa.Lk
