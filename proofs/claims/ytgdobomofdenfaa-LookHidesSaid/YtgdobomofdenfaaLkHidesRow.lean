/- Whatever is found stands in the dictionary of the class that is told: for every input (the first row). -/
import Derived.Test.YtgdobomofdenfaaLkRow
import Derived.Test.YtgdobomofdenfaaRows
import Derived.Test.YtgdobomofdenfaaLkHidesB
namespace Go.Proofs.Ytgdobomofdenfaa.Lk
open Go.ChangeShapes Go.WideShapes Go.ChangeAt Go.RowKit Go.Proofs.YtgdobomofdenfaaW.PrintWords
open Go.ChangeMaps (open_string shut_string)
set_option linter.unusedVariables false
set_option linter.unusedSimpArgs false

theorem hides_walk (A : Option Addr) (cp : Nat) (h : Hp) (c sel : Int) (w : World) (hbits : bitsOk h.objs) (hl : h.objs.length ≤ cp) (hr : kOb.C w A h.objs.length h.objs) (wc : inI c) (ws : inI sel) :
    Calls Try.prog 3 #[.agg #[.slice A h.objs.length cp, .int .i64 h.cap, .int .i64 h.last], .int .i64 c, .int .i64 sel] w fun e w' => e = .returned (.bool true) ∧ Below w.heap.size w w' := by
  cases hm : mayB h with
  | false => exact hides_a A cp h c sel w hl hr hm
  | true =>
    by_cases hn : (40 : Int) < (h.objs.length : Int)
    · exact hides_b A cp h c sel w hbits hl hr hm hn
    · have hf : findI h c sel = findL h.objs sel (upL h.objs 64 c) := if_pos hm
      rcases findL_ways h.objs sel (upL h.objs 64 c) with h1 | h1 | ⟨v, a, h1, hmem, _⟩
      · exact hides_c A cp h c sel w hbits hl hr hm hn 91 (.inl rfl) (hf.trans h1)
      · exact hides_c A cp h c sel w hbits hl hr hm hn 90 (.inr rfl) (hf.trans h1)
      · refine hides_d A cp h c sel w hbits hl hr hm hn v a (hf.trans h1) ?_
        unfold underB
        rw [hm, Bool.true_and]
        exact List.any_eq_true.2 ⟨_, hmem, by simp⟩

set_option maxRecDepth 100000 in
theorem hides_lifted (os : Os) (started : os.Started) (H : Type) (enc : TypeId × Value → H) :
    ReturnsInHanded {} Try.checked os 3 .any (Rows.lookHidesSpec.pre6 enc Try.prog Try.f3 Rows.lookHidesRow.domain false) (Rows.lookHidesSpec.post enc Try.prog Try.f3 false true false false) := by
  refine returnsInHanded_of_change (C := Try.checked) own started (by kernel_rfl) Try.func3
    (ChangeSpec.witness6 (enc := enc) (C := Try.checked) false ⟨#[], #[.agg #[.slice none 0 0, .int .i64 0, .int .i64 0], .int .i64 0, .int .i64 0], []⟩ 8 (by kernel_rfl) (by kernel_rfl) (by kernel_rfl) (by kernel_rfl)) ?_
  intro W base args ds gs before hval0 hW hcnd _
  have hval : ∀ (j : Nat) t v, Try.f3.params[j]? = some t → args[j]? = some v → Value.okWide Try.prog W .any base t v := hval0
  have hW' := hW
  obtain ⟨p, q, hA0, hV, rfl, hfz, hnd⟩ := hW
  have hA : DataW.TrodAll enc Try.prog W 0 (fun _ => true) true Try.f3.params.toList args.toList ds p := hA0
  rw [Try.params3] at hA hval
  obtain ⟨v0, vs0, d0, ds0, p0, q0, hargs, rfl, rfl, h0, r0⟩ := trodAll_cons hA
  obtain ⟨v1, vs1, d1, ds1, p1, q1, rfl, rfl, rfl, h1, r1⟩ := trodAll_cons r0
  obtain ⟨v2, vs2, d2, ds2, p2, q2, rfl, rfl, rfl, h2, r2⟩ := trodAll_cons r1
  obtain ⟨rfl, rfl, rfl⟩ := trodAll_nil r2
  obtain rfl : args = #[v0, v1, v2] := by cases args; simp_all
  obtain ⟨rfl, rfl⟩ := trodVars_none hV
  have k0 := h0
  have lt0 : ∀ x ∈ p0, x.block < W.heap.size := by obtain ⟨m, hm⟩ := k0; exact DataW.trod_lt m _ _ _ hm
  obtain ⟨A, cp, hh, rfl, hl, hr, hb⟩ := heap_read (hval 0 24 v0 rfl rfl) h0
  obtain ⟨a1, rfl, rfl, rfl, w1⟩ := open_int Try.underlying3 (hval 1 3 v1 rfl rfl) h1
  obtain ⟨a2, rfl, rfl, rfl, w2⟩ := open_int Try.underlying3 (hval 2 3 v2 rfl rfl) h2
  clear hA0 hval0
  refine (hides_walk A cp hh a1 a2 W hb hl hr (bounds_i64 w1) (bounds_i64 w2)).mono fun e W' ⟨he, bel⟩ => ?_
  subst he
  exact ⟨_, rfl, _, _, _, [], _, [], hW', trodAll_mk1 (shut_bool Try.underlying4 _), (trodAll_cons_mk (Below.trod laidOut (by kernel_rfl) (of_decide_eq_true (by kernel_rfl)) k0 bel lt0) (trodAll_cons_mk (shut_int Try.underlying3 w1) (trodAll_cons_mk (shut_int Try.underlying3 w2) trodAll_mk0))), rfl, bel.frame _, fun h => by cases h⟩

theorem hides_over : Rows.lookHidesRow.holds Try.pinned (OpenSpec.ofChange Rows.lookHidesSpec) :=
  OpenClaim.holds_of_wide 3 Try.f3 rfl rfl rfl rfl rfl rfl rfl ⟨rfl, rfl, rfl, rfl, rfl⟩ rfl rfl rfl rfl rfl (by kernel_rfl) Try.func3 (by kernel_rfl)
    (of_decide_eq_true (by kernel_rfl)) (by unfold Func.isWrapper; first | (rw [if_pos (by decide +kernel)]; kernel_rfl) | (rw [if_neg (by decide +kernel)]; exact ⟨rfl, rfl⟩))
    (fun os started H enc _ => hides_lifted os started H enc)
theorem LookHides : Rows.LookHidesSaid := hides_over
end Go.Proofs.Ytgdobomofdenfaa.Lk
