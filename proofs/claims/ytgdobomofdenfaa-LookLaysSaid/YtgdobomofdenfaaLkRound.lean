/- A region that draws its order, in a round of a range over a function. -/
import Derived.Test.YtgdobomofdenfaaLkUnder
namespace Go.Proofs.Ytgdobomofdenfaa.Lk
open Go.RowKit Go.Proofs.YtgdobomofdenfaaW.PrintWords Go.Shelf
set_option linter.unusedVariables false
set_option linter.unusedSimpArgs false

def noDefer (l : List Oper) : Bool := l.all fun o => match o.op with | .defer _ => false | _ => true
theorem noDefer_spec {l : List Oper} (h : noDefer l = true) (o : Oper) (ho : o ∈ l) (c : Call) : o.op ≠ .defer c := by
  intro e
  have := List.all_eq_true.1 h o ho
  rw [e] at this
  cases this
theorem wpOpsIn_round {P : Program} {ops : Array Oper} {Q : Exit → Act → World → Prop} (lr n : Nat) (hQ : ¬ LetsOut Q) (hd : noDefer ops.toList = true) :
    ∀ (L : List Nat) (a : Act) (w : World), wpOps P ops Q L a w → wpOpsIn (Fence.wide.inRound lr) n P ops Q L a w := by
  intro L
  induction L with
  | nil => exact fun a w h => h
  | cons i rest ih =>
    intro a w h
    simp only [wpOps] at h
    simp only [wpOpsIn]
    cases ho : ops[i]? with
    | none => rw [ho] at h; exact ih a w h
    | some o =>
      rw [ho] at h
      simp only at h ⊢
      have hmem : o ∈ ops.toList := by
        obtain ⟨hi, rfl⟩ := Array.getElem?_eq_some_iff.1 ho
        simp
      by_cases hw : Region.wanted o (yielded ops a.tmps) = true
      · rw [if_pos hw] at h ⊢
        rcases h with h | h
        · refine ⟨fun _ _ => trivial, ?_⟩
          rw [Fence.inRound_round, Oper.semAt_some lr _ _ (noDefer_spec hd o hmem)]
          unfold Oper.wp at h
          generalize (execOp a.eval o).run P w = r at h ⊢
          cases r with
          | ok x w' =>
            cases x with
            | value v => exact ih _ _ h
            | skip => exact ih _ _ h
            | defer d => exact ih _ _ h
            | enter f args =>
              refine ⟨fun h => by simp [Fence.wide] at h, CallsIn.inRound lr (callsIn_wide.2 (Calls.mono h ?_))⟩
              intro e w'' h'
              cases e with
              | returned v => exact ih _ _ h'
              | panicked ch => exact h'
              | outgrown => exact h'
            | row row args =>
              refine ⟨fun h => by simp [Fence.wide] at h, fun c cs _ => ?_⟩
              obtain ⟨v, w'', hv, hs⟩ := h c cs
              exact ⟨v, w'', ih _ _ hv, stepsIn_wide.2 hs⟩
            | _ => exact h.elim
          | halt x w' =>
            cases x with
            | panic v => exact h
            | _ => exact h.elim
        · exact absurd h.2 hQ
      · rw [if_neg hw] at h ⊢
        exact ⟨fun _ _ => trivial, ih _ _ h⟩

/-- The region, in a round, by one walk in the text's order, in whatever world lies beyond. -/
theorem wpIn_region_round {P : Program} {id : Nat} {Q : Exit → Act → World → Prop} {a : Act} {w : World} {l : List Oper} {lr n : Nat} (hQ : ¬ LetsOut Q) (hd : noDefer l = true) (hm : P.follows .mixedOrders = true) (hB : Region.lexB .any l.toArray = true)
    (h : wpQuiet P l.toArray (fun w' => ∃ x : Ext w, w' = x.val) (fun a' => ∀ w', (∃ x : Ext w, w' = x.val) → Q .normal a' w') l a) : (Code.region id l.toArray true).wpIn (Fence.wide.inRound lr) n P Q a w := by
  simp only [Region.lexB, Bool.and_eq_true] at hB
  refine wpIn_region_draw fun t => ?_
  simp only [Region.schedule, hm, Bool.true_or, if_true]
  refine wpOpsIn_round lr n hQ (by simpa using hd) _ _ _ (wpAny_sound l.toArray.size t _ a _ ?_)
  refine wpAny_of_quiet (Q := fun a' => ∀ w', (∃ x : Ext w, w' = x.val) → Q .normal a' w') (C := fun w' => ∃ x : Ext w, w' = x.val) (fun _ w' hw' h => h w' hw') _ _ _ _ ⟨⟨_, (Below.refl _ w).drew⟩, rfl⟩ ?_
  have := wpAnyQ_lex (C := fun w' => ∃ x : Ext w, w' = x.val) (md := .any) hB.1 l 0 (Array.replicate l.toArray.size false) a (by simp) (by simpa using hB.2) h
  simpa using this
end Go.Proofs.Ytgdobomofdenfaa.Lk
