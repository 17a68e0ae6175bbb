/- The second law's walk, all ways. -/
import Derived.Test.YtgdobomofdenfaaLkUnderC
namespace Go.Proofs.Ytgdobomofdenfaa.Lk
open Go.RowKit Go.Proofs.YtgdobomofdenfaaW.PrintWords Go.Shelf
set_option linter.unusedVariables false

theorem und_walk (A : Option Addr) (cp : Nat) (h : Hp) (a b c sel : Int) (w : World) (hbits : bitsOk h.objs) (hl : h.objs.length ≤ cp) (hr : kOb.C w A h.objs.length h.objs) (wa : inI a) (wb : inI b) (wc : inI c) (ws : inI sel) :
    Calls Try.prog 4 #[.agg #[.slice A h.objs.length cp, .int .i64 h.cap, .int .i64 h.last], .agg #[.int .i64 a, .int .i64 b, .int .i64 c], .int .i64 sel] w fun e w' => e = .returned (.bool true) ∧ Below w.heap.size w w' := by
  cases hm : mayB h with
  | false => exact und_a A cp h a b c sel w hl hr hm
  | true =>
    by_cases hn : (30 : Int) < (h.objs.length : Int)
    · exact und_b A cp h a b c sel w hl hr hm hn
    · have hs : underB h a a = classB h.objs a := by rw [under_self hm, hm, Bool.true_and]
      rcases und_ways hm (by omega) a b c sel with h1 | ⟨h1, h2 | ⟨h2, h3⟩ | ⟨h2, h3, h4⟩, h5 | ⟨h5, h6⟩⟩
      · exact und_1 A cp h a b c sel w hbits hl hr hm hn hs h1
      · exact und_2 A cp h a b c sel w hbits hl hr hm hn hs h1 h2 h5
      · exact und_3 A cp h a b c sel w hbits hl hr hm hn hs h1 h2 h5 h6
      · exact und_4 A cp h a b c sel w hbits hl hr hm hn hs h1 h2 h3 h5
      · exact und_5 A cp h a b c sel w hbits hl hr hm hn hs h1 h2 h3 h5 h6
      · exact und_6 A cp h a b c sel w hbits hl hr hm hn hs h1 h2 h3 h4 h5
      · exact und_7 A cp h a b c sel w hbits hl hr hm hn hs h1 h2 h3 h4 h5 h6
end Go.Proofs.Ytgdobomofdenfaa.Lk
