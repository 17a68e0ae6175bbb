/- A cache's contracts: a key's place. -/
import Derived.Test.YtgdobomofdenfaaLkCaA
namespace Go.Proofs.Ytgdobomofdenfaa.Lk
open Go.RowKit Go.Proofs.YtgdobomofdenfaaW.PrintWords Go.Shelf
set_option linter.unusedVariables false
set_option linter.unusedSimpArgs false

/-- A key's number, and its place among n. -/
def keyI (c s : Int) : Int := wrap64 (wrap64 (31 * c) + s)
def placeI (n : Nat) (c s : Int) : Int := if (keyI c s).tmod n < 0 then (keyI c s).tmod n + n else (keyI c s).tmod n
theorem w64_in {x : Int} (h : -9223372036854775808 ≤ x ∧ x ≤ 9223372036854775807) : wrap64 x = x := by unfold wrap64; omega
theorem tmod_bd (x : Int) (n : Nat) (hn : 0 < n) : -(n : Int) < x.tmod n ∧ x.tmod n < n := by
  have h1 := Int.tmod_lt_of_pos x (show (0 : Int) < n by omega)
  have h2 := Int.lt_tmod_of_pos x (show (0 : Int) < n by omega)
  exact ⟨h2, h1⟩
theorem place_bd (n : Nat) (c s : Int) (hn : 0 < n) : 0 ≤ placeI n c s ∧ placeI n c s < n := by
  have := tmod_bd (keyI c s) n hn
  unfold placeI
  split <;> omega

set_option maxRecDepth 100000 in
set_option maxHeartbeats 1000000 in
theorem ca_place {gc ge : Nat} {l : List En} {hits misses : Int} (c s : Int) (w : World) (hn : 0 < l.length) (hm : l.length ≤ 64) (k : CaAt 73 81 gc ge l hits misses w) :
    Calls Try.prog 42 #[.pointer (some ⟨gc, 0, none⟩), .agg #[.int .i64 c, .int .i64 s]] w fun e w' => e = .returned (.pointer (some ⟨ge, (placeI l.length c s).toNat * 5, none⟩)) ∧ Below w.heap.size w w' := by
  have hu73 := Try.underlying73
  have hu77 := Try.underlying77
  have hu81 := Try.underlying81
  have d0 := cell_on k.b0
  have hb : -(l.length : Int) < (wrap64 (wrap64 (31 * c) + s)).tmod l.length ∧ (wrap64 (wrap64 (31 * c) + s)).tmod l.length < l.length := tmod_bd _ _ hn
  obtain ⟨hb1, hb2⟩ := hb
  have hB := Lib.hid (box1 w (.cells #[.int .i64 c, .int .i64 s] 77)).1
  have hz : ((l.length : Int) == 0) = false := beq_eq_false_iff_ne.2 (by omega)
  by_cases hneg : (wrap64 (wrap64 (31 * c) + s)).tmod l.length < 0
  · have hp := Lib.hid (show placeI l.length c s = (wrap64 (wrap64 (31 * c) + s)).tmod l.length + l.length from if_pos hneg)
    have hw : wrap64 ((wrap64 (wrap64 (31 * c) + s)).tmod l.length + l.length) = (wrap64 (wrap64 (31 * c) + s)).tmod l.length + l.length := w64_in (by omega)
    have h0 : 0 ≤ (wrap64 (wrap64 (31 * c) + s)).tmod l.length + l.length := by omega
    have h1 : (wrap64 (wrap64 (31 * c) + s)).tmod l.length + l.length < l.length := by omega
    go_enter Try.func42, Try.ntmps42
    go_wp2
    go_ret
    exact ⟨by rw [hp.out]; rfl, hB.out⟩
  · have hp := Lib.hid (show placeI l.length c s = (wrap64 (wrap64 (31 * c) + s)).tmod l.length from if_neg hneg)
    have h0 : 0 ≤ (wrap64 (wrap64 (31 * c) + s)).tmod l.length := by omega
    go_enter Try.func42, Try.ntmps42
    go_wp2
    go_ret
    exact ⟨by rw [hp.out]; rfl, hB.out⟩
end Go.Proofs.Ytgdobomofdenfaa.Lk
