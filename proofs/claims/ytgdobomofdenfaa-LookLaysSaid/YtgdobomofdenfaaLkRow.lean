/- How an argument that is a heap is read. -/
import Derived.Test.YtgdobomofdenfaaLkBase
import Derived.ProofKit
import Derived.OpenShut
import Derived.ShutString
import Derived.ChangeOld
import Derived.Below
import Derived.Deep.Slices
import Derived.Lib.SmallJoins
import Derived.Laws.IdiomArrays
import Derived.Test.YtgdobomofdenfaaLkHeapE
namespace Go.Proofs.Ytgdobomofdenfaa.Lk
open Go.ChangeShapes Go.WideShapes Go.ChangeAt Go.RowKit Go.Proofs.YtgdobomofdenfaaW.PrintWords Go.Deep Go.Joins
set_option linter.unusedVariables false
set_option linter.unusedSimpArgs false

theorem own : ownKnob Try.prog.godebug = none := by kernel_rfl
theorem laidOut : laidOutB Try.prog = true := by kernel_rfl
section
variable {H : Type} {enc : TypeId × Value → H} {w : World} {base : Nat} {spare : Nat → Bool} {held : Bool} {fuel : Nat}
theorem ints_read {v : Value} {x : DataW H × List MemPlace} (h : DataW.trod enc Try.prog w base spare held fuel 32 [v] = some x) :
    ∃ (A : Option Addr) (c : Nat) (l : List Int), v = .slice A l.length c ∧ l.length ≤ c ∧ (Kd.int .i64).C w A l.length l := by
  rcases open_ints Try.underlying32 Try.underlying3 (by kernel_rfl) h with ⟨hcs, _⟩ | ⟨a, l, c, zs, hcs, _, hl, hm, hz, _, hcell, _⟩
  · rw [List.cons.injEq] at hcs
    exact ⟨none, 0, [], hcs.1, Nat.le_refl _, ⟨rfl, Nat.zero_le _, fun h => absurd h (Nat.lt_irrefl _)⟩⟩
  · rw [List.cons.injEq] at hcs
    have hlz : l ≤ zs.length := by rw [hz]; split <;> omega
    have hlen : (zs.take l).length = l := by rw [List.length_take]; omega
    refine ⟨some a, c, zs.take l, by rw [hlen]; exact hcs.1, by omega, ⟨rfl, by rw [hlen]; unfold maxLen at hm; omega, fun _ => ⟨a, rfl, fun j p hj => ⟨[.int .i64 p], rfl, rfl, fun i u hu => ?_⟩⟩⟩⟩
    obtain ⟨hi, hu'⟩ := List.getElem?_eq_some_iff.1 hu
    have hi0 : i = 0 := by simpa using hi
    subst hi0
    obtain ⟨hj1, hj2⟩ := List.getElem?_eq_some_iff.1 hj
    rw [hlen] at hj1
    have h1 := hcell j (by omega)
    have h2 : zs.getD j 0 = p := by
      rw [List.getD_eq_getElem?_getD, List.getElem?_eq_getElem (by omega)]
      rw [← hj2, List.getElem_take]
      rfl
    rw [h2] at h1
    show w.cell? (a.add (j * 1 + 0)) = some u
    rw [Nat.mul_one, Nat.add_zero, h1, ← hu']
    rfl
theorem ob_read {cs : List Value} {x : DataW H × List MemPlace} (hc : cs.length = 6) (h : DataW.trod enc Try.prog w base spare held fuel 34 cs = some x) : ∃ o : Ob, kOb.K w o cs ∧ inI o.bits := by
  obtain ⟨xs, n, _, _, _, hlen, hf⟩ := DataW.trod_struct Try.underlying34 h
  have ci : Try.prog.cellsOf 3 = 1 := by kernel_rfl
  have cl : Try.prog.cellsOf 32 = 1 := by kernel_rfl
  have ct : Try.prog.cellsOf 9 = 1 := by kernel_rfl
  match cs, hc with
  | [c0, c1, c2, c3, c4, c5], _ =>
    have g0 := hf 0 _ rfl
    have g1 := hf 1 _ rfl
    have g2 := hf 2 _ rfl
    have g3 := hf 3 _ rfl
    have g4 := hf 4 _ rfl
    have g5 := hf 5 _ rfl
    have k0 : DataW.trod enc Try.prog w base spare held n 3 [c0] = xs[0]? := by rw [← g0]; show _ = DataW.trod enc Try.prog w base spare held n 3 (([c0, c1, c2, c3, c4, c5].drop 0).take (Try.prog.cellsOf 3)); rw [ci]; rfl
    have k1 : DataW.trod enc Try.prog w base spare held n 3 [c1] = xs[1]? := by rw [← g1]; show _ = DataW.trod enc Try.prog w base spare held n 3 (([c0, c1, c2, c3, c4, c5].drop 1).take (Try.prog.cellsOf 3)); rw [ci]; rfl
    have k2 : DataW.trod enc Try.prog w base spare held n 32 [c2] = xs[2]? := by rw [← g2]; show _ = DataW.trod enc Try.prog w base spare held n 32 (([c0, c1, c2, c3, c4, c5].drop 2).take (Try.prog.cellsOf 32)); rw [cl]; rfl
    have k3 : DataW.trod enc Try.prog w base spare held n 9 [c3] = xs[3]? := by rw [← g3]; show _ = DataW.trod enc Try.prog w base spare held n 9 (([c0, c1, c2, c3, c4, c5].drop 3).take (Try.prog.cellsOf 9)); rw [ct]; rfl
    have k4 : DataW.trod enc Try.prog w base spare held n 3 [c4] = xs[4]? := by rw [← g4]; show _ = DataW.trod enc Try.prog w base spare held n 3 (([c0, c1, c2, c3, c4, c5].drop 4).take (Try.prog.cellsOf 3)); rw [ci]; rfl
    have k5 : DataW.trod enc Try.prog w base spare held n 3 [c5] = xs[5]? := by rw [← g5]; show _ = DataW.trod enc Try.prog w base spare held n 3 (([c0, c1, c2, c3, c4, c5].drop 5).take (Try.prog.cellsOf 3)); rw [ci]; rfl
    have hl6 : xs.length = 6 := hlen
    have e0 : ∀ i (hi : i < 6), xs[i]? = some xs[i] := fun i hi => List.getElem?_eq_getElem (by omega)
    obtain ⟨a0, h0, _, _⟩ := DataW.trod_int Try.underlying3 (k0.trans (e0 0 (by omega)))
    obtain ⟨a1, h1, _, _⟩ := DataW.trod_int Try.underlying3 (k1.trans (e0 1 (by omega)))
    obtain ⟨A, c, l, h2, hl, hr⟩ := ints_read (k2.trans (e0 2 (by omega)))
    obtain ⟨s, h3, _, _⟩ := DataW.trod_string Try.underlying9 (k3.trans (e0 3 (by omega)))
    obtain ⟨a4, h4, _, w4⟩ := DataW.trod_int Try.underlying3 (k4.trans (e0 4 (by omega)))
    obtain ⟨a5, h5, _, _⟩ := DataW.trod_int Try.underlying3 (k5.trans (e0 5 (by omega)))
    rw [List.cons.injEq] at h0 h1 h3 h4 h5
    obtain ⟨rfl, _⟩ := h0
    obtain ⟨rfl, _⟩ := h1
    subst h2
    obtain ⟨rfl, _⟩ := h3
    obtain ⟨rfl, _⟩ := h4
    obtain ⟨rfl, _⟩ := h5
    exact ⟨⟨a0, a1, l, s, a4, a5⟩, kOb_mk w ⟨a0, a1, l, s, a4, a5⟩ hl hr, bounds_i64 w4⟩
theorem obs_read {v : Value} {x : DataW H × List MemPlace} (h : DataW.trod enc Try.prog w base spare held fuel 22 [v] = some x) :
    ∃ (A : Option Addr) (c : Nat) (l : List Ob), v = .slice A l.length c ∧ l.length ≤ c ∧ kOb.C w A l.length l ∧ bitsOk l := by
  rcases open_slice Try.underlying22 h with ⟨hcs, _⟩ | ⟨a, len, cap, m, n, D, Pl, hcs, _, hl, hm, hmm, _, hx⟩
  · rw [List.cons.injEq] at hcs
    exact ⟨none, 0, [], hcs.1, Nat.le_refl _, ⟨rfl, Nat.zero_le _, fun h => absurd h (Nat.lt_irrefl _)⟩, fun o ho => by cases ho⟩
  · rw [List.cons.injEq] at hcs
    have c6 : Try.prog.cellsOf 34 = 6 := by kernel_rfl
    rw [c6] at hx
    haveI : Inhabited Ob := ⟨z0⟩
    obtain ⟨f, hf⟩ := choose_lt (α := Ob) (n := len) (p := fun i o => (∃ cs, cs.length = 6 ∧ kOb.K w o cs ∧ ∀ j u, cs[j]? = some u → w.cell? (a.add (i * 6 + j)) = some u) ∧ inI o.bits) (fun i hi => by
      obtain ⟨cs', h1, h2⟩ := hx i (by rw [hmm]; split <;> omega)
      obtain ⟨_, hlen, hcell⟩ := World.cells?_some h1
      obtain ⟨o, ho, hb⟩ := ob_read hlen h2
      refine ⟨o, ⟨cs', hlen, ho, fun j u hu => ?_⟩, hb⟩
      have hj := (List.getElem?_eq_some_iff.1 hu).1
      rw [← hu, ← hcell j (by omega), Go.Deep.add_add])
    have hlen : ((List.range len).map f).length = len := by simp
    refine ⟨some a, cap, (List.range len).map f, by rw [hlen]; exact hcs.1, by omega, ⟨rfl, by rw [hlen]; unfold maxLen at hm; omega, fun _ => ⟨a, rfl, fun j p hj => ?_⟩⟩, fun o ho => ?_⟩
    · obtain ⟨hj1, hj2⟩ := List.getElem?_eq_some_iff.1 hj
      rw [hlen] at hj1
      have : f j = p := by rw [← hj2]; simp
      subst this
      exact (hf j hj1).1
    · obtain ⟨j, hj, rfl⟩ := List.mem_map.1 ho
      exact (hf j (List.mem_range.1 hj)).2
/-- A heap by value. -/
theorem heap_read {r : Reach} {b0 : Nat} {v : Value} {d : DataW H} {p : List MemPlace} (hv : Value.okWide Try.prog w r b0 24 v) (h : DataW.Trod enc Try.prog w base spare held 24 v d p) :
    ∃ (A : Option Addr) (c : Nat) (h : Hp), v = .agg #[.slice A h.objs.length c, .int .i64 h.cap, .int .i64 h.last] ∧ h.objs.length ≤ c ∧ kOb.C w A h.objs.length h.objs ∧ bitsOk h.objs := by
  obtain ⟨v0, v1, v2, y0, y1, y2, n, rfl, _, _, g0, g1, g2⟩ := open_agg3 Try.underlying24 (by kernel_rfl) (by kernel_rfl) hv h
  obtain ⟨A, c, l, rfl, hl, hr, hb⟩ := obs_read g0
  obtain ⟨a1, e1, _, _⟩ := DataW.trod_int Try.underlying3 g1
  obtain ⟨a2, e2, _, _⟩ := DataW.trod_int Try.underlying3 g2
  rw [List.cons.injEq] at e1 e2
  obtain ⟨rfl, _⟩ := e1
  obtain ⟨rfl, _⟩ := e2
  exact ⟨A, c, ⟨l, a1, a2⟩, rfl, hl, hr, hb⟩
/-- An array of three numbers by value. -/
theorem arr3_read {r : Reach} {b0 : Nat} {v : Value} {d : DataW H} {p : List MemPlace} (hv : Value.okWide Try.prog w r b0 36 v) (h : DataW.Trod enc Try.prog w base spare held 36 v d p) :
    ∃ a b c : Int, v = .agg #[.int .i64 a, .int .i64 b, .int .i64 c] ∧ inI a ∧ inI b ∧ inI c := by
  simp only [Value.okWide, Try.underlying36] at hv
  obtain ⟨cs, rfl, hsz, _⟩ := hv
  have h3 : Try.prog.cellsOf 36 = 3 := by kernel_rfl
  obtain ⟨c0, c1, c2, rfl⟩ := array3 (hsz.trans h3)
  obtain ⟨fuel, hf⟩ := h
  obtain ⟨y0, y1, y2, n, _, g0, g1, g2⟩ := trod_array3 Try.underlying36 (by kernel_rfl) hf
  obtain ⟨a, e0, _, w0⟩ := DataW.trod_int Try.underlying3 g0
  obtain ⟨b, e1, _, w1⟩ := DataW.trod_int Try.underlying3 g1
  obtain ⟨c, e2, _, w2⟩ := DataW.trod_int Try.underlying3 g2
  rw [List.cons.injEq] at e0 e1 e2
  obtain ⟨rfl, _⟩ := e0
  obtain ⟨rfl, _⟩ := e1
  obtain ⟨rfl, _⟩ := e2
  exact ⟨a, b, c, rfl, bounds_i64 w0, bounds_i64 w1, bounds_i64 w2⟩
end
end Go.Proofs.Ytgdobomofdenfaa.Lk
