/- How asks of a cache read. -/
import Derived.Test.YtgdobomofdenfaaLkRow
namespace Go.Proofs.Ytgdobomofdenfaa.Lk
open Go.ChangeShapes Go.WideShapes Go.ChangeAt Go.RowKit Go.Proofs.YtgdobomofdenfaaW.PrintWords Go.Deep Go.Joins
set_option linter.unusedVariables false
set_option linter.unusedSimpArgs false

/-- An ask. -/
structure Ak where
  cls : Int
  sel : Int
  fl : Bool
  ot : Bool
def aZ : Ak := ⟨0, 0, false, false⟩
def kAk : Kd Ak := Kd.iso (Kd.pair (Kd.int .i64) (Kd.pair (Kd.int .i64) (Kd.pair Kd.bool Kd.bool))) (fun x : Ak => (x.cls, x.sel, x.fl, x.ot))
theorem kAk_open {w : World} {x : Ak} {cs : List Value} (h : kAk.K w x cs) : cs = [.int .i64 x.cls, .int .i64 x.sel, .bool x.fl, .bool x.ot] := by
  obtain ⟨_, _, rfl, rfl, ⟨_, _, rfl, rfl, ⟨_, _, rfl, rfl, rfl⟩⟩⟩ := h
  rfl
theorem kAk_mk (w : World) (x : Ak) : kAk.K w x [.int .i64 x.cls, .int .i64 x.sel, .bool x.fl, .bool x.ot] := ⟨[.int .i64 x.cls], [.int .i64 x.sel, .bool x.fl, .bool x.ot], rfl, rfl, ⟨[.int .i64 x.sel], [.bool x.fl, .bool x.ot], rfl, rfl, ⟨[.bool x.fl], [.bool x.ot], rfl, rfl, rfl⟩⟩⟩
/-- The ask at a place. -/
def ak (l : List Ak) (i : Nat) : Ak := l.getD i aZ
structure AkAt (w : World) (p : Addr) (x : Ak) : Prop where
  c0 : w.cell? p = some (.int .i64 x.cls)
  c1 : w.cell? ⟨p.block, p.off + 1, none⟩ = some (.int .i64 x.sel)
  c2 : w.cell? ⟨p.block, p.off + 2, none⟩ = some (.bool x.fl)
  c3 : w.cell? ⟨p.block, p.off + 3, none⟩ = some (.bool x.ot)
theorem AkAt.below {w w1 : World} {p : Addr} {x : Ak} (h : AkAt w p x) (hb : Below w.heap.size w w1) : AkAt w1 p x := ⟨pw_cell_below hb h.c0, pw_cell_below hb h.c1, pw_cell_below hb h.c2, pw_cell_below hb h.c3⟩
theorem aks_at {w : World} {A : Option Addr} {n : Nat} {l : List Ak} (h : kAk.C w A n l) (i : Nat) (hi : i < n) : ∃ ad, A = some ad ∧ AkAt w (ad.add (i * 4)) (ak l i) := by
  obtain ⟨ad, c, e, _, hK, hc0⟩ := Kd.C_get h aZ (i : Int) (by omega) (by omega)
  have hc : ∀ j u, c[j]? = some u → w.cell? (ad.add (i * 4 + j)) = some u := hc0
  obtain rfl := kAk_open hK
  exact ⟨ad, e, hc 0 _ rfl, by rw [← add_field _ _ 1 (by omega)]; exact hc 1 _ rfl, by rw [← add_field _ _ 2 (by omega)]; exact hc 2 _ rfl, by rw [← add_field _ _ 3 (by omega)]; exact hc 3 _ rfl⟩
section
variable {H : Type} {enc : TypeId × Value → H} {w : World} {base : Nat} {spare : Nat → Bool} {held : Bool} {fuel : Nat}
theorem ak_read {cs : List Value} {x : DataW H × List MemPlace} (hc : cs.length = 4) (h : DataW.trod enc Try.prog w base spare held fuel 48 cs = some x) : ∃ o : Ak, kAk.K w o cs := by
  obtain ⟨xs, n, _, _, _, hlen, hf⟩ := DataW.trod_struct Try.underlying48 h
  have ci : Try.prog.cellsOf 3 = 1 := by kernel_rfl
  have cb : Try.prog.cellsOf 4 = 1 := by kernel_rfl
  match cs, hc with
  | [c0, c1, c2, c3], _ =>
    have g0 := hf 0 _ rfl
    have g1 := hf 1 _ rfl
    have g2 := hf 2 _ rfl
    have g3 := hf 3 _ rfl
    have k0 : DataW.trod enc Try.prog w base spare held n 3 [c0] = xs[0]? := by rw [← g0]; show _ = DataW.trod enc Try.prog w base spare held n 3 (([c0, c1, c2, c3].drop 0).take (Try.prog.cellsOf 3)); rw [ci]; rfl
    have k1 : DataW.trod enc Try.prog w base spare held n 3 [c1] = xs[1]? := by rw [← g1]; show _ = DataW.trod enc Try.prog w base spare held n 3 (([c0, c1, c2, c3].drop 1).take (Try.prog.cellsOf 3)); rw [ci]; rfl
    have k2 : DataW.trod enc Try.prog w base spare held n 4 [c2] = xs[2]? := by rw [← g2]; show _ = DataW.trod enc Try.prog w base spare held n 4 (([c0, c1, c2, c3].drop 2).take (Try.prog.cellsOf 4)); rw [cb]; rfl
    have k3 : DataW.trod enc Try.prog w base spare held n 4 [c3] = xs[3]? := by rw [← g3]; show _ = DataW.trod enc Try.prog w base spare held n 4 (([c0, c1, c2, c3].drop 3).take (Try.prog.cellsOf 4)); rw [cb]; rfl
    have hl4 : xs.length = 4 := hlen
    have e0 : ∀ i (hi : i < 4), xs[i]? = some xs[i] := fun i hi => List.getElem?_eq_getElem (by omega)
    obtain ⟨a0, h0, _, _⟩ := DataW.trod_int Try.underlying3 (k0.trans (e0 0 (by omega)))
    obtain ⟨a1, h1, _, _⟩ := DataW.trod_int Try.underlying3 (k1.trans (e0 1 (by omega)))
    obtain ⟨a2, h2, _⟩ := DataW.trod_bool Try.underlying4 (k2.trans (e0 2 (by omega)))
    obtain ⟨a3, h3, _⟩ := DataW.trod_bool Try.underlying4 (k3.trans (e0 3 (by omega)))
    rw [List.cons.injEq] at h0 h1 h2 h3
    obtain ⟨rfl, _⟩ := h0
    obtain ⟨rfl, _⟩ := h1
    obtain ⟨rfl, _⟩ := h2
    obtain ⟨rfl, _⟩ := h3
    exact ⟨⟨a0, a1, a2, a3⟩, kAk_mk w _⟩
theorem aks_read {v : Value} {x : DataW H × List MemPlace} (h : DataW.trod enc Try.prog w base spare held fuel 40 [v] = some x) :
    ∃ (A : Option Addr) (c : Nat) (l : List Ak), v = .slice A l.length c ∧ l.length ≤ c ∧ kAk.C w A l.length l := by
  rcases open_slice Try.underlying40 h with ⟨hcs, _⟩ | ⟨a, len, cap, m, n, D, Pl, hcs, _, hl, hm, hmm, _, hx⟩
  · rw [List.cons.injEq] at hcs
    exact ⟨none, 0, [], hcs.1, Nat.le_refl _, ⟨rfl, Nat.zero_le _, fun h => absurd h (Nat.lt_irrefl _)⟩⟩
  · rw [List.cons.injEq] at hcs
    have c4 : Try.prog.cellsOf 48 = 4 := by kernel_rfl
    rw [c4] at hx
    haveI : Inhabited Ak := ⟨aZ⟩
    obtain ⟨f, hf⟩ := choose_lt (α := Ak) (n := len) (p := fun i o => ∃ cs, cs.length = 4 ∧ kAk.K w o cs ∧ ∀ j u, cs[j]? = some u → w.cell? (a.add (i * 4 + j)) = some u) (fun i hi => by
      obtain ⟨cs', h1, h2⟩ := hx i (by rw [hmm]; split <;> omega)
      obtain ⟨_, hlen, hcell⟩ := World.cells?_some h1
      obtain ⟨o, ho⟩ := ak_read hlen h2
      refine ⟨o, cs', hlen, ho, fun j u hu => ?_⟩
      have hj := (List.getElem?_eq_some_iff.1 hu).1
      rw [← hu, ← hcell j (by omega), Go.Deep.add_add])
    have hlen : ((List.range len).map f).length = len := by simp
    refine ⟨some a, cap, (List.range len).map f, by rw [hlen]; exact hcs.1, by omega, ⟨rfl, by rw [hlen]; unfold maxLen at hm; omega, fun _ => ⟨a, rfl, fun j p hj => ?_⟩⟩⟩
    obtain ⟨hj1, hj2⟩ := List.getElem?_eq_some_iff.1 hj
    rw [hlen] at hj1
    have : f j = p := by rw [← hj2]; simp
    subst this
    exact hf j hj1
/-- Asks by value. -/
theorem asks_read {r : Reach} {b0 : Nat} {v : Value} {d : DataW H} {p : List MemPlace} (hv : Value.okWide Try.prog w r b0 42 v) (h : DataW.Trod enc Try.prog w base spare held 42 v d p) :
    ∃ (A : Option Addr) (c : Nat) (s : Int) (l : List Ak), v = .agg #[.int .i64 s, .slice A l.length c] ∧ l.length ≤ c ∧ kAk.C w A l.length l ∧ inI s := by
  obtain ⟨v0, v1, y0, y1, n, rfl, _, _, g0, g1⟩ := open_agg2 Try.underlying42 (by kernel_rfl) (by kernel_rfl) hv h
  obtain ⟨A, c, l, rfl, hl, hr⟩ := aks_read g1
  obtain ⟨a1, e1, _, w1⟩ := DataW.trod_int Try.underlying3 g0
  rw [List.cons.injEq] at e1
  obtain ⟨rfl, _⟩ := e1
  exact ⟨A, c, a1, l, rfl, hl, hr, bounds_i64 w1⟩
end
end Go.Proofs.Ytgdobomofdenfaa.Lk
