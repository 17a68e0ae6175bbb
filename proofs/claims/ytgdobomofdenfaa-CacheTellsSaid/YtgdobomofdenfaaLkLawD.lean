/- The state of a statement on one cache and two heaps that change places. -/
import Derived.Test.YtgdobomofdenfaaLkLawC
namespace Go.Proofs.Ytgdobomofdenfaa.Lk
open Go.RowKit Go.Proofs.YtgdobomofdenfaaW.PrintWords Go.Shelf
set_option linter.unusedVariables false
set_option linter.unusedSimpArgs false

/-- A heap that came in. -/
structure Ha where
  A : Option Addr
  cp : Nat
  h : Hp
structure Ha.Ok (w : World) (x : Ha) : Prop where
  bits : bitsOk x.h.objs
  le : x.h.objs.length ≤ x.cp
  row : kOb.C w x.A x.h.objs.length x.h.objs
structure SS (w0 : World) (Ax : Option Addr) (cx n : Nat) (sz : Int) (x y : Ha) (gc ge : Nat) (l : List En) (hits misses : Int) (W : World) : Prop where
  frm : Frm w0 [gc, ge, w0.heap.size, w0.heap.size + 1] [(w0.heap.size + 2, aObj Ax cx n sz)] W
  bh : W.heap[w0.heap.size]? = some (hObj x.A x.cp x.h)
  bg : W.heap[w0.heap.size + 1]? = some (hObj y.A y.cp y.h)
  ca : CaAt 73 81 gc ge l hits misses W
  ne : w0.heap.size ≠ gc ∧ w0.heap.size ≠ ge ∧ w0.heap.size + 1 ≠ gc ∧ w0.heap.size + 1 ≠ ge
section
variable {w0 : World} {Ax : Option Addr} {cx n : Nat} {sz : Int} {x y : Ha} {gc ge : Nat} {l l1 : List En} {hits misses h1 m1 : Int} {W W1 : World}
theorem SS.c0 (k : SS w0 Ax cx n sz x y gc ge l hits misses W) : W.cell? ⟨w0.heap.size, 0, none⟩ = some (.slice x.A x.h.objs.length x.cp) := cellof k.bh 0
theorem SS.c1 (k : SS w0 Ax cx n sz x y gc ge l hits misses W) : W.cell? ⟨w0.heap.size, 1, none⟩ = some (.int .i64 x.h.cap) := cellof k.bh 1
theorem SS.c2 (k : SS w0 Ax cx n sz x y gc ge l hits misses W) : W.cell? ⟨w0.heap.size, 2, none⟩ = some (.int .i64 x.h.last) := cellof k.bh 2
theorem SS.g0 (k : SS w0 Ax cx n sz x y gc ge l hits misses W) : W.cell? ⟨w0.heap.size + 1, 0, none⟩ = some (.slice y.A y.h.objs.length y.cp) := cellof k.bg 0
theorem SS.g1 (k : SS w0 Ax cx n sz x y gc ge l hits misses W) : W.cell? ⟨w0.heap.size + 1, 1, none⟩ = some (.int .i64 y.h.cap) := cellof k.bg 1
theorem SS.g2 (k : SS w0 Ax cx n sz x y gc ge l hits misses W) : W.cell? ⟨w0.heap.size + 1, 2, none⟩ = some (.int .i64 y.h.last) := cellof k.bg 2
theorem SS.a1 (k : SS w0 Ax cx n sz x y gc ge l hits misses W) : W.cell? ⟨w0.heap.size + 2, 1, none⟩ = some (.slice Ax n cx) := k.frm.a1 (.head _)
theorem SS.later (k : SS w0 Ax cx n sz x y gc ge l hits misses W) (hb : Below W.heap.size W W1) : SS w0 Ax cx n sz x y gc ge l hits misses W1 :=
  ⟨k.frm.later hb, (hb.block _ (Array.getElem?_eq_some_iff.1 k.bh).1).trans k.bh, (hb.block _ (Array.getElem?_eq_some_iff.1 k.bg).1).trans k.bg, k.ca.next hb, k.ne⟩
theorem SS.keep (k : SS w0 Ax cx n sz x y gc ge l hits misses W) (c : CaAt 73 81 gc ge l1 h1 m1 W1) (q : Keep2 gc ge W W1) : SS w0 Ax cx n sz x y gc ge l1 h1 m1 W1 :=
  ⟨k.frm.keep q (.head _) (.tail _ (.head _)), (q.block _ (Array.getElem?_eq_some_iff.1 k.bh).1 k.ne.1 k.ne.2.1).trans k.bh, (q.block _ (Array.getElem?_eq_some_iff.1 k.bg).1 k.ne.2.2.1 k.ne.2.2.2).trans k.bg, c, k.ne⟩
theorem SS.set_h (k : SS w0 Ax cx n sz x y gc ge l hits misses W) (u : Ha) :
    SS w0 Ax cx n sz u y gc ge l hits misses (((W.setCell ⟨w0.heap.size, 0, none⟩ (.slice u.A u.h.objs.length u.cp)).setCell ⟨w0.heap.size, 1, none⟩ (.int .i64 u.h.cap)).setCell ⟨w0.heap.size, 2, none⟩ (.int .i64 u.h.last)) := by
  have q : Keep2 w0.heap.size gc W (((W.setCell ⟨w0.heap.size, 0, none⟩ (.slice u.A u.h.objs.length u.cp)).setCell ⟨w0.heap.size, 1, none⟩ (.int .i64 u.h.cap)).setCell ⟨w0.heap.size, 2, none⟩ (.int .i64 u.h.last)) :=
    ((Keep2.set_a _ _ _).trans (Keep2.set_a _ _ _)).trans (Keep2.set_a _ _ _)
  have q' : Keep2 w0.heap.size w0.heap.size W (((W.setCell ⟨w0.heap.size, 0, none⟩ (.slice u.A u.h.objs.length u.cp)).setCell ⟨w0.heap.size, 1, none⟩ (.int .i64 u.h.cap)).setCell ⟨w0.heap.size, 2, none⟩ (.int .i64 u.h.last)) :=
    ((Keep2.set_a _ _ _).trans (Keep2.set_a _ _ _)).trans (Keep2.set_a _ _ _)
  refine ⟨k.frm.keep q (.tail _ (.tail _ (.head _))) (.head _), ?_, ?_, ?_, k.ne⟩
  · exact blk_set (blk_set (blk_set k.bh 0 _) 1 _) 2 _
  · exact (q'.block _ (Array.getElem?_eq_some_iff.1 k.bg).1 (by omega) (by omega)).trans k.bg
  · exact k.ca.keep q' (Ne.symm k.ne.1) (Ne.symm k.ne.1) (Ne.symm k.ne.2.1) (Ne.symm k.ne.2.1)
theorem SS.set_g (k : SS w0 Ax cx n sz x y gc ge l hits misses W) (u : Ha) :
    SS w0 Ax cx n sz x u gc ge l hits misses (((W.setCell ⟨w0.heap.size + 1, 0, none⟩ (.slice u.A u.h.objs.length u.cp)).setCell ⟨w0.heap.size + 1, 1, none⟩ (.int .i64 u.h.cap)).setCell ⟨w0.heap.size + 1, 2, none⟩ (.int .i64 u.h.last)) := by
  have q : Keep2 (w0.heap.size + 1) gc W (((W.setCell ⟨w0.heap.size + 1, 0, none⟩ (.slice u.A u.h.objs.length u.cp)).setCell ⟨w0.heap.size + 1, 1, none⟩ (.int .i64 u.h.cap)).setCell ⟨w0.heap.size + 1, 2, none⟩ (.int .i64 u.h.last)) :=
    ((Keep2.set_a _ _ _).trans (Keep2.set_a _ _ _)).trans (Keep2.set_a _ _ _)
  have q' : Keep2 (w0.heap.size + 1) (w0.heap.size + 1) W (((W.setCell ⟨w0.heap.size + 1, 0, none⟩ (.slice u.A u.h.objs.length u.cp)).setCell ⟨w0.heap.size + 1, 1, none⟩ (.int .i64 u.h.cap)).setCell ⟨w0.heap.size + 1, 2, none⟩ (.int .i64 u.h.last)) :=
    ((Keep2.set_a _ _ _).trans (Keep2.set_a _ _ _)).trans (Keep2.set_a _ _ _)
  refine ⟨k.frm.keep q (.tail _ (.tail _ (.tail _ (.head _)))) (.head _), ?_, ?_, ?_, k.ne⟩
  · exact (q'.block _ (Array.getElem?_eq_some_iff.1 k.bh).1 (by omega) (by omega)).trans k.bh
  · exact blk_set (blk_set (blk_set k.bg 0 _) 1 _) 2 _
  · exact k.ca.keep q' (Ne.symm k.ne.2.2.1) (Ne.symm k.ne.2.2.1) (Ne.symm k.ne.2.2.2) (Ne.symm k.ne.2.2.2)
theorem SS.wp_set_h {P : Program} {c : Code} {Q : Exit → Act → World → Prop} {a : Act} (k : SS w0 Ax cx n sz x y gc ge l hits misses W) (u : Ha) {g : Nat} {cs : Array Value} {t : TypeId} (hg : W.heap[g]? = some (.cells cs t (0, 0))) (hne : g ≠ w0.heap.size)
    (h : ∀ W5, SS w0 Ax cx n sz u y gc ge l hits misses W5 → W5.heap[g]? = some (.cells cs t (0, 0)) → c.wp P Q a W5) :
    c.wp P Q a (((W.setCell ⟨w0.heap.size, 0, none⟩ (.slice u.A u.h.objs.length u.cp)).setCell ⟨w0.heap.size, 1, none⟩ (.int .i64 u.h.cap)).setCell ⟨w0.heap.size, 2, none⟩ (.int .i64 u.h.last)) :=
  h _ (k.set_h u) (blk_far (blk_far (blk_far hg hne _) hne _) hne _)
theorem SS.wp_set_g {P : Program} {c : Code} {Q : Exit → Act → World → Prop} {a : Act} (k : SS w0 Ax cx n sz x y gc ge l hits misses W) (u : Ha)
    (h : ∀ W5, SS w0 Ax cx n sz x u gc ge l hits misses W5 → c.wp P Q a W5) :
    c.wp P Q a (((W.setCell ⟨w0.heap.size + 1, 0, none⟩ (.slice u.A u.h.objs.length u.cp)).setCell ⟨w0.heap.size + 1, 1, none⟩ (.int .i64 u.h.cap)).setCell ⟨w0.heap.size + 1, 2, none⟩ (.int .i64 u.h.last)) :=
  h _ (k.set_g u)
theorem SS.of_S1 (k : S1 w0 [(w0.heap.size, hObj x.A x.cp x.h), (w0.heap.size + 1, hObj y.A y.cp y.h), (w0.heap.size + 2, aObj Ax cx n sz)] gc ge l hits misses W) : SS w0 Ax cx n sz x y gc ge l hits misses W := by
  have b0 := k.frm.bx _ (.head _)
  have b1 := k.frm.bx _ (.tail _ (.head _))
  have b2 := k.frm.bx _ (.tail _ (.tail _ (.head _)))
  have n0 : w0.heap.size ≠ gc ∧ w0.heap.size ≠ ge := ⟨fun e => b0.2 (e ▸ .head _), fun e => b0.2 (e ▸ .tail _ (.head _))⟩
  have n1 : w0.heap.size + 1 ≠ gc ∧ w0.heap.size + 1 ≠ ge := ⟨fun e => b1.2 (e ▸ .head _), fun e => b1.2 (e ▸ .tail _ (.head _))⟩
  have n2 : w0.heap.size + 2 ≠ gc ∧ w0.heap.size + 2 ≠ ge := ⟨fun e => b2.2 (e ▸ .head _), fun e => b2.2 (e ▸ .tail _ (.head _))⟩
  have lc := k.frm.lo gc (.head _)
  have le := k.frm.lo ge (.tail _ (.head _))
  refine ⟨⟨k.frm.below, ?_, ?_⟩, b0.1, b1.1, k.ca, n0.1, n0.2, n1.1, n1.2⟩
  · intro m hm
    simp only [List.mem_cons, List.not_mem_nil, or_false] at hm
    omega
  · intro b hb
    simp only [List.mem_cons, List.not_mem_nil, or_false] at hb
    subst hb
    refine ⟨b2.1, fun hm => ?_⟩
    simp only [List.mem_cons, List.not_mem_nil, or_false] at hm
    omega
theorem ss_Find (c s : Int) (hx : x.Ok w0) (hn : 0 < l.length) (hm : l.length ≤ 64) (k : SS w0 Ax cx n sz x y gc ge l hits misses W) (hh : 0 ≤ hits ∧ hits ≤ 1000000) (hh' : 0 ≤ misses ∧ misses ≤ 1000000) :
    Calls Try.prog 25 #[.pointer (some ⟨gc, 0, none⟩), .agg #[.slice x.A x.h.objs.length x.cp, .int .i64 x.h.cap, .int .i64 x.h.last], .int .i64 c, .int .i64 s] W fun e W1 =>
      e = .returned (.tuple #[.int .i64 (resF x.h c s l).1, .int .i64 (resF x.h c s l).2.1, .int .i64 (resF x.h c s l).2.2]) ∧ SS w0 Ax cx n sz x y gc ge (entF x.h c s l) (hitF c s l hits) (misF c s l misses) W1 ∧ Keep2 gc ge W W1 :=
  (ca_Find W x.A x.cp x.h c s hx.bits hx.le (k.frm.rows hx.row (.head _) (.tail _ (.head _))) hn hm k.ca hh hh').mono fun e W1 ⟨h1, h2, h3⟩ => ⟨h1, k.keep h2 h3, h3⟩
theorem ss_Flush (hn : 0 < l.length) (k : SS w0 Ax cx n sz x y gc ge l hits misses W) :
    Calls Try.prog 23 #[.pointer (some ⟨gc, 0, none⟩)] W fun e W1 => e = .returned (.tuple #[]) ∧ SS w0 Ax cx n sz x y gc ge (List.replicate l.length eZ) hits misses W1 :=
  (ca_Flush W hn k.ca).mono fun e W1 ⟨h1, h2, h3⟩ => ⟨h1, k.keep h2 h3⟩
theorem ss_R9 (c s : Int) (hx : x.Ok w0) (k : SS w0 Ax cx n sz x y gc ge l hits misses W) :
    Calls Try.prog 28 #[.agg #[.slice x.A x.h.objs.length x.cp, .int .i64 x.h.cap, .int .i64 x.h.last], .int .i64 c, .int .i64 s] W fun e W1 =>
      e = .returned (.tuple #[.int .i64 (findI x.h c s).1, .int .i64 (findI x.h c s).2.1, .int .i64 (findI x.h c s).2.2]) ∧ SS w0 Ax cx n sz x y gc ge l hits misses W1 :=
  (r9_Find x.A x.cp x.h c s W hx.le (k.frm.row hx.row)).mono fun e W1 ⟨h1, h2⟩ => ⟨h1, k.later h2⟩
end
end Go.Proofs.Ytgdobomofdenfaa.Lk
