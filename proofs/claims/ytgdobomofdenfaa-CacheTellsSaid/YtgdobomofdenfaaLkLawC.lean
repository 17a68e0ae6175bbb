/- The state of a statement on two caches. -/
import Derived.Test.YtgdobomofdenfaaLkLawB
namespace Go.Proofs.Ytgdobomofdenfaa.Lk
open Go.RowKit Go.Proofs.YtgdobomofdenfaaW.PrintWords Go.Shelf
set_option linter.unusedVariables false
set_option linter.unusedSimpArgs false

theorem hit_bd (c s : Int) (l : List En) {n m : Int} (h1 : 0 ≤ n) (h2 : 0 ≤ m) : 0 ≤ hitF c s l n ∧ 0 ≤ misF c s l m ∧ hitF c s l n + misF c s l m ≤ n + m + 1 := by
  rcases hit_one c s l n m with ⟨x1, x2, _⟩ | ⟨x1, x2, _⟩ <;> omega
theorem Frm.sub {w0 W : World} {ws vs : List Nat} {bx : List (Nat × Obj)} (k : Frm w0 ws bx W) (h : ∀ n ∈ vs, n ∈ ws) : Frm w0 vs bx W :=
  ⟨k.below, fun n hn => k.lo n (h n hn), fun b hb => ⟨(k.bx b hb).1, fun hm => (k.bx b hb).2 (h _ hm)⟩⟩
structure S2 (tr tq : TypeId) (w0 : World) (bx : List (Nat × Obj)) (gc ge gr gq : Nat) (l : List En) (hits misses : Int) (l' : List En) (hits' misses' : Int) (W : World) : Prop where
  frm : Frm w0 [gc, ge, gr, gq] bx W
  ca : CaAt 73 81 gc ge l hits misses W
  ra : CaAt tr tq gr gq l' hits' misses' W
  nd : gc ≠ gr ∧ gc ≠ gq ∧ ge ≠ gr ∧ ge ≠ gq
section
variable {tr tq : TypeId} {w0 : World} {bx : List (Nat × Obj)} {gc ge gr gq : Nat} {l l' l1 : List En} {hits misses hits' misses' h1 m1 : Int} {W W1 W2 : World}
theorem S2.later (k : S2 tr tq w0 bx gc ge gr gq l hits misses l' hits' misses' W) (hb : Below W.heap.size W W1) : S2 tr tq w0 bx gc ge gr gq l hits misses l' hits' misses' W1 := ⟨k.frm.later hb, k.ca.next hb, k.ra.next hb, k.nd⟩
theorem S2.keep1 (k : S2 tr tq w0 bx gc ge gr gq l hits misses l' hits' misses' W) (c : CaAt 73 81 gc ge l1 h1 m1 W1) (q : Keep2 gc ge W W1) : S2 tr tq w0 bx gc ge gr gq l1 h1 m1 l' hits' misses' W1 :=
  ⟨k.frm.keep q (.head _) (.tail _ (.head _)), c, k.ra.keep q (Ne.symm k.nd.1) (Ne.symm k.nd.2.2.1) (Ne.symm k.nd.2.1) (Ne.symm k.nd.2.2.2), k.nd⟩
theorem S2.keep2 (k : S2 tr tq w0 bx gc ge gr gq l hits misses l' hits' misses' W) (c : CaAt tr tq gr gq l1 h1 m1 W1) (q : Keep2 gr gq W W1) : S2 tr tq w0 bx gc ge gr gq l hits misses l1 h1 m1 W1 :=
  ⟨k.frm.keep q (.tail _ (.tail _ (.head _))) (.tail _ (.tail _ (.tail _ (.head _)))), k.ca.keep q k.nd.1 k.nd.2.1 k.nd.2.2.1 k.nd.2.2.2, c, k.nd⟩
theorem S2.rows1 {A : Option Addr} {n : Nat} {x : List Ob} (k : S2 tr tq w0 bx gc ge gr gq l hits misses l' hits' misses' W) (hr : kOb.C w0 A n x) : ∀ W', Keep2 gc ge W W' → kOb.C W' A n x := k.frm.rows hr (.head _) (.tail _ (.head _))
theorem S2.rows2 {A : Option Addr} {n : Nat} {x : List Ob} (k : S2 tr tq w0 bx gc ge gr gq l hits misses l' hits' misses' W) (hr : kOb.C w0 A n x) : ∀ W', Keep2 gr gq W W' → kOb.C W' A n x := k.frm.rows hr (.tail _ (.tail _ (.head _))) (.tail _ (.tail _ (.tail _ (.head _))))
theorem s2_mk_a (F : Frm w0 [] bx W) (b1 : Below W.heap.size W W1) (c1 : CaAt 73 81 (W.heap.size + 1) W.heap.size l hits misses W1) (b2 : Below W1.heap.size W1 W2) (c2 : CaAt tr tq (W1.heap.size + 1) W1.heap.size l' hits' misses' W2) :
    S2 tr tq w0 bx (W.heap.size + 1) W.heap.size (W1.heap.size + 1) W1.heap.size l hits misses l' hits' misses' W2 := by
  have h1 := c1.in_
  have k := (F.more [W.heap.size + 1, W.heap.size] (by simp) b1).more [W1.heap.size + 1, W1.heap.size] (by simp) b2
  exact ⟨k.sub (by simp), c1.next b2, c2, by omega⟩
theorem s2_mk_b (F : Frm w0 [] bx W) (b1 : Below W.heap.size W W1) (c1 : CaAt tr tq (W.heap.size + 1) W.heap.size l' hits' misses' W1) (b2 : Below W1.heap.size W1 W2) (c2 : CaAt 73 81 (W1.heap.size + 1) W1.heap.size l hits misses W2) :
    S2 tr tq w0 bx (W1.heap.size + 1) W1.heap.size (W.heap.size + 1) W.heap.size l hits misses l' hits' misses' W2 := by
  have h1 := c1.in_
  have k := (F.more [W.heap.size + 1, W.heap.size] (by simp) b1).more [W1.heap.size + 1, W1.heap.size] (by simp) b2
  exact ⟨k.sub (by simp), c2, c1.next b2, by omega⟩
theorem s2_Find1 (c s : Int) (A : Option Addr) (cp : Nat) (h : Hp) (hbits : bitsOk h.objs) (hl : h.objs.length ≤ cp) (hr : kOb.C w0 A h.objs.length h.objs) (hn : 0 < l.length) (hm : l.length ≤ 64) (k : S2 tr tq w0 bx gc ge gr gq l hits misses l' hits' misses' W) (hh : 0 ≤ hits ∧ hits ≤ 1000000) (hh' : 0 ≤ misses ∧ misses ≤ 1000000) :
    Calls Try.prog 25 #[.pointer (some ⟨gc, 0, none⟩), .agg #[.slice A h.objs.length cp, .int .i64 h.cap, .int .i64 h.last], .int .i64 c, .int .i64 s] W fun e W1 =>
      e = .returned (.tuple #[.int .i64 (resF h c s l).1, .int .i64 (resF h c s l).2.1, .int .i64 (resF h c s l).2.2]) ∧ S2 tr tq w0 bx gc ge gr gq (entF h c s l) (hitF c s l hits) (misF c s l misses) l' hits' misses' W1 ∧ Keep2 gc ge W W1 :=
  (ca_Find W A cp h c s hbits hl (k.rows1 hr) hn hm k.ca hh hh').mono fun e W1 ⟨h1, h2, h3⟩ => ⟨h1, k.keep1 h2 h3, h3⟩
theorem s2_Hits1 (k : S2 tr tq w0 bx gc ge gr gq l hits misses l' hits' misses' W) :
    Calls Try.prog 27 #[.pointer (some ⟨gc, 0, none⟩)] W fun e W1 => e = .returned (.tuple #[.int .i64 hits, .int .i64 misses]) ∧ S2 tr tq w0 bx gc ge gr gq l hits misses l' hits' misses' W1 :=
  (ca_Hits W k.ca).mono fun e W1 ⟨h1, h2⟩ => ⟨h1, k.later h2⟩
theorem s2_Flush1 (hn : 0 < l.length) (k : S2 tr tq w0 bx gc ge gr gq l hits misses l' hits' misses' W) :
    Calls Try.prog 23 #[.pointer (some ⟨gc, 0, none⟩)] W fun e W1 => e = .returned (.tuple #[]) ∧ S2 tr tq w0 bx gc ge gr gq (List.replicate l.length eZ) hits misses l' hits' misses' W1 :=
  (ca_Flush W hn k.ca).mono fun e W1 ⟨h1, h2, h3⟩ => ⟨h1, k.keep1 h2 h3⟩
end
section
variable {w0 : World} {bx : List (Nat × Obj)} {gc ge gr gq : Nat} {l l' : List En} {hits misses hits' misses' : Int} {W : World}
theorem s2_Find2 (c s : Int) (A : Option Addr) (cp : Nat) (h : Hp) (hbits : bitsOk h.objs) (hl : h.objs.length ≤ cp) (hr : kOb.C w0 A h.objs.length h.objs) (hn : 0 < l'.length) (hm : l'.length ≤ 64) (k : S2 73 81 w0 bx gc ge gr gq l hits misses l' hits' misses' W) (hh : 0 ≤ hits' ∧ hits' ≤ 1000000) (hh' : 0 ≤ misses' ∧ misses' ≤ 1000000) :
    Calls Try.prog 25 #[.pointer (some ⟨gr, 0, none⟩), .agg #[.slice A h.objs.length cp, .int .i64 h.cap, .int .i64 h.last], .int .i64 c, .int .i64 s] W fun e W1 =>
      e = .returned (.tuple #[.int .i64 (resF h c s l').1, .int .i64 (resF h c s l').2.1, .int .i64 (resF h c s l').2.2]) ∧ S2 73 81 w0 bx gc ge gr gq l hits misses (entF h c s l') (hitF c s l' hits') (misF c s l' misses') W1 ∧ Keep2 gr gq W W1 :=
  (ca_Find W A cp h c s hbits hl (k.rows2 hr) hn hm k.ra hh hh').mono fun e W1 ⟨h1, h2, h3⟩ => ⟨h1, k.keep2 h2 h3, h3⟩
theorem s2_FindR (c s : Int) (A : Option Addr) (cp : Nat) (h : Hp) (hl : h.objs.length ≤ cp) (hr : kOb.C w0 A h.objs.length h.objs) (hn : 0 < l'.length) (hm : l'.length ≤ 64) (k : S2 53 75 w0 bx gc ge gr gq l hits misses l' hits' misses' W) (hh : 0 ≤ hits' ∧ hits' ≤ 1000000) (hh' : 0 ≤ misses' ∧ misses' ≤ 1000000) :
    Calls Try.prog 26 #[.pointer (some ⟨gr, 0, none⟩), .agg #[.slice A h.objs.length cp, .int .i64 h.cap, .int .i64 h.last], .int .i64 c, .int .i64 s] W fun e W1 =>
      e = .returned (.tuple #[.int .i64 (resF h c s l').1, .int .i64 (resF h c s l').2.1, .int .i64 (resF h c s l').2.2]) ∧ S2 53 75 w0 bx gc ge gr gq l hits misses (entF h c s l') (hitF c s l' hits') (misF c s l' misses') W1 ∧ Keep2 gr gq W W1 :=
  (ra_Find W A cp h c s hl (k.rows2 hr) hn hm k.ra hh hh').mono fun e W1 ⟨h1, h2, h3⟩ => ⟨h1, k.keep2 h2 h3, h3⟩
theorem s2_FlushR (hm : l'.length ≤ 64) (k : S2 53 75 w0 bx gc ge gr gq l hits misses l' hits' misses' W) :
    Calls Try.prog 24 #[.pointer (some ⟨gr, 0, none⟩)] W fun e W1 => e = .returned (.tuple #[]) ∧ S2 53 75 w0 bx gc ge gr gq l hits misses (List.replicate l'.length eZ) hits' misses' W1 :=
  (ra_Flush W hm k.ra).mono fun e W1 ⟨h1, h2, h3⟩ => ⟨h1, k.keep2 h2 h3⟩
end
end Go.Proofs.Ytgdobomofdenfaa.Lk
