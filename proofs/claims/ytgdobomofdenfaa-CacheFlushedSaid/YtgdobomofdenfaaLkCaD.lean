/- A cache's Find. -/
import Derived.Test.YtgdobomofdenfaaLkCaC
namespace Go.Proofs.Ytgdobomofdenfaa.Lk
open Go.RowKit Go.Proofs.YtgdobomofdenfaaW.PrintWords Go.Shelf
set_option linter.unusedVariables false
set_option linter.unusedSimpArgs false

/-- A heap that is read, whatever becomes of a cache's two blocks; and its box. -/
structure HcAt (gc ge : Nat) (A : Option Addr) (cp g : Nat) (h : Hp) (W : World) : Prop where
  rows : ∀ W', Keep2 gc ge W W' → kOb.C W' A h.objs.length h.objs
  blk : W.heap[g]? = some (.cells #[.slice A h.objs.length cp, .int .i64 h.cap, .int .i64 h.last] 24 (0, 0))
  ne : g ≠ gc ∧ g ≠ ge
section
variable {gc ge : Nat} {A : Option Addr} {cp g : Nat} {h : Hp} {W W1 : World}
theorem HcAt.row (k : HcAt gc ge A cp g h W) : kOb.C W A h.objs.length h.objs := k.rows W (Keep2.refl _ _ _)
theorem HcAt.c0 (k : HcAt gc ge A cp g h W) : W.cell? ⟨g, 0, none⟩ = some (.slice A h.objs.length cp) := cellof k.blk 0
theorem HcAt.c1 (k : HcAt gc ge A cp g h W) : W.cell? ⟨g, 1, none⟩ = some (.int .i64 h.cap) := cellof k.blk 1
theorem HcAt.c2 (k : HcAt gc ge A cp g h W) : W.cell? ⟨g, 2, none⟩ = some (.int .i64 h.last) := cellof k.blk 2
theorem HcAt.next (k : HcAt gc ge A cp g h W) (hb : Below W.heap.size W W1) : HcAt gc ge A cp g h W1 :=
  ⟨fun W' q => k.rows W' ((Keep2.of_below hb).trans q), (hb.block g (Array.getElem?_eq_some_iff.1 k.blk).1).trans k.blk, k.ne⟩
theorem HcAt.far (k : HcAt gc ge A cp g h W) (i : Nat) (u : Value) : HcAt gc ge A cp g h (W.setCell ⟨gc, i, none⟩ u) :=
  ⟨fun W' q => k.rows W' ((Keep2.set_a W i u).trans q), blk_far k.blk k.ne.1 u, k.ne⟩
theorem HcAt.later (hr : ∀ W', Keep2 gc ge W W' → kOb.C W' A h.objs.length h.objs) (h1 : gc < W.heap.size) (h2 : ge < W.heap.size) : HcAt gc ge A cp W.heap.size h (W.alloc (.cells #[.slice A h.objs.length cp, .int .i64 h.cap, .int .i64 h.last] 24)) := by
  obtain ⟨k1, k2, k3⟩ := box1 W (.cells #[.slice A h.objs.length cp, .int .i64 h.cap, .int .i64 h.last] 24)
  exact ⟨fun W' q => hr W' ((Keep2.of_below k1).trans q), k2, by omega, by omega⟩
end

set_option maxRecDepth 100000 in
set_option maxHeartbeats 4000000 in
theorem ca_Find_hit {gc ge : Nat} {l : List En} {hits misses : Int} (w : World) (A : Option Addr) (cp : Nat) (h : Hp) (c s m a : Int) (hl : h.objs.length ≤ cp) (hn : 0 < l.length) (hm : l.length ≤ 64) (k : CaAt 73 81 gc ge l hits misses w)
    (hh : 0 ≤ hits ∧ hits ≤ 1000000) (hx : l.getD (placeI l.length c s).toNat eZ = ⟨c, s, m, a, true⟩) :
    Calls Try.prog 25 #[.pointer (some ⟨gc, 0, none⟩), .agg #[.slice A h.objs.length cp, .int .i64 h.cap, .int .i64 h.last], .int .i64 c, .int .i64 s] w fun e w' =>
      e = .returned (.tuple #[.int .i64 m, .int .i64 a, .int .i64 0]) ∧ CaAt 73 81 gc ge l (hits + 1) misses w' ∧ Keep2 gc ge w w' := by
  have hu73 := Try.underlying73
  have hu77 := Try.underlying77
  have hu81 := Try.underlying81
  have hB := Lib.hid (box2 w (.cells #[.slice A h.objs.length cp, .int .i64 h.cap, .int .i64 h.last] 24) (.cells #[.int .i64 c, .int .i64 s] 77))
  have K := Lib.hid (k.next hB.out.1)
  have hpb := place_bd l.length c s hn
  obtain ⟨p, hp⟩ : ∃ p, p = (placeI l.length c s).toNat := ⟨_, rfl⟩
  have hpl : p < l.length := by omega
  have HP := Lib.hid hp
  rw [← hp] at hx
  have HX := Lib.hid hx
  clear k hx hp hpb
  go_enter Try.func25, Try.ntmps25
  go_wp2_with (go_at_call 42; refine (ca_place c s _ hn hm K.out).mono ?_; rintro e w2 ⟨he, hb⟩; rw [← HP.out] at he; subst he; have HB2 := Lib.hid hb; clear hb)
  have K2 := Lib.hid (K.out.next HB2.out)
  have kb : w2.heap[w.heap.size + 1]? = some (.cells #[.int .i64 c, .int .i64 s] 77 (0, 0)) := (HB2.out.block _ (by have := hB.out.2.2.2; omega)).trans hB.out.2.2.1
  have KB := Lib.hid kb
  clear kb
  have en := fun j hj => (K2.out.en hpl j hj)
  rw [HX.out] at en
  have t0 : w2.cell? ⟨ge, p * 5, none⟩ = some (.int .i64 c) := en 0 (by omega)
  have t1 : w2.cell? ⟨ge, p * 5 + 1, none⟩ = some (.int .i64 s) := en 1 (by omega)
  have t2 : w2.cell? ⟨ge, p * 5 + 2, none⟩ = some (.int .i64 m) := en 2 (by omega)
  have t3 : w2.cell? ⟨ge, p * 5 + 3, none⟩ = some (.int .i64 a) := en 3 (by omega)
  have t4 : w2.cell? ⟨ge, p * 5 + 4, none⟩ = some (.bool true) := en 4 (by omega)
  have T2 := Lib.hid t2
  have T3 := Lib.hid t3
  clear en
  have x0 := fun x : Ext w2 => x.cell t0
  have x1 := fun x : Ext w2 => x.cell t1
  have x4 := fun x : Ext w2 => x.cell t4
  have x5 := fun x : Ext w2 => x.cell (cellof KB.out 0)
  have x6 := fun x : Ext w2 => x.cell (cellof KB.out 1)
  clear t0 t1 t2 t3 t4
  refine wp_region_ext (by kernel_rfl) (by kernel_rfl) ?_
  repeat (go_big_quiet_step (fail))
  refine wpQuiet_nil ?_
  rintro _ ⟨x, rfl⟩
  clear x0 x1 x4 x5 x6
  have HBW := Lib.hid (below_up (below_up hB.out.1 hB.out.1.size HB2.out) (Nat.le_trans hB.out.1.size HB2.out.size) x.below)
  have K3 := Lib.hid (K2.out.next x.below)
  have b1 := K3.out.b1
  have f1 := blk_frozen K3.out.box 1
  have hw := w64_in (x := hits + 1) (by omega)
  have K4 := Lib.hid (K3.out.hit (hits + 1))
  have en := fun j hj => (K4.out.en hpl j hj)
  rw [HX.out] at en
  have t2 : (x.val.setCell ⟨gc, 1, none⟩ (.int .i64 (hits + 1))).cell? ⟨ge, p * 5 + 2, none⟩ = some (.int .i64 m) := en 2 (by omega)
  have t3 : (x.val.setCell ⟨gc, 1, none⟩ (.int .i64 (hits + 1))).cell? ⟨ge, p * 5 + 3, none⟩ = some (.int .i64 a) := en 3 (by omega)
  clear en
  go_wp2
  have y2 := fun y : Ext (x.val.setCell ⟨gc, 1, none⟩ (.int .i64 (hits + 1))) => y.cell t2
  have y3 := fun y : Ext (x.val.setCell ⟨gc, 1, none⟩ (.int .i64 (hits + 1))) => y.cell t3
  refine wp_region_ext (by kernel_rfl) (by kernel_rfl) ?_
  repeat (go_big_quiet_step (fail))
  refine wpQuiet_nil ?_
  rintro _ ⟨y, rfl⟩
  clear y2 y3 t2 t3 b1 f1
  go_wp2
  go_ret3
  exact ⟨rfl, K4.out.next y.below, ((Keep2.of_below HBW.out).trans (Keep2.set_a _ _ _)).trans (Keep2.of_below y.below)⟩
end Go.Proofs.Ytgdobomofdenfaa.Lk
