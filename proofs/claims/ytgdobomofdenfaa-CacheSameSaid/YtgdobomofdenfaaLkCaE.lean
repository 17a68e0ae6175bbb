/- A cache's Find where it is no hit. -/
import Derived.Test.YtgdobomofdenfaaLkCaD
namespace Go.Proofs.Ytgdobomofdenfaa.Lk
open Go.RowKit Go.Proofs.YtgdobomofdenfaaW.PrintWords Go.Shelf
set_option linter.unusedVariables false
set_option linter.unusedSimpArgs false

set_option maxRecDepth 100000 in
set_option maxHeartbeats 4000000 in
theorem ca_miss_0a {gc ge : Nat} {l : List En} {hits misses : Int} (w : World) (A : Option Addr) (cp : Nat) (h : Hp) (c s xc xs xm xa : Int) (xf : Bool) (hbits : bitsOk h.objs) (hl : h.objs.length ≤ cp) (hr : ∀ W', Keep2 gc ge w W' → kOb.C W' A h.objs.length h.objs)
    (hn : 0 < l.length) (hm : l.length ≤ 64) (k : CaAt 73 81 gc ge l hits misses w) (hh : 0 ≤ misses ∧ misses ≤ 1000000) (hx : l.getD (placeI l.length c s).toNat eZ = ⟨xc, xs, xm, xa, xf⟩) (hxf : xf = false) (m a : Int) (hf : findI h c s = (m, a, 0)) :
    Calls Try.prog 25 #[.pointer (some ⟨gc, 0, none⟩), .agg #[.slice A h.objs.length cp, .int .i64 h.cap, .int .i64 h.last], .int .i64 c, .int .i64 s] w fun e w' =>
      e = .returned (.tuple #[.int .i64 m, .int .i64 a, .int .i64 0]) ∧ CaAt 73 81 gc ge (l.set (placeI l.length c s).toNat ⟨c, s, m, a, true⟩) hits (misses + 1) w' ∧ Keep2 gc ge w w' := by
  subst hxf
  have hu24 := Try.underlying24
  have hu73 := Try.underlying73
  have hu77 := Try.underlying77
  have hu81 := Try.underlying81
  have hB := Lib.hid (box2 w (.cells #[.slice A h.objs.length cp, .int .i64 h.cap, .int .i64 h.last] 24) (.cells #[.int .i64 c, .int .i64 s] 77))
  have K := Lib.hid (k.next hB.out.1)
  have HT := Lib.hid ((HcAt.later (cp := cp) hr k.in_.1 k.in_.2).next (box1 (w.alloc (.cells #[.slice A h.objs.length cp, .int .i64 h.cap, .int .i64 h.last] 24)) (.cells #[.int .i64 c, .int .i64 s] 77)).1)
  have hgl : gc < w.heap.size := k.in_.1
  have hgw : w.heap.size ≠ gc := Nat.ne_of_gt hgl
  have HF := Lib.hid hf
  have hpb := place_bd l.length c s hn
  obtain ⟨p, hp⟩ : ∃ p, p = (placeI l.length c s).toNat := ⟨_, rfl⟩
  have hpl : p < l.length := by omega
  have HP := Lib.hid hp
  rw [← hp] at hx
  have HX := Lib.hid hx
  clear k hx hp hpb hf hr
  go_enter Try.func25, Try.ntmps25
  go_wp2_with (go_at_call 42; refine (ca_place c s _ hn hm K.out).mono ?_; rintro e w2 ⟨he, hb⟩; rw [← HP.out] at he; subst he; have HB2 := Lib.hid hb; clear hb)
  have K2 := Lib.hid (K.out.next HB2.out)
  have HT2 := Lib.hid (HT.out.next HB2.out)
  have kb : w2.heap[w.heap.size + 1]? = some (.cells #[.int .i64 c, .int .i64 s] 77 (0, 0)) := (HB2.out.block _ (by have := hB.out.2.2.2; omega)).trans hB.out.2.2.1
  have KB := Lib.hid kb
  clear kb
  have en := fun j hj => (K2.out.en hpl j hj)
  rw [HX.out] at en
  have t0 : w2.cell? ⟨ge, p * 5, none⟩ = some (.int .i64 xc) := en 0 (by omega)
  have t1 : w2.cell? ⟨ge, p * 5 + 1, none⟩ = some (.int .i64 xs) := en 1 (by omega)
  have t4 : w2.cell? ⟨ge, p * 5 + 4, none⟩ = some (.bool false) := en 4 (by omega)
  clear en
  have x0 := fun x : Ext w2 => x.cell t0
  have x1 := fun x : Ext w2 => x.cell t1
  have x4 := fun x : Ext w2 => x.cell t4
  have x5 := fun x : Ext w2 => x.cell (cellof KB.out 0)
  have x6 := fun x : Ext w2 => x.cell (cellof KB.out 1)
  clear t0 t1 t4
  refine wp_region_ext (by kernel_rfl) (by kernel_rfl) ?_
  repeat (go_big_quiet_step (fail))
  refine wpQuiet_nil ?_
  rintro _ ⟨x, rfl⟩
  clear x0 x1 x4 x5 x6
  have HBW := Lib.hid (below_up (below_up hB.out.1 hB.out.1.size HB2.out) (Nat.le_trans hB.out.1.size HB2.out.size) x.below)
  have K3 := Lib.hid (K2.out.next x.below)
  have b1 := K3.out.b2
  have f1 := blk_frozen K3.out.box 2
  have hw := w64_in (x := misses + 1) (by omega)
  have K4 := Lib.hid (K3.out.miss (misses + 1))
  have HT3 := Lib.hid ((HT2.out.next x.below).far 2 (.int .i64 (misses + 1)))
  have KB3 := Lib.hid (blk_far (p := ⟨gc, 2, none⟩) ((x.below.block _ (Array.getElem?_eq_some_iff.1 KB.out).1).trans KB.out) (show w.heap.size + 1 ≠ gc by omega) (.int .i64 (misses + 1)))
  have d0 := HT3.out.c0
  have d1 := HT3.out.c1
  have d2 := HT3.out.c2
  go_wp2_with (go_at_call 14; refine (look_Find A cp h c s _ hbits hl HT3.out.row).mono ?_; rintro e w5 ⟨he, hb5⟩; rw [HF.out] at he; subst he; have HB5 := Lib.hid hb5; have K5 := Lib.hid (K4.out.next hb5); have HT5 := Lib.hid (HT3.out.next hb5); have kb5 := (hb5.block _ (Array.getElem?_eq_some_iff.1 KB3.out).1).trans KB3.out; have z0 := cellof kb5 0; have z1 := cellof kb5 1; have r0 := blk_frozen K5.out.ents (p * 5); have r1 := blk_frozen K5.out.ents (p * 5 + 1); have r2 := blk_frozen K5.out.ents (p * 5 + 2); have r3 := blk_frozen K5.out.ents (p * 5 + 3); have r4 := blk_frozen K5.out.ents (p * 5 + 4); have en := (fun j hj => K5.out.en hpl j hj); rw [HX.out] at en; have t0 : w5.cell? ⟨ge, p * 5, none⟩ = some (.int .i64 xc) := en 0 (by omega); have t1 : w5.cell? ⟨ge, p * 5 + 1, none⟩ = some (.int .i64 xs) := en 1 (by omega); have t2 : w5.cell? ⟨ge, p * 5 + 2, none⟩ = some (.int .i64 xm) := en 2 (by omega); have t3 : w5.cell? ⟨ge, p * 5 + 3, none⟩ = some (.int .i64 xa) := en 3 (by omega); have t4 : w5.cell? ⟨ge, p * 5 + 4, none⟩ = some (.bool false) := en 4 (by omega); clear en hb5 kb5)
  have K6 := Lib.hid (K5.out.put hpl ⟨c, s, m, a, true⟩)
  go_ret3
  exact ⟨rfl, by rw [← HP.out]; exact K6.out, ((((((((Keep2.of_below HBW.out).trans (Keep2.set_a _ _ _)).trans (Keep2.of_below HB5.out)).trans (Keep2.set_b _ _ _)).trans (Keep2.set_b _ _ _)).trans (Keep2.set_b _ _ _)).trans (Keep2.set_b _ _ _)).trans (Keep2.set_b _ _ _))⟩

set_option maxRecDepth 100000 in
set_option maxHeartbeats 4000000 in
theorem ca_miss_0b {gc ge : Nat} {l : List En} {hits misses : Int} (w : World) (A : Option Addr) (cp : Nat) (h : Hp) (c s xc xs xm xa : Int) (xf : Bool) (hbits : bitsOk h.objs) (hl : h.objs.length ≤ cp) (hr : ∀ W', Keep2 gc ge w W' → kOb.C W' A h.objs.length h.objs)
    (hn : 0 < l.length) (hm : l.length ≤ 64) (k : CaAt 73 81 gc ge l hits misses w) (hh : 0 ≤ misses ∧ misses ≤ 1000000) (hx : l.getD (placeI l.length c s).toNat eZ = ⟨xc, xs, xm, xa, xf⟩) (hxf : xf = false) (m a e' : Int) (he' : (e' == 0) = false) (hf : findI h c s = (m, a, e')) :
    Calls Try.prog 25 #[.pointer (some ⟨gc, 0, none⟩), .agg #[.slice A h.objs.length cp, .int .i64 h.cap, .int .i64 h.last], .int .i64 c, .int .i64 s] w fun e w' =>
      e = .returned (.tuple #[.int .i64 m, .int .i64 a, .int .i64 e']) ∧ CaAt 73 81 gc ge l hits (misses + 1) w' ∧ Keep2 gc ge w w' := by
  subst hxf
  have hu24 := Try.underlying24
  have hu73 := Try.underlying73
  have hu77 := Try.underlying77
  have hu81 := Try.underlying81
  have hB := Lib.hid (box2 w (.cells #[.slice A h.objs.length cp, .int .i64 h.cap, .int .i64 h.last] 24) (.cells #[.int .i64 c, .int .i64 s] 77))
  have K := Lib.hid (k.next hB.out.1)
  have HT := Lib.hid ((HcAt.later (cp := cp) hr k.in_.1 k.in_.2).next (box1 (w.alloc (.cells #[.slice A h.objs.length cp, .int .i64 h.cap, .int .i64 h.last] 24)) (.cells #[.int .i64 c, .int .i64 s] 77)).1)
  have hgl : gc < w.heap.size := k.in_.1
  have hgw : w.heap.size ≠ gc := Nat.ne_of_gt hgl
  have HF := Lib.hid hf
  have hpb := place_bd l.length c s hn
  obtain ⟨p, hp⟩ : ∃ p, p = (placeI l.length c s).toNat := ⟨_, rfl⟩
  have hpl : p < l.length := by omega
  have HP := Lib.hid hp
  rw [← hp] at hx
  have HX := Lib.hid hx
  clear k hx hp hpb hf hr
  go_enter Try.func25, Try.ntmps25
  go_wp2_with (go_at_call 42; refine (ca_place c s _ hn hm K.out).mono ?_; rintro e w2 ⟨he, hb⟩; rw [← HP.out] at he; subst he; have HB2 := Lib.hid hb; clear hb)
  have K2 := Lib.hid (K.out.next HB2.out)
  have HT2 := Lib.hid (HT.out.next HB2.out)
  have kb : w2.heap[w.heap.size + 1]? = some (.cells #[.int .i64 c, .int .i64 s] 77 (0, 0)) := (HB2.out.block _ (by have := hB.out.2.2.2; omega)).trans hB.out.2.2.1
  have KB := Lib.hid kb
  clear kb
  have en := fun j hj => (K2.out.en hpl j hj)
  rw [HX.out] at en
  have t0 : w2.cell? ⟨ge, p * 5, none⟩ = some (.int .i64 xc) := en 0 (by omega)
  have t1 : w2.cell? ⟨ge, p * 5 + 1, none⟩ = some (.int .i64 xs) := en 1 (by omega)
  have t4 : w2.cell? ⟨ge, p * 5 + 4, none⟩ = some (.bool false) := en 4 (by omega)
  clear en
  have x0 := fun x : Ext w2 => x.cell t0
  have x1 := fun x : Ext w2 => x.cell t1
  have x4 := fun x : Ext w2 => x.cell t4
  have x5 := fun x : Ext w2 => x.cell (cellof KB.out 0)
  have x6 := fun x : Ext w2 => x.cell (cellof KB.out 1)
  clear t0 t1 t4
  refine wp_region_ext (by kernel_rfl) (by kernel_rfl) ?_
  repeat (go_big_quiet_step (fail))
  refine wpQuiet_nil ?_
  rintro _ ⟨x, rfl⟩
  clear x0 x1 x4 x5 x6
  have HBW := Lib.hid (below_up (below_up hB.out.1 hB.out.1.size HB2.out) (Nat.le_trans hB.out.1.size HB2.out.size) x.below)
  have K3 := Lib.hid (K2.out.next x.below)
  have b1 := K3.out.b2
  have f1 := blk_frozen K3.out.box 2
  have hw := w64_in (x := misses + 1) (by omega)
  have K4 := Lib.hid (K3.out.miss (misses + 1))
  have HT3 := Lib.hid ((HT2.out.next x.below).far 2 (.int .i64 (misses + 1)))
  have KB3 := Lib.hid (blk_far (p := ⟨gc, 2, none⟩) ((x.below.block _ (Array.getElem?_eq_some_iff.1 KB.out).1).trans KB.out) (show w.heap.size + 1 ≠ gc by omega) (.int .i64 (misses + 1)))
  have d0 := HT3.out.c0
  have d1 := HT3.out.c1
  have d2 := HT3.out.c2
  go_wp2_with (go_at_call 14; refine (look_Find A cp h c s _ hbits hl HT3.out.row).mono ?_; rintro e w5 ⟨he, hb5⟩; rw [HF.out] at he; subst he; have HB5 := Lib.hid hb5; have K5 := Lib.hid (K4.out.next hb5); have HT5 := Lib.hid (HT3.out.next hb5); have kb5 := (hb5.block _ (Array.getElem?_eq_some_iff.1 KB3.out).1).trans KB3.out; have z0 := cellof kb5 0; have z1 := cellof kb5 1; have r0 := blk_frozen K5.out.ents (p * 5); have r1 := blk_frozen K5.out.ents (p * 5 + 1); have r2 := blk_frozen K5.out.ents (p * 5 + 2); have r3 := blk_frozen K5.out.ents (p * 5 + 3); have r4 := blk_frozen K5.out.ents (p * 5 + 4); have en := (fun j hj => K5.out.en hpl j hj); rw [HX.out] at en; have t0 : w5.cell? ⟨ge, p * 5, none⟩ = some (.int .i64 xc) := en 0 (by omega); have t1 : w5.cell? ⟨ge, p * 5 + 1, none⟩ = some (.int .i64 xs) := en 1 (by omega); have t2 : w5.cell? ⟨ge, p * 5 + 2, none⟩ = some (.int .i64 xm) := en 2 (by omega); have t3 : w5.cell? ⟨ge, p * 5 + 3, none⟩ = some (.int .i64 xa) := en 3 (by omega); have t4 : w5.cell? ⟨ge, p * 5 + 4, none⟩ = some (.bool false) := en 4 (by omega); clear en hb5 kb5)
  go_ret3
  exact ⟨rfl, K5.out, ((Keep2.of_below HBW.out).trans (Keep2.set_a _ _ _)).trans (Keep2.of_below HB5.out)⟩

set_option maxRecDepth 100000 in
set_option maxHeartbeats 4000000 in
theorem ca_miss_1a {gc ge : Nat} {l : List En} {hits misses : Int} (w : World) (A : Option Addr) (cp : Nat) (h : Hp) (c s xc xs xm xa : Int) (xf : Bool) (hbits : bitsOk h.objs) (hl : h.objs.length ≤ cp) (hr : ∀ W', Keep2 gc ge w W' → kOb.C W' A h.objs.length h.objs)
    (hn : 0 < l.length) (hm : l.length ≤ 64) (k : CaAt 73 81 gc ge l hits misses w) (hh : 0 ≤ misses ∧ misses ≤ 1000000) (hx : l.getD (placeI l.length c s).toNat eZ = ⟨xc, xs, xm, xa, xf⟩) (hxf : xf = true) (hxc : (xc == c) = false) (m a : Int) (hf : findI h c s = (m, a, 0)) :
    Calls Try.prog 25 #[.pointer (some ⟨gc, 0, none⟩), .agg #[.slice A h.objs.length cp, .int .i64 h.cap, .int .i64 h.last], .int .i64 c, .int .i64 s] w fun e w' =>
      e = .returned (.tuple #[.int .i64 m, .int .i64 a, .int .i64 0]) ∧ CaAt 73 81 gc ge (l.set (placeI l.length c s).toNat ⟨c, s, m, a, true⟩) hits (misses + 1) w' ∧ Keep2 gc ge w w' := by
  subst hxf
  have hu24 := Try.underlying24
  have hu73 := Try.underlying73
  have hu77 := Try.underlying77
  have hu81 := Try.underlying81
  have hB := Lib.hid (box2 w (.cells #[.slice A h.objs.length cp, .int .i64 h.cap, .int .i64 h.last] 24) (.cells #[.int .i64 c, .int .i64 s] 77))
  have K := Lib.hid (k.next hB.out.1)
  have HT := Lib.hid ((HcAt.later (cp := cp) hr k.in_.1 k.in_.2).next (box1 (w.alloc (.cells #[.slice A h.objs.length cp, .int .i64 h.cap, .int .i64 h.last] 24)) (.cells #[.int .i64 c, .int .i64 s] 77)).1)
  have hgl : gc < w.heap.size := k.in_.1
  have hgw : w.heap.size ≠ gc := Nat.ne_of_gt hgl
  have HF := Lib.hid hf
  have hpb := place_bd l.length c s hn
  obtain ⟨p, hp⟩ : ∃ p, p = (placeI l.length c s).toNat := ⟨_, rfl⟩
  have hpl : p < l.length := by omega
  have HP := Lib.hid hp
  rw [← hp] at hx
  have HX := Lib.hid hx
  clear k hx hp hpb hf hr
  go_enter Try.func25, Try.ntmps25
  go_wp2_with (go_at_call 42; refine (ca_place c s _ hn hm K.out).mono ?_; rintro e w2 ⟨he, hb⟩; rw [← HP.out] at he; subst he; have HB2 := Lib.hid hb; clear hb)
  have K2 := Lib.hid (K.out.next HB2.out)
  have HT2 := Lib.hid (HT.out.next HB2.out)
  have kb : w2.heap[w.heap.size + 1]? = some (.cells #[.int .i64 c, .int .i64 s] 77 (0, 0)) := (HB2.out.block _ (by have := hB.out.2.2.2; omega)).trans hB.out.2.2.1
  have KB := Lib.hid kb
  clear kb
  have en := fun j hj => (K2.out.en hpl j hj)
  rw [HX.out] at en
  have t0 : w2.cell? ⟨ge, p * 5, none⟩ = some (.int .i64 xc) := en 0 (by omega)
  have t1 : w2.cell? ⟨ge, p * 5 + 1, none⟩ = some (.int .i64 xs) := en 1 (by omega)
  have t4 : w2.cell? ⟨ge, p * 5 + 4, none⟩ = some (.bool true) := en 4 (by omega)
  clear en
  have x0 := fun x : Ext w2 => x.cell t0
  have x1 := fun x : Ext w2 => x.cell t1
  have x4 := fun x : Ext w2 => x.cell t4
  have x5 := fun x : Ext w2 => x.cell (cellof KB.out 0)
  have x6 := fun x : Ext w2 => x.cell (cellof KB.out 1)
  clear t0 t1 t4
  refine wp_region_ext (by kernel_rfl) (by kernel_rfl) ?_
  repeat (go_big_quiet_step (fail))
  refine wpQuiet_nil ?_
  rintro _ ⟨x, rfl⟩
  clear x0 x1 x4 x5 x6
  have HBW := Lib.hid (below_up (below_up hB.out.1 hB.out.1.size HB2.out) (Nat.le_trans hB.out.1.size HB2.out.size) x.below)
  have K3 := Lib.hid (K2.out.next x.below)
  have b1 := K3.out.b2
  have f1 := blk_frozen K3.out.box 2
  have hw := w64_in (x := misses + 1) (by omega)
  have K4 := Lib.hid (K3.out.miss (misses + 1))
  have HT3 := Lib.hid ((HT2.out.next x.below).far 2 (.int .i64 (misses + 1)))
  have KB3 := Lib.hid (blk_far (p := ⟨gc, 2, none⟩) ((x.below.block _ (Array.getElem?_eq_some_iff.1 KB.out).1).trans KB.out) (show w.heap.size + 1 ≠ gc by omega) (.int .i64 (misses + 1)))
  have d0 := HT3.out.c0
  have d1 := HT3.out.c1
  have d2 := HT3.out.c2
  go_wp2_with (go_at_call 14; refine (look_Find A cp h c s _ hbits hl HT3.out.row).mono ?_; rintro e w5 ⟨he, hb5⟩; rw [HF.out] at he; subst he; have HB5 := Lib.hid hb5; have K5 := Lib.hid (K4.out.next hb5); have HT5 := Lib.hid (HT3.out.next hb5); have kb5 := (hb5.block _ (Array.getElem?_eq_some_iff.1 KB3.out).1).trans KB3.out; have z0 := cellof kb5 0; have z1 := cellof kb5 1; have r0 := blk_frozen K5.out.ents (p * 5); have r1 := blk_frozen K5.out.ents (p * 5 + 1); have r2 := blk_frozen K5.out.ents (p * 5 + 2); have r3 := blk_frozen K5.out.ents (p * 5 + 3); have r4 := blk_frozen K5.out.ents (p * 5 + 4); have en := (fun j hj => K5.out.en hpl j hj); rw [HX.out] at en; have t0 : w5.cell? ⟨ge, p * 5, none⟩ = some (.int .i64 xc) := en 0 (by omega); have t1 : w5.cell? ⟨ge, p * 5 + 1, none⟩ = some (.int .i64 xs) := en 1 (by omega); have t2 : w5.cell? ⟨ge, p * 5 + 2, none⟩ = some (.int .i64 xm) := en 2 (by omega); have t3 : w5.cell? ⟨ge, p * 5 + 3, none⟩ = some (.int .i64 xa) := en 3 (by omega); have t4 : w5.cell? ⟨ge, p * 5 + 4, none⟩ = some (.bool true) := en 4 (by omega); clear en hb5 kb5)
  have K6 := Lib.hid (K5.out.put hpl ⟨c, s, m, a, true⟩)
  go_ret3
  exact ⟨rfl, by rw [← HP.out]; exact K6.out, ((((((((Keep2.of_below HBW.out).trans (Keep2.set_a _ _ _)).trans (Keep2.of_below HB5.out)).trans (Keep2.set_b _ _ _)).trans (Keep2.set_b _ _ _)).trans (Keep2.set_b _ _ _)).trans (Keep2.set_b _ _ _)).trans (Keep2.set_b _ _ _))⟩

set_option maxRecDepth 100000 in
set_option maxHeartbeats 4000000 in
theorem ca_miss_1b {gc ge : Nat} {l : List En} {hits misses : Int} (w : World) (A : Option Addr) (cp : Nat) (h : Hp) (c s xc xs xm xa : Int) (xf : Bool) (hbits : bitsOk h.objs) (hl : h.objs.length ≤ cp) (hr : ∀ W', Keep2 gc ge w W' → kOb.C W' A h.objs.length h.objs)
    (hn : 0 < l.length) (hm : l.length ≤ 64) (k : CaAt 73 81 gc ge l hits misses w) (hh : 0 ≤ misses ∧ misses ≤ 1000000) (hx : l.getD (placeI l.length c s).toNat eZ = ⟨xc, xs, xm, xa, xf⟩) (hxf : xf = true) (hxc : (xc == c) = false) (m a e' : Int) (he' : (e' == 0) = false) (hf : findI h c s = (m, a, e')) :
    Calls Try.prog 25 #[.pointer (some ⟨gc, 0, none⟩), .agg #[.slice A h.objs.length cp, .int .i64 h.cap, .int .i64 h.last], .int .i64 c, .int .i64 s] w fun e w' =>
      e = .returned (.tuple #[.int .i64 m, .int .i64 a, .int .i64 e']) ∧ CaAt 73 81 gc ge l hits (misses + 1) w' ∧ Keep2 gc ge w w' := by
  subst hxf
  have hu24 := Try.underlying24
  have hu73 := Try.underlying73
  have hu77 := Try.underlying77
  have hu81 := Try.underlying81
  have hB := Lib.hid (box2 w (.cells #[.slice A h.objs.length cp, .int .i64 h.cap, .int .i64 h.last] 24) (.cells #[.int .i64 c, .int .i64 s] 77))
  have K := Lib.hid (k.next hB.out.1)
  have HT := Lib.hid ((HcAt.later (cp := cp) hr k.in_.1 k.in_.2).next (box1 (w.alloc (.cells #[.slice A h.objs.length cp, .int .i64 h.cap, .int .i64 h.last] 24)) (.cells #[.int .i64 c, .int .i64 s] 77)).1)
  have hgl : gc < w.heap.size := k.in_.1
  have hgw : w.heap.size ≠ gc := Nat.ne_of_gt hgl
  have HF := Lib.hid hf
  have hpb := place_bd l.length c s hn
  obtain ⟨p, hp⟩ : ∃ p, p = (placeI l.length c s).toNat := ⟨_, rfl⟩
  have hpl : p < l.length := by omega
  have HP := Lib.hid hp
  rw [← hp] at hx
  have HX := Lib.hid hx
  clear k hx hp hpb hf hr
  go_enter Try.func25, Try.ntmps25
  go_wp2_with (go_at_call 42; refine (ca_place c s _ hn hm K.out).mono ?_; rintro e w2 ⟨he, hb⟩; rw [← HP.out] at he; subst he; have HB2 := Lib.hid hb; clear hb)
  have K2 := Lib.hid (K.out.next HB2.out)
  have HT2 := Lib.hid (HT.out.next HB2.out)
  have kb : w2.heap[w.heap.size + 1]? = some (.cells #[.int .i64 c, .int .i64 s] 77 (0, 0)) := (HB2.out.block _ (by have := hB.out.2.2.2; omega)).trans hB.out.2.2.1
  have KB := Lib.hid kb
  clear kb
  have en := fun j hj => (K2.out.en hpl j hj)
  rw [HX.out] at en
  have t0 : w2.cell? ⟨ge, p * 5, none⟩ = some (.int .i64 xc) := en 0 (by omega)
  have t1 : w2.cell? ⟨ge, p * 5 + 1, none⟩ = some (.int .i64 xs) := en 1 (by omega)
  have t4 : w2.cell? ⟨ge, p * 5 + 4, none⟩ = some (.bool true) := en 4 (by omega)
  clear en
  have x0 := fun x : Ext w2 => x.cell t0
  have x1 := fun x : Ext w2 => x.cell t1
  have x4 := fun x : Ext w2 => x.cell t4
  have x5 := fun x : Ext w2 => x.cell (cellof KB.out 0)
  have x6 := fun x : Ext w2 => x.cell (cellof KB.out 1)
  clear t0 t1 t4
  refine wp_region_ext (by kernel_rfl) (by kernel_rfl) ?_
  repeat (go_big_quiet_step (fail))
  refine wpQuiet_nil ?_
  rintro _ ⟨x, rfl⟩
  clear x0 x1 x4 x5 x6
  have HBW := Lib.hid (below_up (below_up hB.out.1 hB.out.1.size HB2.out) (Nat.le_trans hB.out.1.size HB2.out.size) x.below)
  have K3 := Lib.hid (K2.out.next x.below)
  have b1 := K3.out.b2
  have f1 := blk_frozen K3.out.box 2
  have hw := w64_in (x := misses + 1) (by omega)
  have K4 := Lib.hid (K3.out.miss (misses + 1))
  have HT3 := Lib.hid ((HT2.out.next x.below).far 2 (.int .i64 (misses + 1)))
  have KB3 := Lib.hid (blk_far (p := ⟨gc, 2, none⟩) ((x.below.block _ (Array.getElem?_eq_some_iff.1 KB.out).1).trans KB.out) (show w.heap.size + 1 ≠ gc by omega) (.int .i64 (misses + 1)))
  have d0 := HT3.out.c0
  have d1 := HT3.out.c1
  have d2 := HT3.out.c2
  go_wp2_with (go_at_call 14; refine (look_Find A cp h c s _ hbits hl HT3.out.row).mono ?_; rintro e w5 ⟨he, hb5⟩; rw [HF.out] at he; subst he; have HB5 := Lib.hid hb5; have K5 := Lib.hid (K4.out.next hb5); have HT5 := Lib.hid (HT3.out.next hb5); have kb5 := (hb5.block _ (Array.getElem?_eq_some_iff.1 KB3.out).1).trans KB3.out; have z0 := cellof kb5 0; have z1 := cellof kb5 1; have r0 := blk_frozen K5.out.ents (p * 5); have r1 := blk_frozen K5.out.ents (p * 5 + 1); have r2 := blk_frozen K5.out.ents (p * 5 + 2); have r3 := blk_frozen K5.out.ents (p * 5 + 3); have r4 := blk_frozen K5.out.ents (p * 5 + 4); have en := (fun j hj => K5.out.en hpl j hj); rw [HX.out] at en; have t0 : w5.cell? ⟨ge, p * 5, none⟩ = some (.int .i64 xc) := en 0 (by omega); have t1 : w5.cell? ⟨ge, p * 5 + 1, none⟩ = some (.int .i64 xs) := en 1 (by omega); have t2 : w5.cell? ⟨ge, p * 5 + 2, none⟩ = some (.int .i64 xm) := en 2 (by omega); have t3 : w5.cell? ⟨ge, p * 5 + 3, none⟩ = some (.int .i64 xa) := en 3 (by omega); have t4 : w5.cell? ⟨ge, p * 5 + 4, none⟩ = some (.bool true) := en 4 (by omega); clear en hb5 kb5)
  go_ret3
  exact ⟨rfl, K5.out, ((Keep2.of_below HBW.out).trans (Keep2.set_a _ _ _)).trans (Keep2.of_below HB5.out)⟩

set_option maxRecDepth 100000 in
set_option maxHeartbeats 4000000 in
theorem ca_miss_2a {gc ge : Nat} {l : List En} {hits misses : Int} (w : World) (A : Option Addr) (cp : Nat) (h : Hp) (c s xc xs xm xa : Int) (xf : Bool) (hbits : bitsOk h.objs) (hl : h.objs.length ≤ cp) (hr : ∀ W', Keep2 gc ge w W' → kOb.C W' A h.objs.length h.objs)
    (hn : 0 < l.length) (hm : l.length ≤ 64) (k : CaAt 73 81 gc ge l hits misses w) (hh : 0 ≤ misses ∧ misses ≤ 1000000) (hx : l.getD (placeI l.length c s).toNat eZ = ⟨xc, xs, xm, xa, xf⟩) (hxf : xf = true) (hxc : xc = c) (hxs : (xs == s) = false) (m a : Int) (hf : findI h c s = (m, a, 0)) :
    Calls Try.prog 25 #[.pointer (some ⟨gc, 0, none⟩), .agg #[.slice A h.objs.length cp, .int .i64 h.cap, .int .i64 h.last], .int .i64 c, .int .i64 s] w fun e w' =>
      e = .returned (.tuple #[.int .i64 m, .int .i64 a, .int .i64 0]) ∧ CaAt 73 81 gc ge (l.set (placeI l.length c s).toNat ⟨c, s, m, a, true⟩) hits (misses + 1) w' ∧ Keep2 gc ge w w' := by
  subst hxf
  subst hxc
  have hu24 := Try.underlying24
  have hu73 := Try.underlying73
  have hu77 := Try.underlying77
  have hu81 := Try.underlying81
  have hB := Lib.hid (box2 w (.cells #[.slice A h.objs.length cp, .int .i64 h.cap, .int .i64 h.last] 24) (.cells #[.int .i64 xc, .int .i64 s] 77))
  have K := Lib.hid (k.next hB.out.1)
  have HT := Lib.hid ((HcAt.later (cp := cp) hr k.in_.1 k.in_.2).next (box1 (w.alloc (.cells #[.slice A h.objs.length cp, .int .i64 h.cap, .int .i64 h.last] 24)) (.cells #[.int .i64 xc, .int .i64 s] 77)).1)
  have hgl : gc < w.heap.size := k.in_.1
  have hgw : w.heap.size ≠ gc := Nat.ne_of_gt hgl
  have HF := Lib.hid hf
  have hpb := place_bd l.length xc s hn
  obtain ⟨p, hp⟩ : ∃ p, p = (placeI l.length xc s).toNat := ⟨_, rfl⟩
  have hpl : p < l.length := by omega
  have HP := Lib.hid hp
  rw [← hp] at hx
  have HX := Lib.hid hx
  clear k hx hp hpb hf hr
  go_enter Try.func25, Try.ntmps25
  go_wp2_with (go_at_call 42; refine (ca_place xc s _ hn hm K.out).mono ?_; rintro e w2 ⟨he, hb⟩; rw [← HP.out] at he; subst he; have HB2 := Lib.hid hb; clear hb)
  have K2 := Lib.hid (K.out.next HB2.out)
  have HT2 := Lib.hid (HT.out.next HB2.out)
  have kb : w2.heap[w.heap.size + 1]? = some (.cells #[.int .i64 xc, .int .i64 s] 77 (0, 0)) := (HB2.out.block _ (by have := hB.out.2.2.2; omega)).trans hB.out.2.2.1
  have KB := Lib.hid kb
  clear kb
  have en := fun j hj => (K2.out.en hpl j hj)
  rw [HX.out] at en
  have t0 : w2.cell? ⟨ge, p * 5, none⟩ = some (.int .i64 xc) := en 0 (by omega)
  have t1 : w2.cell? ⟨ge, p * 5 + 1, none⟩ = some (.int .i64 xs) := en 1 (by omega)
  have t4 : w2.cell? ⟨ge, p * 5 + 4, none⟩ = some (.bool true) := en 4 (by omega)
  clear en
  have x0 := fun x : Ext w2 => x.cell t0
  have x1 := fun x : Ext w2 => x.cell t1
  have x4 := fun x : Ext w2 => x.cell t4
  have x5 := fun x : Ext w2 => x.cell (cellof KB.out 0)
  have x6 := fun x : Ext w2 => x.cell (cellof KB.out 1)
  clear t0 t1 t4
  refine wp_region_ext (by kernel_rfl) (by kernel_rfl) ?_
  repeat (go_big_quiet_step (fail))
  refine wpQuiet_nil ?_
  rintro _ ⟨x, rfl⟩
  clear x0 x1 x4 x5 x6
  have HBW := Lib.hid (below_up (below_up hB.out.1 hB.out.1.size HB2.out) (Nat.le_trans hB.out.1.size HB2.out.size) x.below)
  have K3 := Lib.hid (K2.out.next x.below)
  have b1 := K3.out.b2
  have f1 := blk_frozen K3.out.box 2
  have hw := w64_in (x := misses + 1) (by omega)
  have K4 := Lib.hid (K3.out.miss (misses + 1))
  have HT3 := Lib.hid ((HT2.out.next x.below).far 2 (.int .i64 (misses + 1)))
  have KB3 := Lib.hid (blk_far (p := ⟨gc, 2, none⟩) ((x.below.block _ (Array.getElem?_eq_some_iff.1 KB.out).1).trans KB.out) (show w.heap.size + 1 ≠ gc by omega) (.int .i64 (misses + 1)))
  have d0 := HT3.out.c0
  have d1 := HT3.out.c1
  have d2 := HT3.out.c2
  go_wp2_with (go_at_call 14; refine (look_Find A cp h xc s _ hbits hl HT3.out.row).mono ?_; rintro e w5 ⟨he, hb5⟩; rw [HF.out] at he; subst he; have HB5 := Lib.hid hb5; have K5 := Lib.hid (K4.out.next hb5); have HT5 := Lib.hid (HT3.out.next hb5); have kb5 := (hb5.block _ (Array.getElem?_eq_some_iff.1 KB3.out).1).trans KB3.out; have z0 := cellof kb5 0; have z1 := cellof kb5 1; have r0 := blk_frozen K5.out.ents (p * 5); have r1 := blk_frozen K5.out.ents (p * 5 + 1); have r2 := blk_frozen K5.out.ents (p * 5 + 2); have r3 := blk_frozen K5.out.ents (p * 5 + 3); have r4 := blk_frozen K5.out.ents (p * 5 + 4); have en := (fun j hj => K5.out.en hpl j hj); rw [HX.out] at en; have t0 : w5.cell? ⟨ge, p * 5, none⟩ = some (.int .i64 xc) := en 0 (by omega); have t1 : w5.cell? ⟨ge, p * 5 + 1, none⟩ = some (.int .i64 xs) := en 1 (by omega); have t2 : w5.cell? ⟨ge, p * 5 + 2, none⟩ = some (.int .i64 xm) := en 2 (by omega); have t3 : w5.cell? ⟨ge, p * 5 + 3, none⟩ = some (.int .i64 xa) := en 3 (by omega); have t4 : w5.cell? ⟨ge, p * 5 + 4, none⟩ = some (.bool true) := en 4 (by omega); clear en hb5 kb5)
  have K6 := Lib.hid (K5.out.put hpl ⟨xc, s, m, a, true⟩)
  go_ret3
  exact ⟨rfl, by rw [← HP.out]; exact K6.out, ((((((((Keep2.of_below HBW.out).trans (Keep2.set_a _ _ _)).trans (Keep2.of_below HB5.out)).trans (Keep2.set_b _ _ _)).trans (Keep2.set_b _ _ _)).trans (Keep2.set_b _ _ _)).trans (Keep2.set_b _ _ _)).trans (Keep2.set_b _ _ _))⟩

set_option maxRecDepth 100000 in
set_option maxHeartbeats 4000000 in
theorem ca_miss_2b {gc ge : Nat} {l : List En} {hits misses : Int} (w : World) (A : Option Addr) (cp : Nat) (h : Hp) (c s xc xs xm xa : Int) (xf : Bool) (hbits : bitsOk h.objs) (hl : h.objs.length ≤ cp) (hr : ∀ W', Keep2 gc ge w W' → kOb.C W' A h.objs.length h.objs)
    (hn : 0 < l.length) (hm : l.length ≤ 64) (k : CaAt 73 81 gc ge l hits misses w) (hh : 0 ≤ misses ∧ misses ≤ 1000000) (hx : l.getD (placeI l.length c s).toNat eZ = ⟨xc, xs, xm, xa, xf⟩) (hxf : xf = true) (hxc : xc = c) (hxs : (xs == s) = false) (m a e' : Int) (he' : (e' == 0) = false) (hf : findI h c s = (m, a, e')) :
    Calls Try.prog 25 #[.pointer (some ⟨gc, 0, none⟩), .agg #[.slice A h.objs.length cp, .int .i64 h.cap, .int .i64 h.last], .int .i64 c, .int .i64 s] w fun e w' =>
      e = .returned (.tuple #[.int .i64 m, .int .i64 a, .int .i64 e']) ∧ CaAt 73 81 gc ge l hits (misses + 1) w' ∧ Keep2 gc ge w w' := by
  subst hxf
  subst hxc
  have hu24 := Try.underlying24
  have hu73 := Try.underlying73
  have hu77 := Try.underlying77
  have hu81 := Try.underlying81
  have hB := Lib.hid (box2 w (.cells #[.slice A h.objs.length cp, .int .i64 h.cap, .int .i64 h.last] 24) (.cells #[.int .i64 xc, .int .i64 s] 77))
  have K := Lib.hid (k.next hB.out.1)
  have HT := Lib.hid ((HcAt.later (cp := cp) hr k.in_.1 k.in_.2).next (box1 (w.alloc (.cells #[.slice A h.objs.length cp, .int .i64 h.cap, .int .i64 h.last] 24)) (.cells #[.int .i64 xc, .int .i64 s] 77)).1)
  have hgl : gc < w.heap.size := k.in_.1
  have hgw : w.heap.size ≠ gc := Nat.ne_of_gt hgl
  have HF := Lib.hid hf
  have hpb := place_bd l.length xc s hn
  obtain ⟨p, hp⟩ : ∃ p, p = (placeI l.length xc s).toNat := ⟨_, rfl⟩
  have hpl : p < l.length := by omega
  have HP := Lib.hid hp
  rw [← hp] at hx
  have HX := Lib.hid hx
  clear k hx hp hpb hf hr
  go_enter Try.func25, Try.ntmps25
  go_wp2_with (go_at_call 42; refine (ca_place xc s _ hn hm K.out).mono ?_; rintro e w2 ⟨he, hb⟩; rw [← HP.out] at he; subst he; have HB2 := Lib.hid hb; clear hb)
  have K2 := Lib.hid (K.out.next HB2.out)
  have HT2 := Lib.hid (HT.out.next HB2.out)
  have kb : w2.heap[w.heap.size + 1]? = some (.cells #[.int .i64 xc, .int .i64 s] 77 (0, 0)) := (HB2.out.block _ (by have := hB.out.2.2.2; omega)).trans hB.out.2.2.1
  have KB := Lib.hid kb
  clear kb
  have en := fun j hj => (K2.out.en hpl j hj)
  rw [HX.out] at en
  have t0 : w2.cell? ⟨ge, p * 5, none⟩ = some (.int .i64 xc) := en 0 (by omega)
  have t1 : w2.cell? ⟨ge, p * 5 + 1, none⟩ = some (.int .i64 xs) := en 1 (by omega)
  have t4 : w2.cell? ⟨ge, p * 5 + 4, none⟩ = some (.bool true) := en 4 (by omega)
  clear en
  have x0 := fun x : Ext w2 => x.cell t0
  have x1 := fun x : Ext w2 => x.cell t1
  have x4 := fun x : Ext w2 => x.cell t4
  have x5 := fun x : Ext w2 => x.cell (cellof KB.out 0)
  have x6 := fun x : Ext w2 => x.cell (cellof KB.out 1)
  clear t0 t1 t4
  refine wp_region_ext (by kernel_rfl) (by kernel_rfl) ?_
  repeat (go_big_quiet_step (fail))
  refine wpQuiet_nil ?_
  rintro _ ⟨x, rfl⟩
  clear x0 x1 x4 x5 x6
  have HBW := Lib.hid (below_up (below_up hB.out.1 hB.out.1.size HB2.out) (Nat.le_trans hB.out.1.size HB2.out.size) x.below)
  have K3 := Lib.hid (K2.out.next x.below)
  have b1 := K3.out.b2
  have f1 := blk_frozen K3.out.box 2
  have hw := w64_in (x := misses + 1) (by omega)
  have K4 := Lib.hid (K3.out.miss (misses + 1))
  have HT3 := Lib.hid ((HT2.out.next x.below).far 2 (.int .i64 (misses + 1)))
  have KB3 := Lib.hid (blk_far (p := ⟨gc, 2, none⟩) ((x.below.block _ (Array.getElem?_eq_some_iff.1 KB.out).1).trans KB.out) (show w.heap.size + 1 ≠ gc by omega) (.int .i64 (misses + 1)))
  have d0 := HT3.out.c0
  have d1 := HT3.out.c1
  have d2 := HT3.out.c2
  go_wp2_with (go_at_call 14; refine (look_Find A cp h xc s _ hbits hl HT3.out.row).mono ?_; rintro e w5 ⟨he, hb5⟩; rw [HF.out] at he; subst he; have HB5 := Lib.hid hb5; have K5 := Lib.hid (K4.out.next hb5); have HT5 := Lib.hid (HT3.out.next hb5); have kb5 := (hb5.block _ (Array.getElem?_eq_some_iff.1 KB3.out).1).trans KB3.out; have z0 := cellof kb5 0; have z1 := cellof kb5 1; have r0 := blk_frozen K5.out.ents (p * 5); have r1 := blk_frozen K5.out.ents (p * 5 + 1); have r2 := blk_frozen K5.out.ents (p * 5 + 2); have r3 := blk_frozen K5.out.ents (p * 5 + 3); have r4 := blk_frozen K5.out.ents (p * 5 + 4); have en := (fun j hj => K5.out.en hpl j hj); rw [HX.out] at en; have t0 : w5.cell? ⟨ge, p * 5, none⟩ = some (.int .i64 xc) := en 0 (by omega); have t1 : w5.cell? ⟨ge, p * 5 + 1, none⟩ = some (.int .i64 xs) := en 1 (by omega); have t2 : w5.cell? ⟨ge, p * 5 + 2, none⟩ = some (.int .i64 xm) := en 2 (by omega); have t3 : w5.cell? ⟨ge, p * 5 + 3, none⟩ = some (.int .i64 xa) := en 3 (by omega); have t4 : w5.cell? ⟨ge, p * 5 + 4, none⟩ = some (.bool true) := en 4 (by omega); clear en hb5 kb5)
  go_ret3
  exact ⟨rfl, K5.out, ((Keep2.of_below HBW.out).trans (Keep2.set_a _ _ _)).trans (Keep2.of_below HB5.out)⟩
end Go.Proofs.Ytgdobomofdenfaa.Lk
