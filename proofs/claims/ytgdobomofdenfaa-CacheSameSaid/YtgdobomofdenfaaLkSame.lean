/- As long as the heap is the same, whatever is asked is answered as look answers it: the walk. -/
import Derived.Test.YtgdobomofdenfaaLkLawD
namespace Go.Proofs.Ytgdobomofdenfaa.Lk
open Go.RowKit Go.Proofs.YtgdobomofdenfaaW.PrintWords Go.Shelf
set_option linter.unusedVariables false
set_option linter.unusedSimpArgs false

set_option maxRecDepth 100000 in
set_option maxHeartbeats 8000000 in
theorem same_walk' (X Y : Ha) (Ax : Option Addr) (cx : Nat) (sz : Int) (xs : List Ak) (w : World) (hX : X.Ok w) (hY : Y.Ok w) (hlx : xs.length ≤ cx) (hrx : kAk.C w Ax xs.length xs) :
    Calls Try.prog 7 #[.agg #[.slice X.A X.h.objs.length X.cp, .int .i64 X.h.cap, .int .i64 X.h.last], .agg #[.slice Y.A Y.h.objs.length Y.cp, .int .i64 Y.h.cap, .int .i64 Y.h.last], .agg #[.int .i64 sz, .slice Ax xs.length cx]] w fun e w' => e = .returned (.bool true) ∧ Below w.heap.size w w' := by
  have hu24 := Try.underlying24
  have hu42 := Try.underlying42
  have hu48 := Try.underlying48
  have hmx := Kd.C_max hX.row
  have hmg := Kd.C_max hY.row
  have hmy := Kd.C_max hrx
  have HX := Lib.hid hX
  have HY := Lib.hid hY
  have HRX := Lib.hid hrx
  clear hX hY hrx
  go_enter Try.func7, Try.ntmps7
  go_upto_region 1 with (fail)
  refine wp_box3 (fun w1 hb hx1 hx2 hx3 hsz => ?_)
  have HF : Hid (Frm w [] [(w.heap.size, hObj X.A X.cp X.h), (w.heap.size + 1, hObj Y.A Y.cp Y.h), (w.heap.size + 2, aObj Ax cx xs.length sz)] w1) := Lib.hid (frm_first3 hb hx1 hx2 hx3)
  clear hb hx1 hx2 hx3 hsz
  have d0 := HF.out.h0 (.head _)
  have d1 := HF.out.h1 (.head _)
  have d2 := HF.out.h2 (.head _)
  have f0 := HF.out.h0 (.tail _ (.head _))
  have f1 := HF.out.h1 (.tail _ (.head _))
  have f2 := HF.out.h2 (.tail _ (.head _))
  have a0 := HF.out.a0 (.tail _ (.tail _ (.head _)))
  have a1 := HF.out.a1 (.tail _ (.tail _ (.head _)))
  go_wp2_with (first
    | (go_at_call 20; refine (law10_fixed _).mono ?_; rintro e w2 ⟨rfl, hb⟩; replace HF := Lib.hid (HF.out.later hb); clear hb; have d0 := HF.out.h0 (.head _); have d1 := HF.out.h1 (.head _); have d2 := HF.out.h2 (.head _); have f0 := HF.out.h0 (.tail _ (.head _)); have f1 := HF.out.h1 (.tail _ (.head _)); have f2 := HF.out.h2 (.tail _ (.head _)); have a0 := HF.out.a0 (.tail _ (.tail _ (.head _))); have a1 := HF.out.a1 (.tail _ (.tail _ (.head _))))
    | (go_at_call_of 12 (Value.agg #[.slice X.A X.h.objs.length X.cp, .int .i64 X.h.cap, .int .i64 X.h.last]); refine (r3_Small X.A X.cp X.h _ HX.out.le (HF.out.row HX.out.row)).mono ?_; rintro e w2 ⟨⟨b, rfl⟩, hb⟩; replace HF := Lib.hid (HF.out.later hb); clear hb; have d0 := HF.out.h0 (.head _); have d1 := HF.out.h1 (.head _); have d2 := HF.out.h2 (.head _); have f0 := HF.out.h0 (.tail _ (.head _)); have f1 := HF.out.h1 (.tail _ (.head _)); have f2 := HF.out.h2 (.tail _ (.head _)); have a0 := HF.out.a0 (.tail _ (.tail _ (.head _))); have a1 := HF.out.a1 (.tail _ (.tail _ (.head _))); cases b)
    | (go_at_call_of 12 (Value.agg #[.slice Y.A Y.h.objs.length Y.cp, .int .i64 Y.h.cap, .int .i64 Y.h.last]); refine (r3_Small Y.A Y.cp Y.h _ HY.out.le (HF.out.row HY.out.row)).mono ?_; rintro e w2 ⟨⟨b, rfl⟩, hb⟩; replace HF := Lib.hid (HF.out.later hb); clear hb; have d0 := HF.out.h0 (.head _); have d1 := HF.out.h1 (.head _); have d2 := HF.out.h2 (.head _); have f0 := HF.out.h0 (.tail _ (.head _)); have f1 := HF.out.h1 (.tail _ (.head _)); have f2 := HF.out.h2 (.tail _ (.head _)); have a0 := HF.out.a0 (.tail _ (.tail _ (.head _))); have a1 := HF.out.a1 (.tail _ (.tail _ (.head _))); cases b)
    | (go_at_call 21; refine (s1_New sz HF.out (by omega) (by omega)).mono ?_; rintro e w2 ⟨gc, ge, rfl, k⟩; have HS := Lib.hid (SS.of_S1 k); clear k HF))
  all_goals try (go_ret; exact ⟨rfl, HF.out.below⟩)
  clear d0 d1 d2 f0 f1 f2 a0 a1
  go_loopw [8] (fun v wr => ∃ (k : Nat) (x y : Ha) (l : List En) (hits misses : Int), v = .int .i64 k ∧ k ≤ xs.length ∧ 0 ≤ hits ∧ 0 ≤ misses ∧ hits + misses ≤ k ∧ Hid (l.length = sz.toNat) ∧ Hid (x.Ok w) ∧ Hid (y.Ok w) ∧ Hid (Valid x.h l) ∧ Hid (SS w Ax cx xs.length sz x y gc ge l hits misses wr)) (fun v _ => xs.length - (intOf v).toNat)
  case atStart => exact ⟨0, X, Y, _, 0, 0, rfl, Nat.zero_le _, by omega, by omega, by omega, Lib.hid (List.length_replicate ..), HX, HY, Lib.hid (valid_zero _ _), HS⟩
  case round =>
    obtain ⟨k, x, y, l, hits, misses, rfl, hk, hh1, hh2, hh3, HL, HXX, HYY, HV, HS⟩ := hrel
    clear HX HY
    have d0 := HS.out.c0; have d1 := HS.out.c1; have d2 := HS.out.c2; have f0 := HS.out.g0; have f1 := HS.out.g1; have f2 := HS.out.g2; have a1 := HS.out.a1
    by_cases hlt : k < xs.length
    · obtain ⟨ad, rfl, hak⟩ := aks_at HRX.out k hlt
      obtain ⟨⟨qc, qs, qf, qo⟩, hq⟩ : ∃ q, q = ak xs k := ⟨_, rfl⟩
      rw [← hq] at hak
      have HAK := Lib.hid hak
      clear hak hq
      have q0 := (HAK.out.below HS.out.frm.below).c0
      have q1 := (HAK.out.below HS.out.frm.below).c1
      have q2 := (HAK.out.below HS.out.frm.below).c2
      have q3 := (HAK.out.below HS.out.frm.below).c3
      have hn : 0 < l.length := by have := HL.out; omega
      have hm : l.length ≤ 64 := by have := HL.out; omega
      have hk30 : (k : Int) < 30 := by omega
      go_upto_region 10 with (fail)
      refine wp_box1 (fun w3 hb hx1 hsz => ?_)
      have hgc : wr.heap.size ≠ gc ∧ wr.heap.size ≠ ge := ⟨Nat.ne_of_gt HS.out.ca.in_.1, Nat.ne_of_gt HS.out.ca.in_.2⟩
      have HGC := Lib.hid hgc
      replace HS := Lib.hid (HS.out.later hb)
      have HT := Lib.hid hx1
      have HSZ := Lib.hid hsz
      clear hb hx1 hsz q0 q1 q2 q3 hgc
      have q2 : w3.cell? ⟨wr.heap.size, 2, none⟩ = some (.bool qf) := cellof HT.out 2
      cases qf with
      | true =>
        have d0 := HS.out.c0; have d1 := HS.out.c1; have d2 := HS.out.c2; have f0 := HS.out.g0; have f1 := HS.out.g1; have f2 := HS.out.g2; have a1 := HS.out.a1
        go_upto_region 12 with (fail)
        clear q2
        refine wp_box1 (fun w4 hb hx1 hsz => ?_)
        have HT := Lib.hid hx1
        have HNE := Lib.hid (show w3.heap.size ≠ w.heap.size by have := HS.out.frm.below.size; have := (Array.getElem?_eq_some_iff.1 HS.out.bh).1; omega)
        replace HS := Lib.hid (HS.out.later hb)
        clear hb hx1 hsz
        have d0 := HS.out.c0; have d1 := HS.out.c1; have d2 := HS.out.c2; have f0 := HS.out.g0; have f1 := HS.out.g1; have f2 := HS.out.g2; have a1 := HS.out.a1
        have r0 := blk_frozen HS.out.bh 0
        have r1 := blk_frozen HS.out.bh 1
        have r2 := blk_frozen HS.out.bh 2
        go_upto_region 13 with (fail)
        refine HS.out.wp_set_h y HT.out HNE.out (fun w5 k5 ht5 => ?_)
        replace HS := Lib.hid k5
        replace HT := Lib.hid ht5
        clear k5 ht5 r0 r1 r2
        have d0 := HS.out.c0; have d1 := HS.out.c1; have d2 := HS.out.c2; have f0 := HS.out.g0; have f1 := HS.out.g1; have f2 := HS.out.g2; have a1 := HS.out.a1
        have t0 : w5.cell? ⟨w3.heap.size, 0, none⟩ = some (.slice x.A x.h.objs.length x.cp) := cellof HT.out 0
        have t1 : w5.cell? ⟨w3.heap.size, 1, none⟩ = some (.int .i64 x.h.cap) := cellof HT.out 1
        have t2 : w5.cell? ⟨w3.heap.size, 2, none⟩ = some (.int .i64 x.h.last) := cellof HT.out 2
        have r0 := blk_frozen HS.out.bg 0
        have r1 := blk_frozen HS.out.bg 1
        have r2 := blk_frozen HS.out.bg 2
        go_upto_region 14 with (fail)
        refine HS.out.wp_set_g x (fun w6 k6 => ?_)
        replace HS := Lib.hid k6
        clear k6 r0 r1 r2 t0 t1 t2
        have d0 := HS.out.c0; have d1 := HS.out.c1; have d2 := HS.out.c2; have f0 := HS.out.g0; have f1 := HS.out.g1; have f2 := HS.out.g2; have a1 := HS.out.a1
        go_wp2_with (go_at_call 23; refine (ss_Flush hn HS.out).mono ?_; rintro e w7 ⟨rfl, k1⟩; replace HS := Lib.hid k1; clear k1; have d0 := HS.out.c0; have d1 := HS.out.c1; have d2 := HS.out.c2; have f0 := HS.out.g0; have f1 := HS.out.g1; have f2 := HS.out.g2; have a1 := HS.out.a1)
        go_roundw
        case rel => exact ⟨k + 1, y, x, _, _, _, by go_num, by omega, hh1, hh2, by omega, Lib.hid (by rw [List.length_replicate]; exact HL.out), HYY, HXX, Lib.hid (valid_zero _ _), HS⟩
        case measure => simp [intOf]; omega
      | false =>
        have q0 : w3.cell? ⟨wr.heap.size, 0, none⟩ = some (.int .i64 qc) := cellof HT.out 0
        have q1 : w3.cell? ⟨wr.heap.size, 1, none⟩ = some (.int .i64 qs) := cellof HT.out 1
        have d0 := HS.out.c0; have d1 := HS.out.c1; have d2 := HS.out.c2; have f0 := HS.out.g0; have f1 := HS.out.g1; have f2 := HS.out.g2; have a1 := HS.out.a1
        obtain ⟨⟨rm, ra, re⟩, hr1⟩ : ∃ r, findI x.h qc qs = r := ⟨_, rfl⟩
        have hrv := valid_res HV.out hn qc qs
        rw [hr1] at hrv
        have HR1 := Lib.hid hr1
        have HRV := Lib.hid hrv
        clear hr1 hrv
        go_wp2_with (first
          | (go_at_call 25; refine (ss_Find qc qs HXX.out hn hm HS.out (by omega) (by omega)).mono ?_; rintro e w5 ⟨he, k1, qk⟩; rw [HRV.out] at he; subst he; replace HT := Lib.hid ((qk.block _ (by rw [HSZ.out]; omega) HGC.out.1 HGC.out.2).trans HT.out); replace HS := Lib.hid k1; clear k1 qk; have q0 : w5.cell? ⟨wr.heap.size, 0, none⟩ = some (.int .i64 qc) := cellof HT.out 0; have q1 : w5.cell? ⟨wr.heap.size, 1, none⟩ = some (.int .i64 qs) := cellof HT.out 1; have d0 := HS.out.c0; have d1 := HS.out.c1; have d2 := HS.out.c2; have f0 := HS.out.g0; have f1 := HS.out.g1; have f2 := HS.out.g2; have a1 := HS.out.a1)
          | (go_at_call 28; refine (ss_R9 qc qs HXX.out HS.out).mono ?_; rintro e w5 ⟨he, k1⟩; rw [HR1.out] at he; subst he; replace HS := Lib.hid k1; clear k1; have d0 := HS.out.c0; have d1 := HS.out.c1; have d2 := HS.out.c2; have f0 := HS.out.g0; have f1 := HS.out.g1; have f2 := HS.out.g2; have a1 := HS.out.a1))
        go_roundw
        case rel => exact ⟨k + 1, x, y, _, _, _, by go_num, by omega, (hit_bd _ _ _ hh1 hh2).1, (hit_bd _ _ _ hh1 hh2).2.1, Int.le_trans (hit_bd _ _ _ hh1 hh2).2.2 (by omega), Lib.hid (by rw [ent_len]; exact HL.out), HXX, HYY, Lib.hid (valid_ent HV.out qc qs), HS⟩
        case measure => simp [intOf]; omega
    · go_wp2
      go_ret
      exact ⟨rfl, HS.out.frm.below⟩
theorem same_walk (A : Option Addr) (cp : Nat) (h : Hp) (A' : Option Addr) (cp' : Nat) (g : Hp) (Ax : Option Addr) (cx : Nat) (sz : Int) (xs : List Ak) (w : World) (hb : bitsOk h.objs) (hl : h.objs.length ≤ cp) (hr : kOb.C w A h.objs.length h.objs) (hb' : bitsOk g.objs) (hl' : g.objs.length ≤ cp') (hr' : kOb.C w A' g.objs.length g.objs) (hlx : xs.length ≤ cx) (hrx : kAk.C w Ax xs.length xs) (hsz : inI sz) :
    Calls Try.prog 7 #[.agg #[.slice A h.objs.length cp, .int .i64 h.cap, .int .i64 h.last], .agg #[.slice A' g.objs.length cp', .int .i64 g.cap, .int .i64 g.last], .agg #[.int .i64 sz, .slice Ax xs.length cx]] w fun e w' => e = .returned (.bool true) ∧ Below w.heap.size w w' :=
  same_walk' ⟨A, cp, h⟩ ⟨A', cp', g⟩ Ax cx sz xs w ⟨hb, hl, hr⟩ ⟨hb', hl', hr'⟩ hlx hrx
end Go.Proofs.Ytgdobomofdenfaa.Lk
