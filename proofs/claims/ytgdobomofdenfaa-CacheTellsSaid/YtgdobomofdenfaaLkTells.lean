/- What a cache tells is as the document says: the walk. -/
import Derived.Test.YtgdobomofdenfaaLkLawD
namespace Go.Proofs.Ytgdobomofdenfaa.Lk
open Go.RowKit Go.Proofs.YtgdobomofdenfaaW.PrintWords Go.Shelf
set_option linter.unusedVariables false
set_option linter.unusedSimpArgs false

theorem ca_NewI (sz : Int) (W : World) (h1 : 1 ≤ sz) (h2 : sz ≤ 64) :
    Calls Try.prog 21 #[.int .i64 sz] W fun e W1 => e = .returned (.pointer (some ⟨W.heap.size + 1, 0, none⟩)) ∧ CaAt 73 81 (W.heap.size + 1) W.heap.size (List.replicate sz.toNat eZ) 0 0 W1 ∧ Below W.heap.size W W1 := by
  obtain ⟨n, rfl⟩ : ∃ n : Nat, sz = n := ⟨sz.toNat, by omega⟩
  exact ca_New n W (by omega) (by omega)
theorem ra_NewI (sz : Int) (W : World) (h1 : 1 ≤ sz) (h2 : sz ≤ 64) :
    Calls Try.prog 22 #[.int .i64 sz] W fun e W1 => e = .returned (.pointer (some ⟨W.heap.size + 1, 0, none⟩)) ∧ CaAt 53 75 (W.heap.size + 1) W.heap.size (List.replicate sz.toNat eZ) 0 0 W1 ∧ Below W.heap.size W W1 := by
  obtain ⟨n, rfl⟩ : ∃ n : Nat, sz = n := ⟨sz.toNat, by omega⟩
  exact ra_New n W (by omega) (by omega)

set_option maxRecDepth 100000 in
set_option maxHeartbeats 8000000 in
theorem tells_walk' (X Y : Ha) (Ax : Option Addr) (cx : Nat) (sz : Int) (xs : List Ak) (w : World) (hX : X.Ok w) (hY : Y.Ok w) (hlx : xs.length ≤ cx) (hrx : kAk.C w Ax xs.length xs) :
    Calls Try.prog 6 #[.agg #[.slice X.A X.h.objs.length X.cp, .int .i64 X.h.cap, .int .i64 X.h.last], .agg #[.slice Y.A Y.h.objs.length Y.cp, .int .i64 Y.h.cap, .int .i64 Y.h.last], .agg #[.int .i64 sz, .slice Ax xs.length cx]] w fun e w' => e = .returned (.bool true) ∧ Below w.heap.size w w' := by
  have hu24 := Try.underlying24
  have hu42 := Try.underlying42
  have hu48 := Try.underlying48
  have hu53 := Try.underlying53
  have hmx := Kd.C_max hX.row
  have hmg := Kd.C_max hY.row
  have hmy := Kd.C_max hrx
  have HX := Lib.hid hX
  have HY := Lib.hid hY
  have HRX := Lib.hid hrx
  clear hX hY hrx
  go_enter Try.func6, Try.ntmps6
  go_upto_region 1 with (fail)
  refine wp_box3 (fun w1 hb hx1 hx2 hx3 hsz => ?_)
  have HF : Hid (Frm w [] [(w.heap.size, hObj X.A X.cp X.h), (w.heap.size + 1, hObj Y.A Y.cp Y.h), (w.heap.size + 2, aObj Ax cx xs.length sz)] w1) := Lib.hid (frm_first3 hb hx1 hx2 hx3)
  clear hb hx1 hx2 hx3 hsz
  have d0 := HF.out.h0 (.head _); have d1 := HF.out.h1 (.head _); have d2 := HF.out.h2 (.head _); have f0 := HF.out.h0 (.tail _ (.head _)); have f1 := HF.out.h1 (.tail _ (.head _)); have f2 := HF.out.h2 (.tail _ (.head _)); have a0 := HF.out.a0 (.tail _ (.tail _ (.head _))); have a1 := HF.out.a1 (.tail _ (.tail _ (.head _)))
  go_upto_region 3 with (first
    | (go_at_call 20; refine (law10_fixed _).mono ?_; rintro e w2 ⟨rfl, hb⟩; replace HF := Lib.hid (HF.out.later hb); clear hb; have d0 := HF.out.h0 (.head _); have d1 := HF.out.h1 (.head _); have d2 := HF.out.h2 (.head _); have f0 := HF.out.h0 (.tail _ (.head _)); have f1 := HF.out.h1 (.tail _ (.head _)); have f2 := HF.out.h2 (.tail _ (.head _)); have a0 := HF.out.a0 (.tail _ (.tail _ (.head _))); have a1 := HF.out.a1 (.tail _ (.tail _ (.head _))))
    | (go_at_call_of 12 (Value.agg #[.slice X.A X.h.objs.length X.cp, .int .i64 X.h.cap, .int .i64 X.h.last]); refine (r3_Small X.A X.cp X.h _ HX.out.le (HF.out.row HX.out.row)).mono ?_; rintro e w2 ⟨⟨b, rfl⟩, hb⟩; replace HF := Lib.hid (HF.out.later hb); clear hb; have d0 := HF.out.h0 (.head _); have d1 := HF.out.h1 (.head _); have d2 := HF.out.h2 (.head _); have f0 := HF.out.h0 (.tail _ (.head _)); have f1 := HF.out.h1 (.tail _ (.head _)); have f2 := HF.out.h2 (.tail _ (.head _)); have a0 := HF.out.a0 (.tail _ (.tail _ (.head _))); have a1 := HF.out.a1 (.tail _ (.tail _ (.head _))); cases b)
    | (go_at_call_of 12 (Value.agg #[.slice Y.A Y.h.objs.length Y.cp, .int .i64 Y.h.cap, .int .i64 Y.h.last]); refine (r3_Small Y.A Y.cp Y.h _ HY.out.le (HF.out.row HY.out.row)).mono ?_; rintro e w2 ⟨⟨b, rfl⟩, hb⟩; replace HF := Lib.hid (HF.out.later hb); clear hb; have d0 := HF.out.h0 (.head _); have d1 := HF.out.h1 (.head _); have d2 := HF.out.h2 (.head _); have f0 := HF.out.h0 (.tail _ (.head _)); have f1 := HF.out.h1 (.tail _ (.head _)); have f2 := HF.out.h2 (.tail _ (.head _)); have a0 := HF.out.a0 (.tail _ (.tail _ (.head _))); have a1 := HF.out.a1 (.tail _ (.tail _ (.head _))); cases b))
  all_goals try (go_ret; exact ⟨rfl, HF.out.below⟩)
  go_cut [7, 8] (fun u v wx => ∃ gc ge gr gq, u = .pointer (some ⟨gc, 0, none⟩) ∧ v = .pointer (some ⟨gr, 0, none⟩) ∧ Hid (S2 53 75 w [(w.heap.size, hObj X.A X.cp X.h), (w.heap.size + 1, hObj Y.A Y.cp Y.h), (w.heap.size + 2, aObj Ax cx xs.length sz)] gc ge gr gq (List.replicate sz.toNat eZ) 0 0 (List.replicate sz.toNat eZ) 0 0 wx))
  case first =>
    go_region_with (first
      | (go_at_call 21; refine (ca_NewI sz _ (by omega) (by omega)).mono ?_; rintro e w3 ⟨rfl, k, hb⟩; (try (have HG := Lib.hid (Frm.later (HF.out.later (by first | exact Below.refl _ _ | exact (Below.refl _ _).drew)) hb); have a0 := HG.out.a0 (.tail _ (.tail _ (.head _))))); have KC := Lib.hid k; have BC := Lib.hid hb; clear k hb)
      | (go_at_call 22; refine (ra_NewI sz _ (by omega) (by omega)).mono ?_; rintro e w3 ⟨rfl, k, hb⟩; (try (have HG := Lib.hid (Frm.later (HF.out.later (by first | exact Below.refl _ _ | exact (Below.refl _ _).drew)) hb); have a0 := HG.out.a0 (.tail _ (.tail _ (.head _))))); have KR := Lib.hid k; have BR := Lib.hid hb; clear k hb))
    all_goals (go_wp2_with fail; go_meet)
    all_goals
      case rel => exact ⟨_, _, _, _, rfl, rfl, Lib.hid (s2_mk_a (W := w2.drew) (HF.out.later (Below.refl _ _).drew) BC.out KC.out BR.out KR.out)⟩
  case rest =>
    obtain ⟨gc, ge, gr, gq, rfl, rfl, HS⟩ := hcut
    clear HF d0 d1 d2 f0 f1 f2 a0 a1
    go_upto_region 6 with (fail)
    go_wp2
    go_loopw [9] (fun v wr => ∃ (k : Nat) (l : List En) (hits misses : Int), v = .int .i64 k ∧ k ≤ xs.length ∧ 0 ≤ hits ∧ 0 ≤ misses ∧ hits + misses ≤ k ∧ Hid (l.length = sz.toNat) ∧ Hid (S2 53 75 w [(w.heap.size, hObj X.A X.cp X.h), (w.heap.size + 1, hObj Y.A Y.cp Y.h), (w.heap.size + 2, aObj Ax cx xs.length sz)] gc ge gr gq l hits misses l hits misses wr)) (fun v _ => xs.length - (intOf v).toNat)
    case atStart => exact ⟨0, _, 0, 0, rfl, Nat.zero_le _, by omega, by omega, by omega, Lib.hid (List.length_replicate ..), HS⟩
    case round =>
      obtain ⟨k, l, hits, misses, rfl, hk, hh1, hh2, hh3, HL, HS⟩ := hrel
      have d0 := HS.out.frm.h0 (.head _); have d1 := HS.out.frm.h1 (.head _); have d2 := HS.out.frm.h2 (.head _); have f0 := HS.out.frm.h0 (.tail _ (.head _)); have f1 := HS.out.frm.h1 (.tail _ (.head _)); have f2 := HS.out.frm.h2 (.tail _ (.head _)); have a0 := HS.out.frm.a0 (.tail _ (.tail _ (.head _))); have a1 := HS.out.frm.a1 (.tail _ (.tail _ (.head _)))
      by_cases hlt : k < xs.length
      · obtain ⟨ad, rfl, hak⟩ := aks_at HRX.out k hlt
        obtain ⟨⟨qc, qs, qf, qo⟩, hq⟩ : ∃ q, q = ak xs k := ⟨_, rfl⟩
        rw [← hq] at hak
        have HAK := Lib.hid hak
        clear hak hq
        have q0 := (HAK.out.below HS.out.frm.below).c0
        have q1 := (HAK.out.below HS.out.frm.below).c1
        have q2 := (HAK.out.below HS.out.frm.below).c2
        have q3 := (HAK.out.below HS.out.frm.below).c3
        have hn : 0 < l.length := by have := HL.out; omega
        have hm : l.length ≤ 64 := by have := HL.out; omega
        have hk30 : (k : Int) < 30 := by omega
        go_upto_region 10 with (fail)
        refine wp_box1 (fun w3 hb hx1 hsz => ?_)
        have HGC := Lib.hid (show (wr.heap.size ≠ gc ∧ wr.heap.size ≠ ge) ∧ (wr.heap.size ≠ gr ∧ wr.heap.size ≠ gq) from ⟨⟨Nat.ne_of_gt HS.out.ca.in_.1, Nat.ne_of_gt HS.out.ca.in_.2⟩, ⟨Nat.ne_of_gt HS.out.ra.in_.1, Nat.ne_of_gt HS.out.ra.in_.2⟩⟩)
        replace HS := Lib.hid (HS.out.later hb)
        have HT := Lib.hid hx1
        have HSZ := Lib.hid hsz
        clear hb hx1 hsz q0 q1 q2 q3
        have q2 : w3.cell? ⟨wr.heap.size, 2, none⟩ = some (.bool qf) := cellof HT.out 2
        have d0 := HS.out.frm.h0 (.head _); have d1 := HS.out.frm.h1 (.head _); have d2 := HS.out.frm.h2 (.head _); have f0 := HS.out.frm.h0 (.tail _ (.head _)); have f1 := HS.out.frm.h1 (.tail _ (.head _)); have f2 := HS.out.frm.h2 (.tail _ (.head _)); have a0 := HS.out.frm.a0 (.tail _ (.tail _ (.head _))); have a1 := HS.out.frm.a1 (.tail _ (.tail _ (.head _)))
        cases qf with
        | true =>
          go_wp2_with (first
            | (go_at_call 23; refine (s2_Flush1 hn HS.out).mono ?_; rintro e w7 ⟨rfl, k1⟩; replace HS := Lib.hid k1; clear k1; have d0 := HS.out.frm.h0 (.head _); have d1 := HS.out.frm.h1 (.head _); have d2 := HS.out.frm.h2 (.head _); have f0 := HS.out.frm.h0 (.tail _ (.head _)); have f1 := HS.out.frm.h1 (.tail _ (.head _)); have f2 := HS.out.frm.h2 (.tail _ (.head _)); have a0 := HS.out.frm.a0 (.tail _ (.tail _ (.head _))); have a1 := HS.out.frm.a1 (.tail _ (.tail _ (.head _))))
            | (go_at_call 24; refine (s2_FlushR hm HS.out).mono ?_; rintro e w7 ⟨rfl, k1⟩; replace HS := Lib.hid k1; clear k1; have d0 := HS.out.frm.h0 (.head _); have d1 := HS.out.frm.h1 (.head _); have d2 := HS.out.frm.h2 (.head _); have f0 := HS.out.frm.h0 (.tail _ (.head _)); have f1 := HS.out.frm.h1 (.tail _ (.head _)); have f2 := HS.out.frm.h2 (.tail _ (.head _)); have a0 := HS.out.frm.a0 (.tail _ (.tail _ (.head _))); have a1 := HS.out.frm.a1 (.tail _ (.tail _ (.head _)))))
          go_roundw
          case rel => exact ⟨k + 1, _, _, _, by go_num, by omega, hh1, hh2, by omega, Lib.hid (by rw [List.length_replicate]; exact HL.out), HS⟩
          case measure => simp [intOf]; omega
        | false =>
          have q0 : w3.cell? ⟨wr.heap.size, 0, none⟩ = some (.int .i64 qc) := cellof HT.out 0
          have q1 : w3.cell? ⟨wr.heap.size, 1, none⟩ = some (.int .i64 qs) := cellof HT.out 1
          have q3 : w3.cell? ⟨wr.heap.size, 3, none⟩ = some (.bool qo) := cellof HT.out 3
          cases qo with
          | true =>
            obtain ⟨⟨rm, ra, re⟩, hr1⟩ : ∃ r, resF Y.h qc qs l = r := ⟨_, rfl⟩
            have HR1 := Lib.hid hr1
            clear hr1
            have s0 := cell_on f0
            have s1 := cell_on f1
            have s2 := cell_on f2
            have s3 := cell_on q3
            go_upto_region 16 with (fail)
            clear s0 s1 s2 s3
            refine wp_box1 (fun w4 hb hx1 hsz => ?_)
            have HGC2 := Lib.hid (show (w3.heap.size ≠ gc ∧ w3.heap.size ≠ ge) ∧ (w3.heap.size ≠ gr ∧ w3.heap.size ≠ gq) from ⟨⟨Nat.ne_of_gt HS.out.ca.in_.1, Nat.ne_of_gt HS.out.ca.in_.2⟩, ⟨Nat.ne_of_gt HS.out.ra.in_.1, Nat.ne_of_gt HS.out.ra.in_.2⟩⟩)
            replace HT := Lib.hid ((hb.block _ (by rw [HSZ.out]; omega)).trans HT.out)
            have HSZ2 := Lib.hid (show wr.heap.size < w4.heap.size ∧ w3.heap.size < w4.heap.size by have := HSZ.out; omega)
            replace HS := Lib.hid (HS.out.later hb)
            have HB := Lib.hid hx1
            clear hb hx1 hsz q0 q1 q2 q3
            have q0 : w4.cell? ⟨wr.heap.size, 0, none⟩ = some (.int .i64 qc) := cellof HT.out 0
            have q1 : w4.cell? ⟨wr.heap.size, 1, none⟩ = some (.int .i64 qs) := cellof HT.out 1
            have e0 : w4.cell? ⟨w3.heap.size, 0, none⟩ = some (.slice Y.A Y.h.objs.length Y.cp) := cellof HB.out 0
            have e1 : w4.cell? ⟨w3.heap.size, 1, none⟩ = some (.int .i64 Y.h.cap) := cellof HB.out 1
            have e2 : w4.cell? ⟨w3.heap.size, 2, none⟩ = some (.int .i64 Y.h.last) := cellof HB.out 2
            have d0 := HS.out.frm.h0 (.head _); have d1 := HS.out.frm.h1 (.head _); have d2 := HS.out.frm.h2 (.head _); have f0 := HS.out.frm.h0 (.tail _ (.head _)); have f1 := HS.out.frm.h1 (.tail _ (.head _)); have f2 := HS.out.frm.h2 (.tail _ (.head _)); have a0 := HS.out.frm.a0 (.tail _ (.tail _ (.head _))); have a1 := HS.out.frm.a1 (.tail _ (.tail _ (.head _)))
            go_wp2_with (first
              | (go_at_call 25; refine (s2_Find1 qc qs Y.A Y.cp Y.h HY.out.bits HY.out.le HY.out.row hn hm HS.out (by omega) (by omega)).mono ?_; rintro e w5 ⟨he, k1, qk⟩; rw [HR1.out] at he; subst he; replace HT := Lib.hid ((qk.block _ (by have := HSZ2.out; have := HS.out.frm.below.size; omega) HGC.out.1.1 HGC.out.1.2).trans HT.out); replace HB := Lib.hid ((qk.block _ (by have := HSZ2.out; omega) HGC2.out.1.1 HGC2.out.1.2).trans HB.out); have hs5 := qk.size; replace HSZ2 := Lib.hid (show wr.heap.size < w5.heap.size ∧ w3.heap.size < w5.heap.size from ⟨Nat.lt_of_lt_of_le HSZ2.out.1 hs5, Nat.lt_of_lt_of_le HSZ2.out.2 hs5⟩); clear hs5; replace HS := Lib.hid k1; clear k1 qk; have q0 : w5.cell? ⟨wr.heap.size, 0, none⟩ = some (.int .i64 qc) := cellof HT.out 0; have q1 : w5.cell? ⟨wr.heap.size, 1, none⟩ = some (.int .i64 qs) := cellof HT.out 1; have e0 : w5.cell? ⟨w3.heap.size, 0, none⟩ = some (.slice Y.A Y.h.objs.length Y.cp) := cellof HB.out 0; have e1 : w5.cell? ⟨w3.heap.size, 1, none⟩ = some (.int .i64 Y.h.cap) := cellof HB.out 1; have e2 : w5.cell? ⟨w3.heap.size, 2, none⟩ = some (.int .i64 Y.h.last) := cellof HB.out 2)
              | (go_at_call 26; refine (s2_FindR qc qs Y.A Y.cp Y.h HY.out.le HY.out.row hn hm HS.out (by omega) (by omega)).mono ?_; rintro e w5 ⟨he, k1, qk⟩; rw [HR1.out] at he; subst he; replace HT := Lib.hid ((qk.block _ (by have := HSZ2.out; have := HS.out.frm.below.size; omega) HGC.out.2.1 HGC.out.2.2).trans HT.out); replace HB := Lib.hid ((qk.block _ (by have := HSZ2.out; omega) HGC2.out.2.1 HGC2.out.2.2).trans HB.out); have hs5 := qk.size; replace HSZ2 := Lib.hid (show wr.heap.size < w5.heap.size ∧ w3.heap.size < w5.heap.size from ⟨Nat.lt_of_lt_of_le HSZ2.out.1 hs5, Nat.lt_of_lt_of_le HSZ2.out.2 hs5⟩); clear hs5; replace HS := Lib.hid k1; clear k1 qk; have q0 : w5.cell? ⟨wr.heap.size, 0, none⟩ = some (.int .i64 qc) := cellof HT.out 0; have q1 : w5.cell? ⟨wr.heap.size, 1, none⟩ = some (.int .i64 qs) := cellof HT.out 1; have e0 : w5.cell? ⟨w3.heap.size, 0, none⟩ = some (.slice Y.A Y.h.objs.length Y.cp) := cellof HB.out 0; have e1 : w5.cell? ⟨w3.heap.size, 1, none⟩ = some (.int .i64 Y.h.cap) := cellof HB.out 1; have e2 : w5.cell? ⟨w3.heap.size, 2, none⟩ = some (.int .i64 Y.h.last) := cellof HB.out 2))
            go_roundw
            case rel => exact ⟨k + 1, _, _, _, by go_num, by omega, (hit_bd _ _ _ hh1 hh2).1, (hit_bd _ _ _ hh1 hh2).2.1, Int.le_trans (hit_bd _ _ _ hh1 hh2).2.2 (by omega), Lib.hid (by rw [ent_len]; exact HL.out), HS⟩
            case measure => simp [intOf]; omega
          | false =>
            obtain ⟨⟨rm, ra, re⟩, hr1⟩ : ∃ r, resF X.h qc qs l = r := ⟨_, rfl⟩
            have HR1 := Lib.hid hr1
            clear hr1
            have s0 := cell_on f0
            have s1 := cell_on f1
            have s2 := cell_on f2
            have s3 := cell_on q3
            go_upto_region 16 with (fail)
            clear s0 s1 s2 s3
            refine wp_box1 (fun w4 hb hx1 hsz => ?_)
            have HGC2 := Lib.hid (show (w3.heap.size ≠ gc ∧ w3.heap.size ≠ ge) ∧ (w3.heap.size ≠ gr ∧ w3.heap.size ≠ gq) from ⟨⟨Nat.ne_of_gt HS.out.ca.in_.1, Nat.ne_of_gt HS.out.ca.in_.2⟩, ⟨Nat.ne_of_gt HS.out.ra.in_.1, Nat.ne_of_gt HS.out.ra.in_.2⟩⟩)
            replace HT := Lib.hid ((hb.block _ (by rw [HSZ.out]; omega)).trans HT.out)
            have HSZ2 := Lib.hid (show wr.heap.size < w4.heap.size ∧ w3.heap.size < w4.heap.size by have := HSZ.out; omega)
            replace HS := Lib.hid (HS.out.later hb)
            have HB := Lib.hid hx1
            clear hb hx1 hsz q0 q1 q2 q3
            have q0 : w4.cell? ⟨wr.heap.size, 0, none⟩ = some (.int .i64 qc) := cellof HT.out 0
            have q1 : w4.cell? ⟨wr.heap.size, 1, none⟩ = some (.int .i64 qs) := cellof HT.out 1
            have e0 : w4.cell? ⟨w3.heap.size, 0, none⟩ = some (.slice X.A X.h.objs.length X.cp) := cellof HB.out 0
            have e1 : w4.cell? ⟨w3.heap.size, 1, none⟩ = some (.int .i64 X.h.cap) := cellof HB.out 1
            have e2 : w4.cell? ⟨w3.heap.size, 2, none⟩ = some (.int .i64 X.h.last) := cellof HB.out 2
            have d0 := HS.out.frm.h0 (.head _); have d1 := HS.out.frm.h1 (.head _); have d2 := HS.out.frm.h2 (.head _); have f0 := HS.out.frm.h0 (.tail _ (.head _)); have f1 := HS.out.frm.h1 (.tail _ (.head _)); have f2 := HS.out.frm.h2 (.tail _ (.head _)); have a0 := HS.out.frm.a0 (.tail _ (.tail _ (.head _))); have a1 := HS.out.frm.a1 (.tail _ (.tail _ (.head _)))
            go_wp2_with (first
              | (go_at_call 25; refine (s2_Find1 qc qs X.A X.cp X.h HX.out.bits HX.out.le HX.out.row hn hm HS.out (by omega) (by omega)).mono ?_; rintro e w5 ⟨he, k1, qk⟩; rw [HR1.out] at he; subst he; replace HT := Lib.hid ((qk.block _ (by have := HSZ2.out; have := HS.out.frm.below.size; omega) HGC.out.1.1 HGC.out.1.2).trans HT.out); replace HB := Lib.hid ((qk.block _ (by have := HSZ2.out; omega) HGC2.out.1.1 HGC2.out.1.2).trans HB.out); have hs5 := qk.size; replace HSZ2 := Lib.hid (show wr.heap.size < w5.heap.size ∧ w3.heap.size < w5.heap.size from ⟨Nat.lt_of_lt_of_le HSZ2.out.1 hs5, Nat.lt_of_lt_of_le HSZ2.out.2 hs5⟩); clear hs5; replace HS := Lib.hid k1; clear k1 qk; have q0 : w5.cell? ⟨wr.heap.size, 0, none⟩ = some (.int .i64 qc) := cellof HT.out 0; have q1 : w5.cell? ⟨wr.heap.size, 1, none⟩ = some (.int .i64 qs) := cellof HT.out 1; have e0 : w5.cell? ⟨w3.heap.size, 0, none⟩ = some (.slice X.A X.h.objs.length X.cp) := cellof HB.out 0; have e1 : w5.cell? ⟨w3.heap.size, 1, none⟩ = some (.int .i64 X.h.cap) := cellof HB.out 1; have e2 : w5.cell? ⟨w3.heap.size, 2, none⟩ = some (.int .i64 X.h.last) := cellof HB.out 2)
              | (go_at_call 26; refine (s2_FindR qc qs X.A X.cp X.h HX.out.le HX.out.row hn hm HS.out (by omega) (by omega)).mono ?_; rintro e w5 ⟨he, k1, qk⟩; rw [HR1.out] at he; subst he; replace HT := Lib.hid ((qk.block _ (by have := HSZ2.out; have := HS.out.frm.below.size; omega) HGC.out.2.1 HGC.out.2.2).trans HT.out); replace HB := Lib.hid ((qk.block _ (by have := HSZ2.out; omega) HGC2.out.2.1 HGC2.out.2.2).trans HB.out); have hs5 := qk.size; replace HSZ2 := Lib.hid (show wr.heap.size < w5.heap.size ∧ w3.heap.size < w5.heap.size from ⟨Nat.lt_of_lt_of_le HSZ2.out.1 hs5, Nat.lt_of_lt_of_le HSZ2.out.2 hs5⟩); clear hs5; replace HS := Lib.hid k1; clear k1 qk; have q0 : w5.cell? ⟨wr.heap.size, 0, none⟩ = some (.int .i64 qc) := cellof HT.out 0; have q1 : w5.cell? ⟨wr.heap.size, 1, none⟩ = some (.int .i64 qs) := cellof HT.out 1; have e0 : w5.cell? ⟨w3.heap.size, 0, none⟩ = some (.slice X.A X.h.objs.length X.cp) := cellof HB.out 0; have e1 : w5.cell? ⟨w3.heap.size, 1, none⟩ = some (.int .i64 X.h.cap) := cellof HB.out 1; have e2 : w5.cell? ⟨w3.heap.size, 2, none⟩ = some (.int .i64 X.h.last) := cellof HB.out 2))
            go_roundw
            case rel => exact ⟨k + 1, _, _, _, by go_num, by omega, (hit_bd _ _ _ hh1 hh2).1, (hit_bd _ _ _ hh1 hh2).2.1, Int.le_trans (hit_bd _ _ _ hh1 hh2).2.2 (by omega), Lib.hid (by rw [ent_len]; exact HL.out), HS⟩
            case measure => simp [intOf]; omega
      · go_wp2_with (first
          | (go_at_call 20; refine (law10_fixed _).mono ?_; rintro e w2 ⟨rfl, hb⟩; replace HS := Lib.hid (HS.out.later hb); clear hb; have z1 := HS.out.ra.b1; have z2 := HS.out.ra.b2)
          | (go_at_call 27; refine (s2_Hits1 HS.out).mono ?_; rintro e w7 ⟨rfl, k1⟩; replace HS := Lib.hid k1; clear k1; have z1 := HS.out.ra.b1; have z2 := HS.out.ra.b2))
        go_ret
        exact ⟨rfl, HS.out.frm.below⟩
theorem tells_walk (A : Option Addr) (cp : Nat) (h : Hp) (A' : Option Addr) (cp' : Nat) (g : Hp) (Ax : Option Addr) (cx : Nat) (sz : Int) (xs : List Ak) (w : World) (hb : bitsOk h.objs) (hl : h.objs.length ≤ cp) (hr : kOb.C w A h.objs.length h.objs) (hb' : bitsOk g.objs) (hl' : g.objs.length ≤ cp') (hr' : kOb.C w A' g.objs.length g.objs) (hlx : xs.length ≤ cx) (hrx : kAk.C w Ax xs.length xs) (hsz : inI sz) :
    Calls Try.prog 6 #[.agg #[.slice A h.objs.length cp, .int .i64 h.cap, .int .i64 h.last], .agg #[.slice A' g.objs.length cp', .int .i64 g.cap, .int .i64 g.last], .agg #[.int .i64 sz, .slice Ax xs.length cx]] w fun e w' => e = .returned (.bool true) ∧ Below w.heap.size w w' :=
  tells_walk' ⟨A, cp, h⟩ ⟨A', cp', g⟩ Ax cx sz xs w ⟨hb, hl, hr⟩ ⟨hb', hl', hr'⟩ hlx hrx
end Go.Proofs.Ytgdobomofdenfaa.Lk
