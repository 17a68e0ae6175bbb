/- Behind a Flush no Find is a hit: the walk. -/
import Derived.Test.YtgdobomofdenfaaLkLawB
import Derived.Deep.RegionHeld3
namespace Go.Proofs.Ytgdobomofdenfaa.Lk
open Go.RowKit Go.Proofs.YtgdobomofdenfaaW.PrintWords Go.Shelf
set_option linter.unusedVariables false
set_option linter.unusedSimpArgs false

set_option maxRecDepth 100000 in
set_option maxHeartbeats 8000000 in
theorem flushed_walk (A : Option Addr) (cp : Nat) (h : Hp) (Ax : Option Addr) (cx : Nat) (sz : Int) (xs : List Ak) (w : World) (hbits : bitsOk h.objs) (hl : h.objs.length ≤ cp) (hr : kOb.C w A h.objs.length h.objs) (hlx : xs.length ≤ cx) (hrx : kAk.C w Ax xs.length xs) (hsz : inI sz) :
    Calls Try.prog 10 #[.agg #[.slice A h.objs.length cp, .int .i64 h.cap, .int .i64 h.last], .agg #[.int .i64 sz, .slice Ax xs.length cx]] w fun e w' => e = .returned (.bool true) ∧ Below w.heap.size w w' := by
  have hu24 := Try.underlying24
  have hu42 := Try.underlying42
  have hu48 := Try.underlying48
  have hmx := Kd.C_max hr
  have hmy := Kd.C_max hrx
  have HI := Lib.hid hbits
  have HR := Lib.hid hr
  have HRX := Lib.hid hrx
  clear hr hbits hrx hsz
  go_enter Try.func10, Try.ntmps10
  go_upto_region 1 with (fail)
  refine wp_box2 (fun w1 hb hx1 hx2 hsz => ?_)
  have HF : Hid (Frm w [] [(w.heap.size, hObj A cp h), (w.heap.size + 1, aObj Ax cx xs.length sz)] w1) := Lib.hid (frm_first2 hb hx1 hx2)
  clear hb hx1 hx2 hsz
  have d0 := HF.out.h0 (.head _)
  have d1 := HF.out.h1 (.head _)
  have d2 := HF.out.h2 (.head _)
  have a0 := HF.out.a0 (.tail _ (.head _))
  have a1 := HF.out.a1 (.tail _ (.head _))
  go_wp2_with (first
    | (go_at_call 20; refine (law10_fixed _).mono ?_; rintro e w2 ⟨rfl, hb⟩; replace HF := Lib.hid (HF.out.later hb); clear hb; have d0 := HF.out.h0 (.head _); have d1 := HF.out.h1 (.head _); have d2 := HF.out.h2 (.head _); have a0 := HF.out.a0 (.tail _ (.head _)); have a1 := HF.out.a1 (.tail _ (.head _)))
    | (go_at_call 12; refine (r3_Small A cp h _ hl (HF.out.row HR.out)).mono ?_; rintro e w2 ⟨⟨b, rfl⟩, hb⟩; replace HF := Lib.hid (HF.out.later hb); clear hb; have d0 := HF.out.h0 (.head _); have d1 := HF.out.h1 (.head _); have d2 := HF.out.h2 (.head _); have a0 := HF.out.a0 (.tail _ (.head _)); have a1 := HF.out.a1 (.tail _ (.head _)); cases b)
    | (go_at_call 21; refine (s1_New sz HF.out (by omega) (by omega)).mono ?_; rintro e w2 ⟨gc, ge, rfl, k⟩; have HS := Lib.hid k; clear k HF))
  all_goals try (go_ret; exact ⟨rfl, HF.out.below⟩)
  clear d0 d1 d2 a0 a1
  go_loopw [6] (fun v wr => ∃ (k : Nat) (l : List En) (hits misses : Int), v = .int .i64 k ∧ k ≤ xs.length ∧ 0 ≤ hits ∧ 0 ≤ misses ∧ hits + misses = 2 * k ∧ Hid (l.length = sz.toNat) ∧ Hid (S1 w [(w.heap.size, hObj A cp h), (w.heap.size + 1, aObj Ax cx xs.length sz)] gc ge l hits misses wr)) (fun v _ => xs.length - (intOf v).toNat)
  case atStart => exact ⟨0, _, 0, 0, rfl, Nat.zero_le _, by omega, by omega, rfl, Lib.hid (List.length_replicate ..), HS⟩
  case round =>
    obtain ⟨k, l, hits, misses, rfl, hk, hh1, hh2, hh3, HL, HS⟩ := hrel
    have d0 := HS.out.frm.h0 (.head _)
    have d1 := HS.out.frm.h1 (.head _)
    have d2 := HS.out.frm.h2 (.head _)
    have a1 := HS.out.frm.a1 (.tail _ (.head _))
    by_cases hlt : k < xs.length
    · obtain ⟨ad, rfl, hak⟩ := aks_at HRX.out k hlt
      obtain ⟨⟨qc, qs, qf, qo⟩, hq⟩ : ∃ q, q = ak xs k := ⟨_, rfl⟩
      rw [← hq] at hak
      have HAK := Lib.hid hak
      clear hak hq
      have q0 := (HAK.out.below HS.out.frm.below).c0
      have q1 := (HAK.out.below HS.out.frm.below).c1
      have hn : 0 < l.length := by have := HL.out; omega
      have hm : l.length ≤ 64 := by have := HL.out; omega
      obtain ⟨⟨rm, ra, re⟩, hr1⟩ : ∃ r, resF h qc qs l = r := ⟨_, rfl⟩
      obtain ⟨l1, hl1⟩ : ∃ x, entF h qc qs l = x := ⟨_, rfl⟩
      have hll : l1.length = l.length := by rw [← hl1, ent_len]
      obtain ⟨n1, hN1⟩ : ∃ x, hitF qc qs l hits = x := ⟨_, rfl⟩
      obtain ⟨m1, hM1⟩ : ∃ x, misF qc qs l misses = x := ⟨_, rfl⟩
      have hsum : n1 + m1 = hits + misses + 1 ∧ 0 ≤ n1 ∧ 0 ≤ m1 := by
        rcases hit_one qc qs l hits misses with ⟨x1, x2, _⟩ | ⟨x1, x2, _⟩ <;> omega
      obtain ⟨hs1, hs2, hs3⟩ := hsum
      have F1 : ∀ W, S1 w [(w.heap.size, hObj A cp h), (w.heap.size + 1, aObj (some ad) cx xs.length sz)] gc ge l hits misses W → Calls Try.prog 25 #[.pointer (some ⟨gc, 0, none⟩), .agg #[.slice A h.objs.length cp, .int .i64 h.cap, .int .i64 h.last], .int .i64 qc, .int .i64 qs] W fun e W1 => e = .returned (.tuple #[.int .i64 rm, .int .i64 ra, .int .i64 re]) ∧ S1 w [(w.heap.size, hObj A cp h), (w.heap.size + 1, aObj (some ad) cx xs.length sz)] gc ge l1 n1 m1 W1 := by
        intro W k
        have := s1_Find qc qs A cp h HI.out hl HR.out hn hm k (by omega) (by omega)
        rw [hr1, hl1, hN1, hM1] at this
        exact this
      have F2 : ∃ (r2 : Int × Int × Int) (l2 : List En), l2.length = l.length ∧ ∀ W, S1 w [(w.heap.size, hObj A cp h), (w.heap.size + 1, aObj (some ad) cx xs.length sz)] gc ge (List.replicate l1.length eZ) n1 m1 W → Calls Try.prog 25 #[.pointer (some ⟨gc, 0, none⟩), .agg #[.slice A h.objs.length cp, .int .i64 h.cap, .int .i64 h.last], .int .i64 qc, .int .i64 qs] W fun e W1 => e = .returned (.tuple #[.int .i64 r2.1, .int .i64 r2.2.1, .int .i64 r2.2.2]) ∧ S1 w [(w.heap.size, hObj A cp h), (w.heap.size + 1, aObj (some ad) cx xs.length sz)] gc ge l2 n1 (m1 + 1) W1 := by
        refine ⟨resF h qc qs (List.replicate l1.length eZ), entF h qc qs (List.replicate l1.length eZ), by rw [ent_len, List.length_replicate, hll], ?_⟩
        intro W k
        have := s1_Find qc qs A cp h HI.out hl HR.out (by rw [List.length_replicate]; omega) (by rw [List.length_replicate]; omega) k (by omega) (by omega)
        rcases hit_one qc qs (List.replicate l1.length eZ) n1 m1 with ⟨_, _, x3⟩ | ⟨y1, y2, _⟩
        · rw [hit_zero] at x3; cases x3
        · rw [y1, y2] at this
          exact this
      obtain ⟨⟨r21, r22, r23⟩, l2, hl2, F2⟩ := F2
      have FLU : 0 < l1.length := by omega
      have HF1 := Lib.hid F1
      have HF2 := Lib.hid F2
      have HL2 := Lib.hid (hl2.trans HL.out)
      have HLL := Lib.hid hll
      clear F1 F2 hr1 hl1 hN1 hM1 hl2 hll
      have hk30 : (k : Int) < 30 := by omega
      go_upto_region 9 with (fail)
      go_region_held3 (fun w' => w'.cell? ⟨w.heap.size, 0, none⟩ = some (.slice A h.objs.length cp) ∧ w'.cell? ⟨w.heap.size, 1, none⟩ = some (.int .i64 h.cap) ∧ w'.cell? ⟨w.heap.size, 2, none⟩ = some (.int .i64 h.last) ∧ w'.cell? ⟨w.heap.size + 1, 1, none⟩ = some (.slice (some ad) xs.length cx) ∧ w'.cell? (ad.add (k * 4)) = some (.int .i64 qc) ∧ w'.cell? ⟨(ad.add (k * 4)).block, (ad.add (k * 4)).off + 1, none⟩ = some (.int .i64 qs))
          (first | exact ⟨d0, d1, d2, a1, q0, q1⟩ | exact ⟨d0', d1', d2', a1', q0', q1'⟩)
          (first | (go_at_call 25; refine (HF1.out _ (HS.out.later (by first | exact Below.refl _ _ | exact (Below.refl _ _).drew))).mono ?_; rintro e w6 ⟨rfl, k1⟩; replace HS := Lib.hid k1; clear k1; have d0' := HS.out.frm.h0 (.head _); have d1' := HS.out.frm.h1 (.head _); have d2' := HS.out.frm.h2 (.head _); have a1' := HS.out.frm.a1 (.tail _ (.head _)); have q0' := (HAK.out.below HS.out.frm.below).c0; have q1' := (HAK.out.below HS.out.frm.below).c1))
      go_upto_region 13 with (first | (go_at_call 27; refine (s1_Hits HS.out).mono ?_; rintro e w6 ⟨rfl, k1⟩; replace HS := Lib.hid k1; clear k1; have d0 := HS.out.frm.h0 (.head _); have d1 := HS.out.frm.h1 (.head _); have d2 := HS.out.frm.h2 (.head _); have a1 := HS.out.frm.a1 (.tail _ (.head _)); have q0 := (HAK.out.below HS.out.frm.below).c0; have q1 := (HAK.out.below HS.out.frm.below).c1) | (go_at_call 23; refine (s1_Flush FLU HS.out).mono ?_; rintro e w6 ⟨rfl, k1⟩; replace HS := Lib.hid k1; clear k1; have d0 := HS.out.frm.h0 (.head _); have d1 := HS.out.frm.h1 (.head _); have d2 := HS.out.frm.h2 (.head _); have a1 := HS.out.frm.a1 (.tail _ (.head _)); have q0 := (HAK.out.below HS.out.frm.below).c0; have q1 := (HAK.out.below HS.out.frm.below).c1))
      go_region_held3 (fun w' => w'.cell? ⟨w.heap.size, 0, none⟩ = some (.slice A h.objs.length cp) ∧ w'.cell? ⟨w.heap.size, 1, none⟩ = some (.int .i64 h.cap) ∧ w'.cell? ⟨w.heap.size, 2, none⟩ = some (.int .i64 h.last) ∧ w'.cell? ⟨w.heap.size + 1, 1, none⟩ = some (.slice (some ad) xs.length cx) ∧ w'.cell? (ad.add (k * 4)) = some (.int .i64 qc) ∧ w'.cell? ⟨(ad.add (k * 4)).block, (ad.add (k * 4)).off + 1, none⟩ = some (.int .i64 qs))
          (first | exact ⟨d0, d1, d2, a1, q0, q1⟩ | exact ⟨d0', d1', d2', a1', q0', q1'⟩)
          (first | (go_at_call 25; refine (HF2.out _ (HS.out.later (by first | exact Below.refl _ _ | exact (Below.refl _ _).drew))).mono ?_; rintro e w6 ⟨rfl, k1⟩; replace HS := Lib.hid k1; clear k1; have d0' := HS.out.frm.h0 (.head _); have d1' := HS.out.frm.h1 (.head _); have d2' := HS.out.frm.h2 (.head _); have a1' := HS.out.frm.a1 (.tail _ (.head _)); have q0' := (HAK.out.below HS.out.frm.below).c0; have q1' := (HAK.out.below HS.out.frm.below).c1))
      go_wp2_with (first | (go_at_call 27; refine (s1_Hits HS.out).mono ?_; rintro e w6 ⟨rfl, k1⟩; replace HS := Lib.hid k1; clear k1; have d0 := HS.out.frm.h0 (.head _); have d1 := HS.out.frm.h1 (.head _); have d2 := HS.out.frm.h2 (.head _); have a1 := HS.out.frm.a1 (.tail _ (.head _)); have q0 := (HAK.out.below HS.out.frm.below).c0; have q1 := (HAK.out.below HS.out.frm.below).c1))
      go_roundw
      case rel => exact ⟨k + 1, l2, _, _, by go_num, by omega, by omega, by omega, by omega, HL2, HS⟩
      case measure => simp [intOf]; omega
    · go_wp2
      go_ret
      exact ⟨rfl, HS.out.frm.below⟩
end Go.Proofs.Ytgdobomofdenfaa.Lk
