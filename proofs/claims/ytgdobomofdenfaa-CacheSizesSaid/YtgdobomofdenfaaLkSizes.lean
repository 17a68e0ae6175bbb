/- Caches of any two sizes tell the same: the walk. -/
import Derived.Test.YtgdobomofdenfaaLkTells
import Derived.Deep.RegionHeld3
namespace Go.Proofs.Ytgdobomofdenfaa.Lk
open Go.RowKit Go.Proofs.YtgdobomofdenfaaW.PrintWords Go.Shelf
set_option linter.unusedVariables false
set_option linter.unusedSimpArgs false

theorem s2_New2 (sz : Int) {w0 : World} {bx : List (Nat × Obj)} {gc ge : Nat} {l : List En} {hits misses : Int} {W : World} (k : S1 w0 bx gc ge l hits misses W) (h1 : 1 ≤ sz) (h2 : sz ≤ 64) :
    Calls Try.prog 21 #[.int .i64 sz] W fun e W1 => ∃ gr gq, e = .returned (.pointer (some ⟨gr, 0, none⟩)) ∧ S2 73 81 w0 bx gc ge gr gq l hits misses (List.replicate sz.toNat eZ) 0 0 W1 := by
  refine (ca_NewI sz W h1 h2).mono ?_
  rintro e W1 ⟨rfl, c, hb⟩
  have h3 := k.ca.in_
  exact ⟨_, _, rfl, (k.frm.more [W.heap.size + 1, W.heap.size] (by simp) hb).sub (by simp), k.ca.next hb, c, by omega⟩

set_option maxRecDepth 100000 in
set_option maxHeartbeats 8000000 in
theorem sizes_walk (A : Option Addr) (cp : Nat) (h : Hp) (Ax : Option Addr) (cx : Nat) (sz : Int) (xs : List Ak) (s2 : Int) (w : World) (hbits : bitsOk h.objs) (hl : h.objs.length ≤ cp) (hr : kOb.C w A h.objs.length h.objs) (hlx : xs.length ≤ cx) (hrx : kAk.C w Ax xs.length xs) (hsz : inI sz) (hs2 : inI s2) :
    Calls Try.prog 9 #[.agg #[.slice A h.objs.length cp, .int .i64 h.cap, .int .i64 h.last], .agg #[.int .i64 sz, .slice Ax xs.length cx], .int .i64 s2] w fun e w' => e = .returned (.bool true) ∧ Below w.heap.size w w' := by
  have hu24 := Try.underlying24
  have hu42 := Try.underlying42
  have hu48 := Try.underlying48
  have hmx := Kd.C_max hr
  have hmy := Kd.C_max hrx
  have HI := Lib.hid hbits
  have HR := Lib.hid hr
  have HRX := Lib.hid hrx
  clear hr hbits hrx hsz
  go_enter Try.func9, Try.ntmps9
  go_upto_region 1 with (fail)
  refine wp_box2 (fun w1 hb hx1 hx2 hsz => ?_)
  have HF : Hid (Frm w [] [(w.heap.size, hObj A cp h), (w.heap.size + 1, aObj Ax cx xs.length sz)] w1) := Lib.hid (frm_first2 hb hx1 hx2)
  clear hb hx1 hx2 hsz
  have d0 := HF.out.h0 (.head _)
  have d1 := HF.out.h1 (.head _)
  have d2 := HF.out.h2 (.head _)
  have a0 := HF.out.a0 (.tail _ (.head _))
  have a1 := HF.out.a1 (.tail _ (.head _))
  go_wp2_with (first
    | (go_at_call 20; refine (law10_fixed _).mono ?_; rintro e w2 ⟨rfl, hb⟩; replace HF := Lib.hid (HF.out.later hb); clear hb; have d0 := HF.out.h0 (.head _); have d1 := HF.out.h1 (.head _); have d2 := HF.out.h2 (.head _); have a0 := HF.out.a0 (.tail _ (.head _)); have a1 := HF.out.a1 (.tail _ (.head _)))
    | (go_at_call 12; refine (r3_Small A cp h _ hl (HF.out.row HR.out)).mono ?_; rintro e w2 ⟨⟨b, rfl⟩, hb⟩; replace HF := Lib.hid (HF.out.later hb); clear hb; have d0 := HF.out.h0 (.head _); have d1 := HF.out.h1 (.head _); have d2 := HF.out.h2 (.head _); have a0 := HF.out.a0 (.tail _ (.head _)); have a1 := HF.out.a1 (.tail _ (.head _)); cases b)
    | (go_at_call_of 21 (Value.int .i64 sz); refine (s1_New sz HF.out (by omega) (by omega)).mono ?_; rintro e w3 ⟨gc, ge, rfl, k⟩; have HS := Lib.hid k; clear k)
    | (go_at_call_of 21 (Value.int .i64 s2); refine (s2_New2 s2 HS.out (by omega) (by omega)).mono ?_; rintro e w4 ⟨gr, gq, rfl, k⟩; replace HS := Lib.hid k; clear k HF))
  all_goals try (go_ret; exact ⟨rfl, HF.out.below⟩)
  clear d0 d1 d2 a0 a1
  go_loopw [9, 10] (fun u v wr => ∃ (k : Nat) (l l' : List En) (hits misses hits' misses' : Int), u = .int .i64 hits ∧ v = .int .i64 k ∧ k ≤ xs.length ∧ 0 ≤ hits ∧ 0 ≤ misses ∧ hits + misses ≤ k ∧ 0 ≤ hits' ∧ 0 ≤ misses' ∧ hits' + misses' ≤ k ∧ Hid (l.length = sz.toNat) ∧ Hid (l'.length = s2.toNat) ∧ Hid (Valid h l) ∧ Hid (Valid h l') ∧ Hid (S2 73 81 w [(w.heap.size, hObj A cp h), (w.heap.size + 1, aObj Ax cx xs.length sz)] gc ge gr gq l hits misses l' hits' misses' wr)) (fun _ v _ => xs.length - (intOf v).toNat)
  case atStart => exact ⟨0, _, _, 0, 0, 0, 0, rfl, rfl, Nat.zero_le _, by omega, by omega, by omega, by omega, by omega, by omega, Lib.hid (List.length_replicate ..), Lib.hid (List.length_replicate ..), Lib.hid (valid_zero _ _), Lib.hid (valid_zero _ _), HS⟩
  case round =>
    obtain ⟨k, l, l', hits, misses, hits', misses', rfl, rfl, hk, hh1, hh2, hh3, gg1, gg2, gg3, HL, HL', HV, HV', HS⟩ := hrel
    have d0 := HS.out.frm.h0 (.head _)
    have d1 := HS.out.frm.h1 (.head _)
    have d2 := HS.out.frm.h2 (.head _)
    have a1 := HS.out.frm.a1 (.tail _ (.head _))
    by_cases hlt : k < xs.length
    · obtain ⟨ad, rfl, hak⟩ := aks_at HRX.out k hlt
      obtain ⟨⟨qc, qs, qf, qo⟩, hq⟩ : ∃ q, q = ak xs k := ⟨_, rfl⟩
      rw [← hq] at hak
      have HAK := Lib.hid hak
      clear hak hq
      have q0 := (HAK.out.below HS.out.frm.below).c0
      have q1 := (HAK.out.below HS.out.frm.below).c1
      have hn : 0 < l.length := by have := HL.out; omega
      have hm : l.length ≤ 64 := by have := HL.out; omega
      have hn' : 0 < l'.length := by have := HL'.out; omega
      have hm' : l'.length ≤ 64 := by have := HL'.out; omega
      obtain ⟨⟨rm, ra, re⟩, hr1⟩ : ∃ r, findI h qc qs = r := ⟨_, rfl⟩
      have hb1 := hit_bd qc qs l hh1 hh2
      have hb2 := hit_bd qc qs l' gg1 gg2
      have hb3 : hits ≤ hitF qc qs l hits ∧ hitF qc qs l hits ≤ hits + 1 := by rcases hit_one qc qs l hits misses with ⟨x1, x2, _⟩ | ⟨x1, x2, _⟩ <;> omega
      obtain ⟨n1, hN1⟩ : ∃ x, hitF qc qs l hits = x := ⟨_, rfl⟩
      obtain ⟨m1, hM1⟩ : ∃ x, misF qc qs l misses = x := ⟨_, rfl⟩
      obtain ⟨n2, hN2⟩ : ∃ x, hitF qc qs l' hits' = x := ⟨_, rfl⟩
      obtain ⟨m2, hM2⟩ : ∃ x, misF qc qs l' misses' = x := ⟨_, rfl⟩
      have F1 : ∀ W, S2 73 81 w [(w.heap.size, hObj A cp h), (w.heap.size + 1, aObj (some ad) cx xs.length sz)] gc ge gr gq l hits misses l' hits' misses' W → Calls Try.prog 25 #[.pointer (some ⟨gc, 0, none⟩), .agg #[.slice A h.objs.length cp, .int .i64 h.cap, .int .i64 h.last], .int .i64 qc, .int .i64 qs] W fun e W1 => e = .returned (.tuple #[.int .i64 rm, .int .i64 ra, .int .i64 re]) ∧ S2 73 81 w [(w.heap.size, hObj A cp h), (w.heap.size + 1, aObj (some ad) cx xs.length sz)] gc ge gr gq (entF h qc qs l) n1 m1 l' hits' misses' W1 := by
        intro W k
        refine (s2_Find1 qc qs A cp h HI.out hl HR.out hn hm k (by omega) (by omega)).mono fun e W1 ⟨x1, x2, _⟩ => ?_
        rw [valid_res HV.out hn, hr1] at x1
        rw [hN1, hM1] at x2
        exact ⟨x1, x2⟩
      have F2 : ∀ W, S2 73 81 w [(w.heap.size, hObj A cp h), (w.heap.size + 1, aObj (some ad) cx xs.length sz)] gc ge gr gq (entF h qc qs l) n1 m1 l' hits' misses' W → Calls Try.prog 25 #[.pointer (some ⟨gr, 0, none⟩), .agg #[.slice A h.objs.length cp, .int .i64 h.cap, .int .i64 h.last], .int .i64 qc, .int .i64 qs] W fun e W1 => e = .returned (.tuple #[.int .i64 rm, .int .i64 ra, .int .i64 re]) ∧ S2 73 81 w [(w.heap.size, hObj A cp h), (w.heap.size + 1, aObj (some ad) cx xs.length sz)] gc ge gr gq (entF h qc qs l) n1 m1 (entF h qc qs l') n2 m2 W1 := by
        intro W k
        refine (s2_Find2 qc qs A cp h HI.out hl HR.out hn' hm' k (by omega) (by omega)).mono fun e W1 ⟨x1, x2, _⟩ => ?_
        rw [valid_res HV'.out hn', hr1] at x1
        rw [hN2, hM2] at x2
        exact ⟨x1, x2⟩
      rw [hN1, hM1] at hb1
      rw [hN2, hM2] at hb2
      rw [hN1] at hb3
      obtain ⟨b11, b12, b13⟩ := hb1
      obtain ⟨b21, b22, b23⟩ := hb2
      obtain ⟨b31, b32⟩ := hb3
      have HF1 := Lib.hid F1
      have HF2 := Lib.hid F2
      clear F1 F2 hr1 hN1 hM1 hN2 hM2
      have hk30 : (k : Int) < 30 := by omega
      go_upto_region 10 with (fail)
      go_region_held3 (fun w' => w'.cell? ⟨w.heap.size, 0, none⟩ = some (.slice A h.objs.length cp) ∧ w'.cell? ⟨w.heap.size, 1, none⟩ = some (.int .i64 h.cap) ∧ w'.cell? ⟨w.heap.size, 2, none⟩ = some (.int .i64 h.last) ∧ w'.cell? ⟨w.heap.size + 1, 1, none⟩ = some (.slice (some ad) xs.length cx) ∧ w'.cell? (ad.add (k * 4)) = some (.int .i64 qc) ∧ w'.cell? ⟨(ad.add (k * 4)).block, (ad.add (k * 4)).off + 1, none⟩ = some (.int .i64 qs))
          (first | exact ⟨d0, d1, d2, a1, q0, q1⟩ | exact ⟨d0', d1', d2', a1', q0', q1'⟩)
          (first | (go_at_call 25; refine (HF1.out _ (HS.out.later (by first | exact Below.refl _ _ | exact (Below.refl _ _).drew))).mono ?_; rintro e w6 ⟨rfl, k1⟩; replace HS := Lib.hid k1; clear k1; have d0' := HS.out.frm.h0 (.head _); have d1' := HS.out.frm.h1 (.head _); have d2' := HS.out.frm.h2 (.head _); have a1' := HS.out.frm.a1 (.tail _ (.head _)); have q0' := (HAK.out.below HS.out.frm.below).c0; have q1' := (HAK.out.below HS.out.frm.below).c1))
      go_upto_region 11 with (fail)
      have d0 := d0'; have d1 := d1'; have d2 := d2'; have a1 := a1'; have q0 := q0'; have q1 := q1'
      go_region_held3 (fun w' => w'.cell? ⟨w.heap.size, 0, none⟩ = some (.slice A h.objs.length cp) ∧ w'.cell? ⟨w.heap.size, 1, none⟩ = some (.int .i64 h.cap) ∧ w'.cell? ⟨w.heap.size, 2, none⟩ = some (.int .i64 h.last) ∧ w'.cell? ⟨w.heap.size + 1, 1, none⟩ = some (.slice (some ad) xs.length cx) ∧ w'.cell? (ad.add (k * 4)) = some (.int .i64 qc) ∧ w'.cell? ⟨(ad.add (k * 4)).block, (ad.add (k * 4)).off + 1, none⟩ = some (.int .i64 qs))
          (first | exact ⟨d0, d1, d2, a1, q0, q1⟩ | exact ⟨d0', d1', d2', a1', q0', q1'⟩)
          (first | (go_at_call 25; refine (HF2.out _ (HS.out.later (by first | exact Below.refl _ _ | exact (Below.refl _ _).drew))).mono ?_; rintro e w6 ⟨rfl, k1⟩; replace HS := Lib.hid k1; clear k1; have d0' := HS.out.frm.h0 (.head _); have d1' := HS.out.frm.h1 (.head _); have d2' := HS.out.frm.h2 (.head _); have a1' := HS.out.frm.a1 (.tail _ (.head _)); have q0' := (HAK.out.below HS.out.frm.below).c0; have q1' := (HAK.out.below HS.out.frm.below).c1))
      go_wp2_with (first | (go_at_call 27; refine (s2_Hits1 HS.out).mono ?_; rintro e w6 ⟨rfl, k1⟩; replace HS := Lib.hid k1; clear k1; have d0 := HS.out.frm.h0 (.head _); have d1 := HS.out.frm.h1 (.head _); have d2 := HS.out.frm.h2 (.head _); have a1 := HS.out.frm.a1 (.tail _ (.head _)); have q0 := (HAK.out.below HS.out.frm.below).c0; have q1 := (HAK.out.below HS.out.frm.below).c1))
      go_roundw
      case rel => exact ⟨k + 1, _, _, _, _, _, _, rfl, by go_num, by omega, by omega, by omega, by omega, by omega, by omega, by omega, Lib.hid (by rw [ent_len]; exact HL.out), Lib.hid (by rw [ent_len]; exact HL'.out), Lib.hid (valid_ent HV.out qc qs), Lib.hid (valid_ent HV'.out qc qs), HS⟩
      case measure => simp [intOf]; omega
    · go_wp2
      go_ret
      exact ⟨rfl, HS.out.frm.below⟩
end Go.Proofs.Ytgdobomofdenfaa.Lk
