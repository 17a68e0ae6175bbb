/- The document's Find tells what look's Find tells. -/
import Derived.Test.YtgdobomofdenfaaLkUnderB
namespace Go.Proofs.Ytgdobomofdenfaa.Lk
open Go.RowKit Go.Proofs.YtgdobomofdenfaaW.PrintWords Go.Shelf
set_option linter.unusedVariables false
set_option linter.unusedSimpArgs false

theorem super_zero {l : List Ob} {c : Int} (h : classB l c = true) : superI l c = 0 ↔ atI (superI l c) = 0 := by
  have h3 := (class_facts h).2.2
  unfold refI at h3
  split at h3
  · rename_i hc
    have := of_decide_eq_true hc.1
    unfold atI
    rw [if_pos this]
    omega
  · omega

set_option maxRecDepth 100000 in
set_option maxHeartbeats 4000000 in
theorem r9_find_step (A : Option Addr) (cp : Nat) (h : Hp) (sel : Int) (hm : mayB h = true) (hl : h.objs.length ≤ cp) (k : Nat) (hk : k ≤ 63)
    (ih : ∀ k', k' + 1 = k → ∀ (c : Int) (w : World), kOb.C w A h.objs.length h.objs → Calls Try.prog 43 #[.agg #[.slice A h.objs.length cp, .int .i64 h.cap, .int .i64 h.last], .int .i64 c, .int .i64 sel, .int .i64 ((k' : Int) + 1)] w fun e w' =>
      e = .returned (.tuple #[.int .i64 (findL h.objs sel (upL h.objs (k' + 1) c)).1, .int .i64 (findL h.objs sel (upL h.objs (k' + 1) c)).2.1, .int .i64 (findL h.objs sel (upL h.objs (k' + 1) c)).2.2]) ∧ Below w.heap.size w w')
    (c : Int) (w : World) (hr : kOb.C w A h.objs.length h.objs) :
    Calls Try.prog 43 #[.agg #[.slice A h.objs.length cp, .int .i64 h.cap, .int .i64 h.last], .int .i64 c, .int .i64 sel, .int .i64 ((k : Int) + 1)] w fun e w' =>
      e = .returned (.tuple #[.int .i64 (findL h.objs sel (upL h.objs (k + 1) c)).1, .int .i64 (findL h.objs sel (upL h.objs (k + 1) c)).2.1, .int .i64 (findL h.objs sel (upL h.objs (k + 1) c)).2.2]) ∧ Below w.heap.size w w' := by
  have hu24 := Try.underlying24
  have hu34 := Try.underlying34
  have hmx := Kd.C_max hr
  have HM := Lib.hid hm
  have HT := Lib.hid (HpAt.first (cp := cp) hr)
  have HIH := Lib.hid ih
  have fin : ∀ a b e : Int, findL h.objs sel (upL h.objs (k + 1) c) = (a, b, e) → Ending.returned (.tuple #[.int .i64 a, .int .i64 b, .int .i64 e]) = .returned (.tuple #[.int .i64 (findL h.objs sel (upL h.objs (k + 1) c)).1, .int .i64 (findL h.objs sel (upL h.objs (k + 1) c)).2.1, .int .i64 (findL h.objs sel (upL h.objs (k + 1) c)).2.2]) := fun a b e he => by rw [he]
  have FIN := Lib.hid fin
  clear hr hm ih fin
  cases hc : classB h.objs c
  · have HC := Lib.hid hc
    clear hc
    go_enter Try.func43, Try.ntmps43
    go_wp2_with (go_at_call 16; refine (r9_class A cp h c _ HM.out hl HT.out.row).mono ?_; rintro e w2 ⟨he, hb⟩; rw [HC.out] at he; subst he; replace HT := Lib.hid (HT.out.next hb); clear hb; have d0 := HT.out.c0; have d1 := HT.out.c1; have d2 := HT.out.c2)
    go_ret3
    exact ⟨FIN.out _ _ _ (by rw [upL_not k HC.out]; rfl), HT.out.below⟩
  · have HC := Lib.hid hc
    clear hc
    go_enter Try.func43, Try.ntmps43
    go_upto_region 3 with (go_at_call 16; refine (r9_class A cp h c _ HM.out hl HT.out.row).mono ?_; rintro e w2 ⟨he, hb⟩; rw [HC.out] at he; subst he; replace HT := Lib.hid (HT.out.next hb); clear hb; have d0 := HT.out.c0; have d1 := HT.out.c1; have d2 := HT.out.c2)
    obtain ⟨f1, f2, f3⟩ := class_facts HC.out
    have f4 := (refI_bd h.objs.length c).2
    have f5 : (refI h.objs.length c).toNat < h.objs.length := by omega
    obtain ⟨ad, A2, c2, rfl, hob⟩ := obs_at HT.out.row0 _ f5
    have HQ := Lib.hid (RdAt.mk HT.out hob)
    clear hob
    have y0 := HQ.out.ob.c0
    have y1 := HQ.out.ob.c1
    have y2 := HQ.out.ob.c2
    have y3 := HQ.out.ob.c3
    have y4 := HQ.out.ob.c4
    have y5 := HQ.out.ob.c5
    have FX : ∀ W W', Below w2.heap.size w2 W → Below W.heap.size W W' → RdAt w (some ad) cp w.heap.size h (ad.add ((refI h.objs.length c).toNat * 6)) (ob h.objs (refI h.objs.length c).toNat) A2 c2 W' := fun W W' k1 k2 => (HQ.out.next k1).next k2
    have x0 := cell_on y0; have x1 := cell_on y1; have x2 := cell_on y2; have x3 := cell_on y3; have x4 := cell_on y4; have x5 := cell_on y5
    have t0 := cell_on d0; have t1 := cell_on d1; have t2 := cell_on d2
    have HN := Lib.hid (And.intro HT.out.below.size (Nat.ne_of_lt HT.out.in_))
    go_cut [11] (fun p wx => ∃ g, p = .pointer (some ⟨g, 0, none⟩) ∧ Hid (HasOb w (some ad) cp w.heap.size h g (ob h.objs (refI h.objs.length c).toNat) A2 c2 wx))
    case first =>
      go_region_with (go_at_call 17; refine (r3_Ref _ _ _ _ _ _ _ hmx).mono ?_; rintro e w3 ⟨rfl, hb⟩; have hq := FX _ w3 (by first | exact Below.refl _ _ | exact (Below.refl _ _).drew | exact (Below.refl _ _).alloc (Nat.le_refl _) _ | exact ((Below.refl _ _).alloc (Nat.le_refl _) _).drew) hb; have e0 := hq.hp.c0; have e1 := hq.hp.c1; have e2 := hq.hp.c2; have q0 := hq.ob.c0; have q1 := hq.ob.c1; have q2 := hq.ob.c2; have q3 := hq.ob.c3; have q4 := hq.ob.c4; have q5 := hq.ob.c5; have a0 := cell_on q0; have a1 := cell_on q1; have a2 := cell_on q2; have a3 := cell_on q3; have a4 := cell_on q4; have a5 := cell_on q5; have b0 := cell_on e0; have b1 := cell_on e1; have b2 := cell_on e2; have HH := Lib.hid hq; clear hq; (first | (have k1 := (hb.block w2.heap.size (by simp)).trans (heap_alloc_new w2 _); have z0 := cellof k1 0; have z1 := cellof k1 1; have z2 := cellof k1 2; have z3 := cellof k1 3; have z4 := cellof k1 4; have z5 := cellof k1 5; have r0 := blk_frozen k1 0; have r1 := blk_frozen k1 1; have r2 := blk_frozen k1 2; have r3 := blk_frozen k1 3; have r4 := blk_frozen k1 4; have r5 := blk_frozen k1 5; have K1 := Lib.hid k1; clear k1) | skip); clear hb)
      all_goals (go_wp2_with fail; go_meet)
      all_goals
        case rel => first | (have K := K1.out; exact ⟨_, rfl, Lib.hid (has_set HH.out K HN.out.1 HN.out.2)⟩) | exact ⟨_, rfl, Lib.hid (has_new HH.out)⟩
    case rest =>
      obtain ⟨g, rfl, HO⟩ := hcut
      clear HQ FX HT HN y0 y1 y2 y3 y4 y5 x0 x1 x2 x3 x4 x5 t0 t1 t2 d0 d1 d2
      have d0 := HO.out.1.c0
      have d1 := HO.out.1.c1
      have d2 := HO.out.1.c2
      have g2 := HO.out.2.1.c2
      have HRD := Lib.hid HO.out.2.1.rd
      obtain ⟨o, ho⟩ : ∃ o, o = ob h.objs (refI h.objs.length c).toNat := ⟨_, rfl⟩
      have hsup : superI h.objs c = o.slots.getD 0 0 := by rw [ho]; rfl
      have hdic : dictI h.objs c = o.slots.getD 1 0 := by rw [ho]; rfl
      have f2' : 3 ≤ o.slots.length := by rw [ho]; exact f2
      rw [← ho] at HO HRD g2
      obtain ⟨ad2, rfl, hs1⟩ := ints_at HRD.out 1 (by omega)
      obtain ⟨ad2', hA2, hs0⟩ := ints_at HRD.out 0 (by omega)
      obtain rfl : ad2 = ad2' := by injection hA2
      have hs1' : wc.cell? ⟨ad2.block, ad2.off + 1, none⟩ = some (.int .i64 (dictI h.objs c)) := by rw [hdic]; exact hs1
      have hs0' : wc.cell? ad2 = some (.int .i64 (superI h.objs c)) := by rw [hsup]; exact hs0
      obtain ⟨d, hd⟩ : ∃ d, d = dictI h.objs c := ⟨_, rfl⟩
      rw [← hd] at hs1'
      have HS0 := Lib.hid hs0'
      have HS1 := Lib.hid hs1'
      have HD := Lib.hid hd
      clear hs0 hs0' hs1 hs1' hsup hdic hd ho hA2
      obtain ⟨A3, c3, hle3, hrd3, hpp⟩ := r9_pairs_any (some ad) cp h.objs h.cap h.last d wc hl HO.out.1.row
      have hpl := pairs_len HM.out d
      obtain ⟨l3, hl3⟩ : ∃ l3, l3 = pairsL h.objs d := ⟨_, rfl⟩
      rw [← hl3] at hle3 hrd3 hpp hpl
      have HL3 := Lib.hid hl3
      have HR3 := Lib.hid hrd3
      have HPP := Lib.hid hpp
      clear hl3 hrd3 hpp
      go_wp2
      have v0 := fun x : Ext wc => x.cell d0
      have v1 := fun x : Ext wc => x.cell d1
      have v2 := fun x : Ext wc => x.cell d2
      have v3 := fun x : Ext wc => x.cell g2
      have v4 := fun x : Ext wc => x.cell HS1.out
      refine wp_region_ext (by kernel_rfl) (by kernel_rfl) ?_
      repeat (go_big_quiet_step ((go_at_call 38; exact calls_ext (HPP.out _ (Ext.below _)))))
      refine wpQuiet_nil ?_
      rintro _ ⟨x, rfl⟩
      clear v0 v1 v2 v3 v4 d0 d1 d2
      replace HO := Lib.hid (HO.out.next x.below)
      replace HR3 := Lib.hid (Kd.C_below HR3.out x.below)
      replace HS0 := Lib.hid (x.cell HS0.out)
      go_wp2
      go_loopw [14] (fun u wr => ∃ i : Nat, u = .int .i64 i ∧ i ≤ l3.length ∧ Hid (lookP (l3.drop i) sel = lookP l3 sel) ∧ Hid (HasOb w (some ad) cp w.heap.size h g o (some ad2) c2 wr) ∧ Hid (Below x.val.heap.size x.val wr)) (fun u _ => l3.length - (intOf u).toNat)
      case atStart => exact ⟨0, rfl, Nat.zero_le _, Lib.hid rfl, HO, Lib.hid (Below.refl _ _)⟩
      case round =>
        obtain ⟨i, rfl, hi3, HL, HW, HB⟩ := hrel
        by_cases hlt : i + 1 < l3.length
        · obtain ⟨ad3, rfl, hs0⟩ := ints_at HR3.out i (by omega)
          obtain ⟨ad4, he4, hs1⟩ := ints_at HR3.out (i + 1) hlt
          obtain rfl : ad3 = ad4 := by injection he4
          obtain ⟨s, hsv⟩ : ∃ s, s = l3.getD i 0 := ⟨_, rfl⟩
          obtain ⟨v', hvv⟩ : ∃ v', v' = l3.getD (i + 1) 0 := ⟨_, rfl⟩
          rw [← hsv] at hs0
          rw [← hvv] at hs1
          have hs0 := pw_cell_below HB.out hs0
          have hs1 : wr.cell? ⟨ad3.block, ad3.off + (i + 1), none⟩ = some (.int .i64 v') := pw_cell_below HB.out hs1
          have HSV := Lib.hid hsv
          have HVV := Lib.hid hvv
          clear hsv hvv he4
          by_cases hss : s = sel
          · have hss' : (s == sel) = true := beq_iff_eq.2 hss
            have HLK := Lib.hid (show lookP (pairsL h.objs (dictI h.objs c)) sel = some v' by rw [← HD.out, ← HL3.out, ← HL.out, lookP_here hlt (by rw [← HSV.out]; exact hss), HVV.out])
            clear hss
            go_wp2
            go_ret3
            exact ⟨FIN.out _ _ _ (by rw [upL_class k HC.out, findL_some _ HLK.out]), HW.out.1.below⟩
          · have hss' : (s == sel) = false := beq_eq_false_iff_ne.2 hss
            have HSS := Lib.hid hss
            clear hss
            go_wp2
            go_roundw
            case rel => exact ⟨i + 2, by go_num, by omega, Lib.hid (by rw [← HL.out, lookP_on hlt (by rw [← HSV.out]; exact HSS.out)]), HW, HB⟩
            case measure => simp [intOf]; omega
        · have hge : ¬ ((i : Int) + 1 < l3.length) := by omega
          have HK := Lib.hid (show lookP (pairsL h.objs (dictI h.objs c)) sel = none by rw [← HD.out, ← HL3.out, ← HL.out, lookP_end hlt])
          have d0 := HW.out.1.c0
          have d1 := HW.out.1.c1
          have d2 := HW.out.1.c2
          have g2 := HW.out.2.1.c2
          have z0 : wr.cell? ad2 = some (.int .i64 (superI h.objs c)) := pw_cell_below HB.out HS0.out
          by_cases hs : superI h.objs c = 0
          · have hsb : (superI h.objs c == 0) = true := beq_iff_eq.2 hs
            have HS := Lib.hid ((super_zero HC.out).1 hs)
            clear hs
            go_wp2
            go_ret3
            exact ⟨FIN.out _ _ _ (by rw [upL_class k HC.out, findL_none _ HK.out, if_pos HS.out]; rfl), HW.out.1.below⟩
          · have hsb : (superI h.objs c == 0) = false := beq_eq_false_iff_ne.2 hs
            have HS := Lib.hid (fun h0 => hs ((super_zero HC.out).2 h0))
            clear hs
            cases k with
            | zero =>
              have hk1 : (((0 : Nat) : Int) + 1 == 1) = true := rfl
              go_wp2
              go_ret3
              exact ⟨FIN.out _ _ _ (by rw [upL_class 0 HC.out, findL_none _ HK.out, if_neg HS.out]; rfl), HW.out.1.below⟩
            | succ k =>
              have hk1 : (((k + 1 : Nat) : Int) + 1 == 1) = false := by simp; omega
              have hk2 : IntKind.i64.wrap (((k + 1 : Nat) : Int) + 1 - 1) = (k : Int) + 1 := by rw [show ((k + 1 : Nat) : Int) + 1 - 1 = (k : Int) + 1 by omega]; exact IntWalk.i64_in _ (by omega)
              go_wp2
              have v0 := fun x : Ext wr => x.cell d0
              have v1 := fun x : Ext wr => x.cell d1
              have v2 := fun x : Ext wr => x.cell d2
              have v3 := fun x : Ext wr => x.cell g2
              have v4 := fun x : Ext wr => x.cell z0
              refine wp_region_ext (by kernel_rfl) (by kernel_rfl) ?_
              repeat (go_big_quiet_step ((go_at_call 43; exact calls_ext (HIH.out k rfl _ _ (Kd.C_below HW.out.1.row (Ext.below _))))))
              refine wpQuiet_nil ?_
              rintro _ ⟨y, rfl⟩
              clear v0 v1 v2 v3 v4
              go_wp2
              go_ret3
              exact ⟨FIN.out _ _ _ (by rw [upL_class (k + 1) HC.out, findL_none _ HK.out, if_neg HS.out]), (HW.out.next y.below).1.below⟩

theorem r9_find (A : Option Addr) (cp : Nat) (h : Hp) (sel : Int) (hm : mayB h = true) (hl : h.objs.length ≤ cp) : ∀ (k : Nat), k ≤ 63 → ∀ (c : Int) (w : World), kOb.C w A h.objs.length h.objs →
    Calls Try.prog 43 #[.agg #[.slice A h.objs.length cp, .int .i64 h.cap, .int .i64 h.last], .int .i64 c, .int .i64 sel, .int .i64 ((k : Int) + 1)] w fun e w' =>
      e = .returned (.tuple #[.int .i64 (findL h.objs sel (upL h.objs (k + 1) c)).1, .int .i64 (findL h.objs sel (upL h.objs (k + 1) c)).2.1, .int .i64 (findL h.objs sel (upL h.objs (k + 1) c)).2.2]) ∧ Below w.heap.size w w'
  | 0, hk, c, w, hr => r9_find_step A cp h sel hm hl 0 hk (fun k' e => by omega) c w hr
  | k + 1, hk, c, w, hr => r9_find_step A cp h sel hm hl (k + 1) hk (fun k' e c w hr => by have e2 : k' = k := (by omega); subst e2; exact r9_find A cp h sel hm hl _ (by omega) c w hr) c w hr

set_option maxRecDepth 100000 in
set_option maxHeartbeats 1000000 in
/-- The document's Find is look's. -/
theorem r9_Find (A : Option Addr) (cp : Nat) (h : Hp) (c sel : Int) (w : World) (hl : h.objs.length ≤ cp) (hr : kOb.C w A h.objs.length h.objs) :
    Calls Try.prog 28 #[.agg #[.slice A h.objs.length cp, .int .i64 h.cap, .int .i64 h.last], .int .i64 c, .int .i64 sel] w fun e w' =>
      e = .returned (.tuple #[.int .i64 (findI h c sel).1, .int .i64 (findI h c sel).2.1, .int .i64 (findI h c sel).2.2]) ∧ Below w.heap.size w w' := by
  have hu24 := Try.underlying24
  have hmx := Kd.C_max hr
  have HT := Lib.hid (HpAt.first (cp := cp) hr)
  clear hr
  cases hm : mayB h
  · have HM := Lib.hid hm
    have HF := Lib.hid (show findI h c sel = (0, 0, 1) by unfold findI; rw [if_neg (by rw [hm]; decide)])
    clear hm
    go_enter Try.func28, Try.ntmps28
    go_wp2_with (go_at_call 13; refine (r3_May A cp h _ hl HT.out.row).mono ?_; rintro e w2 ⟨he, hb⟩; rw [HM.out] at he; subst he; replace HT := Lib.hid (HT.out.next hb); clear hb; have d0 := HT.out.c0; have d1 := HT.out.c1; have d2 := HT.out.c2)
    go_ret3
    exact ⟨ret3 (by rw [HF.out]) (by rw [HF.out]) (by rw [HF.out]), HT.out.below⟩
  · have HM := Lib.hid hm
    have HF := Lib.hid (show findI h c sel = findL h.objs sel (upL h.objs 64 c) from if_pos hm)
    clear hm
    go_enter Try.func28, Try.ntmps28
    go_wp2_with (first
      | (go_at_call 13; refine (r3_May A cp h _ hl HT.out.row).mono ?_; rintro e w2 ⟨he, hb⟩; rw [HM.out] at he; subst he; replace HT := Lib.hid (HT.out.next hb); clear hb; have d0 := HT.out.c0; have d1 := HT.out.c1; have d2 := HT.out.c2)
      | (go_at_call 43; refine (r9_find A cp h sel HM.out hl 63 (Nat.le_refl _) c _ HT.out.row).mono ?_; rintro e w2 ⟨rfl, hb⟩; replace HT := Lib.hid (HT.out.next hb); clear hb; have d0 := HT.out.c0; have d1 := HT.out.c1; have d2 := HT.out.c2))
    go_ret3
    exact ⟨ret3 (by rw [HF.out]) (by rw [HF.out]) (by rw [HF.out]), HT.out.below⟩
end Go.Proofs.Ytgdobomofdenfaa.Lk
