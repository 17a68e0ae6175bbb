/- The first law's walk: where something is found. -/
import Derived.Test.YtgdobomofdenfaaLkHidesA
namespace Go.Proofs.Ytgdobomofdenfaa.Lk
open Go.RowKit Go.Proofs.YtgdobomofdenfaaW.PrintWords Go.Shelf
set_option linter.unusedVariables false
set_option linter.unusedSimpArgs false

set_option maxRecDepth 100000 in
set_option maxHeartbeats 4000000 in
theorem hides_d (A : Option Addr) (cp : Nat) (h : Hp) (c sel : Int) (w : World) (hbits : bitsOk h.objs) (hl : h.objs.length ≤ cp) (hr : kOb.C w A h.objs.length h.objs) (hm : mayB h = true) (hn : ¬ (40 : Int) < (h.objs.length : Int)) (v at' : Int) (hf : findI h c sel = (v, at', 0)) (hu : underB h c at' = true) :
    Calls Try.prog 3 #[.agg #[.slice A h.objs.length cp, .int .i64 h.cap, .int .i64 h.last], .int .i64 c, .int .i64 sel] w fun e w' => e = .returned (.bool true) ∧ Below w.heap.size w w' := by
  have hu24 := Try.underlying24
  have hu34 := Try.underlying34
  have hmx := Kd.C_max hr
  have HM := Lib.hid hm
  have HI := Lib.hid hbits
  have HT := Lib.hid (HpAt.first (cp := cp) hr)
  clear hr hbits
  have HF := Lib.hid hf
  have HU := Lib.hid hu
  clear hf hu
  go_enter Try.func3, Try.ntmps3
  go_wp2_with (first
    | (go_at_call 11; refine (law_fixed _).mono ?_; rintro e w2 ⟨rfl, hb⟩; replace HT := Lib.hid (HT.out.next hb); clear hb; have d0 := HT.out.c0; have d1 := HT.out.c1; have d2 := HT.out.c2)
    | (go_at_call 12; refine (r3_Small A cp h _ hl HT.out.row).mono ?_; rintro e w2 ⟨⟨b, rfl⟩, hb⟩; replace HT := Lib.hid (HT.out.next hb); clear hb; have d0 := HT.out.c0; have d1 := HT.out.c1; have d2 := HT.out.c2; cases b)
    | (go_at_call 13; refine (r3_May A cp h _ hl HT.out.row).mono ?_; rintro e w2 ⟨he, hb⟩; rw [HM.out] at he; subst he; replace HT := Lib.hid (HT.out.next hb); clear hb; have d0 := HT.out.c0; have d1 := HT.out.c1; have d2 := HT.out.c2)
    | (go_at_call 14; refine (look_Find A cp h c sel _ HI.out hl HT.out.row).mono ?_; rintro e w2 ⟨he, hb⟩; rw [HF.out] at he; subst he; replace HT := Lib.hid (HT.out.next hb); clear hb; have d0 := HT.out.c0; have d1 := HT.out.c1; have d2 := HT.out.c2)
    | (go_at_call 15; refine (look_Under A cp h c at' _ HI.out hl HT.out.row).mono ?_; rintro e w2 ⟨he, hb⟩; rw [HU.out] at he; subst he; replace HT := Lib.hid (HT.out.next hb); clear hb; have d0 := HT.out.c0; have d1 := HT.out.c1; have d2 := HT.out.c2))
  all_goals try (go_ret; exact ⟨rfl, HT.out.below⟩)
  go_loopg [1, 10] 64 (fun k u x wr => ∃ (cc : Int) (n : Nat), n + k = 64 ∧ u = .int .i64 cc ∧ x = .int .i64 n ∧ Hid (findL h.objs sel (upL h.objs k cc) = (v, at', 0)) ∧ Hid (HpAt w A cp w.heap.size h wr))
  case atStart => exact ⟨c, 0, rfl, rfl, rfl, Lib.hid (by have := HF.out; unfold findI at this; rwa [if_pos hm] at this), HT⟩
  case round =>
    obtain ⟨cc, n, hk, rfl, rfl, HG, HT⟩ := hrel
    obtain ⟨m, rfl⟩ : ∃ m, gk = m + 1 := by
      cases gk with
      | zero => exact absurd HG.out (by unfold upL findL; intro h; injection h with _ h; injection h with _ h; cases h)
      | succ m => exact ⟨m, rfl⟩
    have hcl : classB h.objs cc = true := by
      cases hb : classB h.objs cc with
      | true => rfl
      | false =>
        have := HG.out
        rw [upL_not m hb, findL_bad] at this
        injection this with _ h; injection h with _ h; cases h
    have HC := Lib.hid hcl
    have hmy : (mayB h && classB h.objs cc) = true := by rw [hm, hcl]; rfl
    have HY := Lib.hid hmy
    have d0 := HT.out.c0
    have d1 := HT.out.c1
    have d2 := HT.out.c2
    have hn1 : (n : Int) < 64 := by omega
    clear hcl hmy
    go_upto_region 13 with (first
      | (go_at_call 16; refine (r9_May A cp h cc _ hl HT.out.row).mono ?_; rintro e w2 ⟨he, hb⟩; rw [HY.out] at he; subst he; replace HT := Lib.hid (HT.out.next hb); clear hb; have d0 := HT.out.c0; have d1 := HT.out.c1; have d2 := HT.out.c2))
    obtain ⟨f1, f2, f3⟩ := class_facts HC.out
    have f4 := (refI_bd h.objs.length cc).2
    have f5 : (refI h.objs.length cc).toNat < h.objs.length := by omega
    obtain ⟨ad, A2, c2, rfl, hob⟩ := obs_at HT.out.row0 _ f5
    have HQ := Lib.hid (RdAt.mk HT.out hob)
    clear hob
    have y0 := HQ.out.ob.c0
    have y1 := HQ.out.ob.c1
    have y2 := HQ.out.ob.c2
    have y3 := HQ.out.ob.c3
    have y4 := HQ.out.ob.c4
    have y5 := HQ.out.ob.c5
    have FX : ∀ W W', Below w2.heap.size w2 W → Below W.heap.size W W' → RdAt w (some ad) cp w.heap.size h (ad.add ((refI h.objs.length cc).toNat * 6)) (ob h.objs (refI h.objs.length cc).toNat) A2 c2 W' := fun W W' k1 k2 => (HQ.out.next k1).next k2
    have x0 := cell_on y0; have x1 := cell_on y1; have x2 := cell_on y2; have x3 := cell_on y3; have x4 := cell_on y4; have x5 := cell_on y5
    have t0 := cell_on d0; have t1 := cell_on d1; have t2 := cell_on d2
    have HN := Lib.hid (And.intro HT.out.below.size (Nat.ne_of_lt HT.out.in_))
    go_cut [11] (fun p wx => ∃ g, p = .pointer (some ⟨g, 0, none⟩) ∧ Hid (HasOb w (some ad) cp w.heap.size h g (ob h.objs (refI h.objs.length cc).toNat) A2 c2 wx))
    case first =>
      go_region_with (go_at_call 17; refine (r3_Ref _ _ _ _ _ _ _ hmx).mono ?_; rintro e w3 ⟨rfl, hb⟩; have hq := FX _ w3 (by first | exact Below.refl _ _ | exact (Below.refl _ _).drew | exact (Below.refl _ _).alloc (Nat.le_refl _) _ | exact ((Below.refl _ _).alloc (Nat.le_refl _) _).drew) hb; have e0 := hq.hp.c0; have e1 := hq.hp.c1; have e2 := hq.hp.c2; have q0 := hq.ob.c0; have q1 := hq.ob.c1; have q2 := hq.ob.c2; have q3 := hq.ob.c3; have q4 := hq.ob.c4; have q5 := hq.ob.c5; have a0 := cell_on q0; have a1 := cell_on q1; have a2 := cell_on q2; have a3 := cell_on q3; have a4 := cell_on q4; have a5 := cell_on q5; have b0 := cell_on e0; have b1 := cell_on e1; have b2 := cell_on e2; have HH := Lib.hid hq; clear hq; (first | (have k1 := (hb.block w2.heap.size (by simp)).trans (heap_alloc_new w2 _); have z0 := cellof k1 0; have z1 := cellof k1 1; have z2 := cellof k1 2; have z3 := cellof k1 3; have z4 := cellof k1 4; have z5 := cellof k1 5; have r0 := blk_frozen k1 0; have r1 := blk_frozen k1 1; have r2 := blk_frozen k1 2; have r3 := blk_frozen k1 3; have r4 := blk_frozen k1 4; have r5 := blk_frozen k1 5; have K1 := Lib.hid k1; clear k1) | skip); clear hb)
      all_goals (go_wp2_with fail; go_meet)
      all_goals
        case rel => first | (have K := K1.out; exact ⟨_, rfl, Lib.hid (has_set HH.out K HN.out.1 HN.out.2)⟩) | exact ⟨_, rfl, Lib.hid (has_new HH.out)⟩
    case rest =>
      obtain ⟨g, rfl, HO⟩ := hcut
      clear HQ FX HT HN y0 y1 y2 y3 y4 y5 x0 x1 x2 x3 x4 x5 t0 t1 t2 d0 d1 d2
      have d0 := HO.out.1.c0
      have d1 := HO.out.1.c1
      have d2 := HO.out.1.c2
      have g2 := HO.out.2.1.c2
      have HRD := Lib.hid HO.out.2.1.rd
      obtain ⟨o, ho⟩ : ∃ o, o = ob h.objs (refI h.objs.length cc).toNat := ⟨_, rfl⟩
      have hsup : superI h.objs cc = o.slots.getD 0 0 := by rw [ho]; rfl
      have hdic : dictI h.objs cc = o.slots.getD 1 0 := by rw [ho]; rfl
      have f2' : 3 ≤ o.slots.length := by rw [ho]; exact f2
      rw [← ho] at HO HRD g2
      obtain ⟨ad2, rfl, hs1⟩ := ints_at HRD.out 1 (by omega)
      have hs1' : wc.cell? ⟨ad2.block, ad2.off + 1, none⟩ = some (.int .i64 (dictI h.objs cc)) := by rw [hdic]; exact hs1
      obtain ⟨d, hd⟩ : ∃ d, d = dictI h.objs cc := ⟨_, rfl⟩
      rw [← hd] at hs1'
      have HS1 := Lib.hid hs1'
      have HD := Lib.hid hd
      have HSUP := Lib.hid hsup
      have HO2 := Lib.hid ho
      clear hs1 hs1' hsup hdic
      have hdd : pairsB h.objs d = true := by rw [hd]; exact (of_decide_eq_true HC.out).2.2.2.2.1
      clear hd ho
      have hdr : 0 ≤ refI h.objs.length d := by
        have := of_decide_eq_true hdd
        omega
      have hdl := (refI_bd h.objs.length d).2
      have hdn : (refI h.objs.length d).toNat < h.objs.length := by omega
      obtain ⟨ad', A3, c3, had, hob⟩ := obs_at HO.out.1.row _ hdn
      obtain rfl : ad = ad' := by injection had
      have HOB := Lib.hid hob
      have HDD := Lib.hid hdd
      clear hob had hdd
      obtain ⟨l3, hl3⟩ : ∃ l3, l3 = (ob h.objs (refI h.objs.length d).toNat).slots := ⟨_, rfl⟩
      have y2 := HOB.out.c2
      rw [← hl3] at y2
      have HL3 := Lib.hid hl3
      clear hl3
      go_wp2
      have v0 := fun x : Ext wc => x.cell d0
      have v1 := fun x : Ext wc => x.cell d1
      have v2 := fun x : Ext wc => x.cell d2
      have v3 := fun x : Ext wc => x.cell g2
      have v4 := fun x : Ext wc => x.cell HS1.out
      have v5 := fun x : Ext wc => x.cell y2
      refine wp_region_ext (by kernel_rfl) (by kernel_rfl) ?_
      repeat (go_big_quiet_step ((go_at_call 17; exact calls_ext (r3_Ref _ _ _ _ _ _ _ hmx))))
      refine wpQuiet_nil ?_
      rintro _ ⟨x, rfl⟩
      clear v0 v1 v2 v3 v4 v5 d0 d1 d2
      replace HO := Lib.hid (HO.out.next x.below)
      have HROW := Lib.hid (HOB.out.below x.below)
      have g2 := x.cell g2
      have s1 := x.cell HS1.out
      clear y2
      by_cases hd0 : d = 0
      · have hdb : (d == 0) = true := beq_iff_eq.2 hd0
        have HK := Lib.hid (show lookP (pairsL h.objs (dictI h.objs cc)) sel = none by rw [← HD.out, hd0, pairsL_zero]; rfl)
        clear hd0
        go_wp2
        go_loopw [13] (fun u wr => u = .int .i64 0 ∧ Hid (HasOb w (some ad) cp w.heap.size h g o (some ad2) c2 wr)) (fun _ _ => 0)
        case atStart => exact ⟨rfl, HO⟩
        case round =>
          obtain ⟨rfl, HW⟩ := hrel

          have e0 := HW.out.2.1.c2
          have HRD := Lib.hid HW.out.2.1.rd
          obtain ⟨ad2', hA2, hz0⟩ := ints_at HRD.out 0 (by omega)
          obtain rfl : ad2 = ad2' := by injection hA2
          have hz1 : wr.cell? ad2 = some (.int .i64 (superI h.objs cc)) := by rw [HSUP.out]; exact hz0
          clear hz0 hA2
          have hat : cc ≠ at' := by
            rintro rfl
            rcases findL_ways h.objs sel (upL h.objs (m + 1) cc) with h1 | h1 | ⟨v1, a1, h1, _, h2⟩
            · rw [HG.out] at h1; injection h1 with _ h1; injection h1 with _ h1; cases h1
            · rw [HG.out] at h1; injection h1 with _ h1; injection h1 with _ h1; cases h1
            · rw [HG.out] at h1; injection h1 with _ h1; injection h1 with h1 _; subst h1; rw [HK.out] at h2; cases h2
          have hat' : (cc == at') = false := beq_eq_false_iff_ne.2 hat
          have hgo : findL h.objs sel (upL h.objs m (superI h.objs cc)) = (v, at', 0) := by
            have h1 := HG.out
            rw [upL_class m HC.out, findL_none _ HK.out] at h1
            split at h1
            · injection h1 with _ h1; injection h1 with _ h1; cases h1
            · exact h1
          have HGO := Lib.hid hgo
          clear hat hgo
          go_wp2
          go_roundg m
          case measure => omega
          case rel => exact ⟨superI h.objs cc, n + 1, by omega, rfl, by go_num, HGO, Lib.hid HW.out.1⟩

      · have hdb : (d == 0) = false := beq_eq_false_iff_ne.2 hd0
        have hxs : pairsL h.objs (dictI h.objs cc) = l3 := by rw [← HD.out, pairsL_more hd0 hdr HDD.out, HL3.out]
        have hll : l3.length ≤ 64 := by rw [← hxs]; exact pairs_len hm _
        have HXS := Lib.hid hxs
        have hrd := HROW.out.rd
        have hle := HROW.out.le
        rw [← HL3.out] at hrd hle
        have HR3 := Lib.hid hrd
        clear hd0 hxs hrd
        go_wp2
        go_loopw [13] (fun u wr => ∃ k : Nat, u = .int .i64 k ∧ k ≤ l3.length ∧ Hid (lookP (l3.drop k) sel = lookP l3 sel) ∧ Hid (HasOb w (some ad) cp w.heap.size h g o (some ad2) c2 wr) ∧ Hid (Below x.val.heap.size x.val wr)) (fun u _ => l3.length - (intOf u).toNat)
        case atStart => exact ⟨0, rfl, Nat.zero_le _, Lib.hid rfl, HO, Lib.hid (Below.refl _ _)⟩
        case round =>
          obtain ⟨k, rfl, hk3, HL, HW, HB⟩ := hrel
          by_cases hlt : k + 1 < l3.length
          · obtain ⟨ad3, rfl, hs0⟩ := ints_at HR3.out k (by omega)
            obtain ⟨ad4, he4, hs1⟩ := ints_at HR3.out (k + 1) hlt
            obtain rfl : ad3 = ad4 := by injection he4
            obtain ⟨s, hsv⟩ : ∃ s, s = l3.getD k 0 := ⟨_, rfl⟩
            obtain ⟨v', hvv⟩ : ∃ v', v' = l3.getD (k + 1) 0 := ⟨_, rfl⟩
            rw [← hsv] at hs0
            rw [← hvv] at hs1
            have hs0 := pw_cell_below HB.out hs0
            have hs1 : wr.cell? ⟨ad3.block, ad3.off + (k + 1), none⟩ = some (.int .i64 v') := pw_cell_below HB.out hs1
            have HSV := Lib.hid hsv
            have HVV := Lib.hid hvv
            clear hsv hvv he4
            by_cases hss : s = sel
            · have hss' : (s == sel) = true := beq_iff_eq.2 hss
              have hlk : lookP (pairsL h.objs (dictI h.objs cc)) sel = some v' := by
                rw [HXS.out, ← HL.out, lookP_here hlt (by rw [← HSV.out]; exact hss), HVV.out]
              have h1 := HG.out
              rw [upL_class m HC.out, findL_some _ hlk] at h1
              injection h1 with e1 h1
              injection h1 with e2 h1
              have q1 : (cc == at') = true := beq_iff_eq.2 e2
              have q2 : (v' == v) = true := beq_iff_eq.2 e1
              clear hss h1 e1 e2 hlk
              go_wp2
              go_ret
              exact ⟨rfl, HW.out.1.below⟩
            · have hss' : (s == sel) = false := beq_eq_false_iff_ne.2 hss
              have HSS := Lib.hid hss
              clear hss
              go_wp2
              go_roundw
              case rel => exact ⟨k + 2, by go_num, by omega, Lib.hid (by rw [← HL.out, lookP_on hlt (by rw [← HSV.out]; exact HSS.out)]), HW, HB⟩
              case measure => simp [intOf]; omega
          · have hge : ¬ ((k : Int) + 1 < l3.length) := by omega
            have HK := Lib.hid (show lookP (pairsL h.objs (dictI h.objs cc)) sel = none by rw [HXS.out, ← HL.out, lookP_end hlt])

            have e0 := HW.out.2.1.c2
            have HRD := Lib.hid HW.out.2.1.rd
            obtain ⟨ad2', hA2, hz0⟩ := ints_at HRD.out 0 (by omega)
            obtain rfl : ad2 = ad2' := by injection hA2
            have hz1 : wr.cell? ad2 = some (.int .i64 (superI h.objs cc)) := by rw [HSUP.out]; exact hz0
            clear hz0 hA2
            have hat : cc ≠ at' := by
              rintro rfl
              rcases findL_ways h.objs sel (upL h.objs (m + 1) cc) with h1 | h1 | ⟨v1, a1, h1, _, h2⟩
              · rw [HG.out] at h1; injection h1 with _ h1; injection h1 with _ h1; cases h1
              · rw [HG.out] at h1; injection h1 with _ h1; injection h1 with _ h1; cases h1
              · rw [HG.out] at h1; injection h1 with _ h1; injection h1 with h1 _; subst h1; rw [HK.out] at h2; cases h2
            have hat' : (cc == at') = false := beq_eq_false_iff_ne.2 hat
            have hgo : findL h.objs sel (upL h.objs m (superI h.objs cc)) = (v, at', 0) := by
              have h1 := HG.out
              rw [upL_class m HC.out, findL_none _ HK.out] at h1
              split at h1
              · injection h1 with _ h1; injection h1 with _ h1; cases h1
              · exact h1
            have HGO := Lib.hid hgo
            clear hat hgo
            go_wp2
            go_roundg m
            case measure => omega
            case rel => exact ⟨superI h.objs cc, n + 1, by omega, rfl, by go_num, HGO, Lib.hid HW.out.1⟩

end Go.Proofs.Ytgdobomofdenfaa.Lk
