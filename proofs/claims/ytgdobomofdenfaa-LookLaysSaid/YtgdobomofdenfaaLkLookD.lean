/- Classes: the reference's pairs, May. -/
import Derived.Test.YtgdobomofdenfaaLkLookC
namespace Go.Proofs.Ytgdobomofdenfaa.Lk
open Go.RowKit Go.Proofs.YtgdobomofdenfaaW.PrintWords
set_option linter.unusedVariables false
set_option linter.unusedSimpArgs false

set_option maxRecDepth 100000 in
set_option maxHeartbeats 1000000 in
theorem r9_pairs_any (A : Option Addr) (c : Nat) (l : List Ob) (cap last v : Int) (w0 : World) (hl : l.length ≤ c) (hr : kOb.C w0 A l.length l) :
    ∃ A' c', (pairsL l v).length ≤ c' ∧ (Kd.int .i64).C w0 A' (pairsL l v).length (pairsL l v) ∧ ∀ w, Below w0.heap.size w0 w →
    Calls Try.prog 38 #[.agg #[.slice A l.length c, .int .i64 cap, .int .i64 last], .int .i64 v] w fun e w' => e = .returned (.tuple #[.slice A' (pairsL l v).length c', .bool (pairsB l v)]) ∧ Below w.heap.size w w' := by
  have hu24 := Try.underlying24
  have hu34 := Try.underlying34
  have hm := Kd.C_max hr
  by_cases h0 : refI l.length v = 0
  · have e1 : pairsL l v = [] := if_pos h0
    have e2 : pairsB l v = true := decide_eq_true (.inl h0)
    rw [e1, e2]
    refine ⟨none, 0, Nat.le_refl _, Kd.C_nil _ _, fun w hb => ?_⟩
    have t0 : (refI l.length v == 0) = true := beq_iff_eq.2 h0
    have HB1 := Lib.hid (box1 w (.cells #[.slice A l.length c, .int .i64 cap, .int .i64 last] 24)).1
    clear h0 e1 e2 hr hb
    go_enter Try.func38, Try.ntmps38
    go_wp2_with (go_at_call 17; refine (r3_Ref A l.length c cap last v _ hm).mono ?_; rintro e w1 ⟨rfl, hb⟩; obtain ⟨d0, d1, d2⟩ := hbox3 hb; have HB2 := Lib.hid (below_up HB1.out HB1.out.size hb); clear hb)
    go_ret2
    exact ⟨rfl, HB2.out⟩
  · have t0 : (refI l.length v == 0) = false := beq_eq_false_iff_ne.2 h0
    have T0 := Lib.hid h0
    clear h0
    rcases Int.lt_or_le (refI l.length v) 0 with hp | hp
    · have e1 : pairsL l v = [] := by unfold pairsL; rw [if_neg T0.out, if_neg (by omega)]
      have e2 : pairsB l v = false := decide_eq_false (fun h => h.elim T0.out (by omega))
      rw [e1, e2]
      refine ⟨none, 0, Nat.le_refl _, Kd.C_nil _ _, fun w hb => ?_⟩
      have HB1 := Lib.hid (box1 w (.cells #[.slice A l.length c, .int .i64 cap, .int .i64 last] 24)).1
      clear e1 e2 hr hb
      go_enter Try.func38, Try.ntmps38
      go_wp2_with (go_at_call 17; refine (r3_Ref A l.length c cap last v _ hm).mono ?_; rintro e w1 ⟨rfl, hb⟩; obtain ⟨d0, d1, d2⟩ := hbox3 hb; have HB2 := Lib.hid (below_up HB1.out HB1.out.size hb); clear hb)
      go_ret2
      exact ⟨rfl, HB2.out⟩
    · obtain ⟨a1, a2, a3⟩ := refI_at hp
      have hlt : refI l.length v < l.length := (refI_bd l.length v).2
      obtain ⟨ad, A2, c2, rfl, hob⟩ := obs_at hr (refI l.length v).toNat (by omega)
      have HOB : Hid (ObAt w0 (ad.add ((refI l.length v).toNat * 6)) (obv l v) A2 c2) := hob
      clear hob a1 a2 a3
      by_cases hk : (obv l v).kind = 0
      · have e1 : pairsL l v = (obv l v).slots := by unfold pairsL; rw [if_neg T0.out, if_pos ⟨hp, hk⟩]
        have e2 : pairsB l v = true := decide_eq_true (.inr ⟨hp, hk⟩)
        rw [e1, e2]
        refine ⟨A2, c2, HOB.out.le, HOB.out.rd, fun w hb => ?_⟩
        have HO := Lib.hid (HOB.out.below hb)
        have t1 : ((obv l v).kind != 0) = false := by rw [bne_eq_false_iff_eq]; exact hk
        have HB1 := Lib.hid (box1 w (.cells #[.slice (some ad) l.length c, .int .i64 cap, .int .i64 last] 24)).1
        clear e1 e2 hr hb hk
        go_enter Try.func38, Try.ntmps38
        go_wp2_with (go_at_call 17; refine (r3_Ref _ l.length c cap last v _ hm).mono ?_; rintro e w1 ⟨rfl, hb⟩; obtain ⟨d0, d1, d2⟩ := hbox3 hb; have HB2 := Lib.hid (below_up HB1.out HB1.out.size hb); have y1 := (HO.out.below HB2.out).c1; have y2 := (HO.out.below HB2.out).c2; clear hb)
        go_ret2
        exact ⟨rfl, HB2.out⟩
      · have e1 : pairsL l v = [] := by unfold pairsL; rw [if_neg T0.out, if_neg (fun h => hk h.2)]
        have e2 : pairsB l v = false := decide_eq_false (fun h => h.elim T0.out (fun h => hk h.2))
        rw [e1, e2]
        refine ⟨none, 0, Nat.le_refl _, Kd.C_nil _ _, fun w hb => ?_⟩
        have HO := Lib.hid (HOB.out.below hb)
        have t1 : ((obv l v).kind != 0) = true := by rw [bne_iff_ne]; exact hk
        have HB1 := Lib.hid (box1 w (.cells #[.slice (some ad) l.length c, .int .i64 cap, .int .i64 last] 24)).1
        clear e1 e2 hr hb hk
        go_enter Try.func38, Try.ntmps38
        go_wp2_with (go_at_call 17; refine (r3_Ref _ l.length c cap last v _ hm).mono ?_; rintro e w1 ⟨rfl, hb⟩; obtain ⟨d0, d1, d2⟩ := hbox3 hb; have HB2 := Lib.hid (below_up HB1.out HB1.out.size hb); have y1 := (HO.out.below HB2.out).c1; clear hb)
        go_ret2
        exact ⟨rfl, HB2.out⟩

set_option maxRecDepth 100000 in
set_option maxHeartbeats 2000000 in
theorem r9_May (A : Option Addr) (cp : Nat) (h : Hp) (c : Int) (w : World) (hl : h.objs.length ≤ cp) (hr : kOb.C w A h.objs.length h.objs) :
    Calls Try.prog 16 #[.agg #[.slice A h.objs.length cp, .int .i64 h.cap, .int .i64 h.last], .int .i64 c] w fun e w' => e = .returned (.bool (mayB h && classB h.objs c)) ∧ Below w.heap.size w w' := by
  have hu24 := Try.underlying24
  have hu34 := Try.underlying34
  have hm := Kd.C_max hr
  have HR := Lib.hid hr
  have HB1 := Lib.hid (box1 w (.cells #[.slice A h.objs.length cp, .int .i64 h.cap, .int .i64 h.last] 24)).1
  clear hr
  cases hmay : mayB h
  · go_enter Try.func16, Try.ntmps16
    go_wp2_with (first
      | (go_at_call 17; refine (r3_Ref A h.objs.length cp h.cap h.last c _ hm).mono ?_; rintro e w1 ⟨rfl, hb⟩; obtain ⟨d0, d1, d2⟩ := hbox3 hb; have HB2 := Lib.hid (below_up HB1.out HB1.out.size hb); clear hb)
      | (go_at_call 13; refine (r3_May A cp h _ hl (Kd.C_below HR.out HB2.out)).mono ?_; rintro e w2 ⟨rfl, hb⟩; have HB3 := Lib.hid (below_up HB2.out HB2.out.size hb); clear hb))
    go_ret
    exact ⟨rfl, HB3.out⟩
  · rcases class_ways h.objs c with ⟨h1, hq⟩ | hC
    · have HQ := Lib.hid hq
      clear hq
      go_enter Try.func16, Try.ntmps16
      go_wp2_with (first
        | (go_at_call 17; refine (r3_Ref A h.objs.length cp h.cap h.last c _ hm).mono ?_; rintro e w1 ⟨rfl, hb⟩; obtain ⟨d0, d1, d2⟩ := hbox3 hb; have HB2 := Lib.hid (below_up HB1.out HB1.out.size hb); clear hb)
        | (go_at_call 13; refine (r3_May A cp h _ hl (Kd.C_below HR.out HB2.out)).mono ?_; rintro e w2 ⟨rfl, hb⟩; have HB3 := Lib.hid (below_up HB2.out HB2.out.size hb); clear hb))
      go_ret
      exact ⟨ret_b HQ.out.symm, HB3.out⟩
    · have hge : 0 ≤ refI h.objs.length c := by rcases hC with h | h | h | h <;> exact h.1
      have hlt : refI h.objs.length c < h.objs.length := (refI_bd h.objs.length c).2
      obtain ⟨ad, A2, c2, rfl, hob⟩ := obs_at HR.out (refI h.objs.length c).toNat (by omega)
      have HOB : Hid (ObAt w (ad.add ((refI h.objs.length c).toNat * 6)) (obv h.objs c) A2 c2) := hob
      have hle := HOB.out.le
      have hm2 := Kd.C_max HOB.out.rd
      clear hob
      rcases hC with ⟨_, h1, hq⟩ | ⟨_, h1, h2, hq⟩ | hC
      · have HQ := Lib.hid hq
        have h1n : ((obv h.objs c).kind != 0) = true := by rw [bne, h1]; rfl
        clear hq
        go_enter Try.func16, Try.ntmps16
        go_wp2_with (first
          | (go_at_call 17; refine (r3_Ref _ h.objs.length cp h.cap h.last c _ hm).mono ?_; rintro e w1 ⟨rfl, hb⟩; obtain ⟨d0, d1, d2⟩ := hbox3 hb; have HB2 := Lib.hid (below_up HB1.out HB1.out.size hb); clear hb)
          | (go_at_call 13; refine (r3_May _ cp h _ hl (Kd.C_below HR.out HB2.out)).mono ?_; rintro e w2 ⟨rfl, hb⟩; have HB3 := Lib.hid (below_up HB2.out HB2.out.size hb); have y1 := (HOB.out.below HB3.out).c1; have d0 := pw_cell_below hb d0; clear hb))
        go_ret
        exact ⟨ret_b HQ.out.symm, HB3.out⟩
      · have HQ := Lib.hid hq
        have h1n : ((obv h.objs c).kind != 0) = false := by rw [bne, h1]; rfl
        clear hq
        go_enter Try.func16, Try.ntmps16
        go_wp2_with (first
          | (go_at_call 17; refine (r3_Ref _ h.objs.length cp h.cap h.last c _ hm).mono ?_; rintro e w1 ⟨rfl, hb⟩; obtain ⟨d0, d1, d2⟩ := hbox3 hb; have HB2 := Lib.hid (below_up HB1.out HB1.out.size hb); clear hb)
          | (go_at_call 13; refine (r3_May _ cp h _ hl (Kd.C_below HR.out HB2.out)).mono ?_; rintro e w2 ⟨rfl, hb⟩; have HB3 := Lib.hid (below_up HB2.out HB2.out.size hb); have y1 := (HOB.out.below HB3.out).c1; have y2 := (HOB.out.below HB3.out).c2; have d0 := pw_cell_below hb d0; clear hb))
        go_ret
        exact ⟨ret_b HQ.out.symm, HB3.out⟩
      · have h1 : ((obv h.objs c).kind == 0) = true := by rcases hC with h | h <;> exact h.2.1
        have h2 : 3 ≤ (obv h.objs c).slots.length := by rcases hC with h | h <;> exact h.2.2.1
        have h1n : ((obv h.objs c).kind != 0) = false := by rw [bne, h1]; rfl
        have HC := Lib.hid hC
        clear hC
        obtain ⟨ad2, rfl, hs0⟩ := ints_at HOB.out.rd 0 (by omega)
        obtain ⟨ad3, he3, hs1⟩ := ints_at HOB.out.rd 1 (by omega)
        obtain rfl : ad2 = ad3 := by injection he3
        obtain ⟨ad4, he4, hs2⟩ := ints_at HOB.out.rd 2 (by omega)
        obtain rfl : ad2 = ad4 := by injection he4
        obtain ⟨q, hqq⟩ : ∃ q, q = (obv h.objs c).slots.getD 2 0 := ⟨_, rfl⟩
        rw [← hqq] at hs2
        have HS0 : Hid (w.cell? ad2 = some (.int .i64 (superI h.objs c))) := hs0
        have HS1 : Hid (w.cell? ⟨ad2.block, ad2.off + 1, none⟩ = some (.int .i64 (dictI h.objs c))) := hs1
        have HS2 : Hid (w.cell? ⟨ad2.block, ad2.off + 2, none⟩ = some (.int .i64 q)) := hs2
        have HQQ := Lib.hid hqq
        clear hqq hs0 hs1 hs2
        go_enter Try.func16, Try.ntmps16
        go_wp2_with (first
          | (go_at_call 17; refine (r3_Ref _ h.objs.length cp h.cap h.last c _ hm).mono ?_; rintro e w1 ⟨rfl, hb⟩; obtain ⟨d0, d1, d2⟩ := hbox3 hb; have HB2 := Lib.hid (below_up HB1.out HB1.out.size hb); clear hb)
          | (go_at_call 13; refine (r3_May _ cp h _ hl (Kd.C_below HR.out HB2.out)).mono ?_; rintro e w2 ⟨rfl, hb⟩; have HB3 := Lib.hid (below_up HB2.out HB2.out.size hb); have y1 := (HOB.out.below HB3.out).c1; have y2 := (HOB.out.below HB3.out).c2; have d0 := pw_cell_below hb d0; have d1 := pw_cell_below hb d1; have d2 := pw_cell_below hb d2; clear hb))
        obtain ⟨A', c', hpl, hpr, hp⟩ := r9_pairs_any (some ad) cp h.objs h.cap h.last (dictI h.objs c) w hl HR.out
        have HP := Lib.hid hp
        clear hp hpl hpr y1 y2
        have x0 := fun x : Ext w2 => x.cell d0
        have x1 := fun x : Ext w2 => x.cell d1
        have x2 := fun x : Ext w2 => x.cell d2
        have s0 := fun x : Ext w2 => x.cell (pw_cell_below HB3.out HS0.out)
        have s1 := fun x : Ext w2 => x.cell (pw_cell_below HB3.out HS1.out)
        have s2 := fun x : Ext w2 => x.cell (pw_cell_below HB3.out HS2.out)
        clear d0 d1 d2
        refine wp_region_ext (by kernel_rfl) (by kernel_rfl) ?_
        repeat (go_big_quiet_step ((go_at_call 38; exact calls_ext (HP.out _ (below_up HB3.out HB3.out.size (Ext.below _))))))
        refine wpQuiet_nil ?_
        rintro _ ⟨y, rfl⟩
        have t2 := s2 y
        have HBy := Lib.hid (below_up HB3.out HB3.out.size y.below)
        have hfin : (classB h.objs c = false ∧ decide (0 ≤ refI h.objs.length (superI h.objs c)) = false) ∨
            (decide (0 ≤ refI h.objs.length (superI h.objs c)) = true ∧ pairsB h.objs (dictI h.objs c) = false ∧ classB h.objs c = false) ∨
            (decide (0 ≤ refI h.objs.length (superI h.objs c)) = true ∧ pairsB h.objs (dictI h.objs c) = true ∧ nB q = false ∧ classB h.objs c = false) ∨
            (decide (0 ≤ refI h.objs.length (superI h.objs c)) = true ∧ pairsB h.objs (dictI h.objs c) = true ∧ nB q = true ∧ decide (0 ≤ nI q) = false ∧ classB h.objs c = false) ∨
            (decide (0 ≤ refI h.objs.length (superI h.objs c)) = true ∧ pairsB h.objs (dictI h.objs c) = true ∧ nB q = true ∧ decide (0 ≤ nI q) = true ∧ decide (nI q ≤ 64) = false ∧ classB h.objs c = false) ∨
            (decide (0 ≤ refI h.objs.length (superI h.objs c)) = true ∧ pairsB h.objs (dictI h.objs c) = true ∧ nB q = true ∧ decide (0 ≤ nI q) = true ∧ decide (nI q ≤ 64) = true ∧ classB h.objs c = true) := by
          rcases HC.out with ⟨_, _, _, h3, hq⟩ | ⟨_, _, _, h3, hq⟩
          · exact .inl ⟨hq, decide_eq_false (by omega)⟩
          · rw [← HQQ.out] at hq
            rw [hq, decide_eq_true h3]
            cases pairsB h.objs (dictI h.objs c) <;> cases nB q <;> cases decide (0 ≤ nI q) <;> cases decide (nI q ≤ 64) <;> simp
        rcases hfin with ⟨hq, r1⟩ | ⟨r1, r2, hq⟩ | ⟨r1, r2, r3, hq⟩ | ⟨r1, r2, r3, r4, hq⟩ | ⟨r1, r2, r3, r4, r5, hq⟩ | ⟨r1, r2, r3, r4, r5, hq⟩
        all_goals
          have HQ := Lib.hid hq
          clear hq
          go_wp2_with (go_at_call 39; refine (r1_N q _).mono ?_; rintro e w3 ⟨rfl, rfl⟩)
          have u0 := fun z : Ext y.val => z.cell (x0 y)
          have u1 := fun z : Ext y.val => z.cell (x1 y)
          have u2 := fun z : Ext y.val => z.cell (x2 y)
          have u3 := fun z : Ext y.val => z.cell (s0 y)
          clear t2
          refine wp_region_ext (by kernel_rfl) (by kernel_rfl) ?_
          repeat (go_big_quiet_step ((go_at_call 17; exact calls_ext (r3_Ref _ _ _ _ _ (superI h.objs c) _ hm))))
          refine wpQuiet_nil ?_
          rintro _ ⟨z, rfl⟩
          go_wp2
          go_ret
          exact ⟨ret_b HQ.out.symm, below_up HBy.out HBy.out.size z.below⟩
end Go.Proofs.Ytgdobomofdenfaa.Lk
