/- Classes: look.class. -/
import Derived.Test.YtgdobomofdenfaaLkLookA
namespace Go.Proofs.Ytgdobomofdenfaa.Lk
open Go.RowKit Go.Proofs.YtgdobomofdenfaaW.PrintWords
set_option linter.unusedVariables false
set_option linter.unusedSimpArgs false

/-- What pairs answers, by its three ways. -/
theorem look_pairs_any (A : Option Addr) (c : Nat) (l : List Ob) (cap last v : Int) (w0 : World) (hl : l.length ≤ c) (hr : kOb.C w0 A l.length l) :
    ∃ A' c', (pairsL l v).length ≤ c' ∧ (Kd.int .i64).C w0 A' (pairsL l v).length (pairsL l v) ∧ ∀ w, Below w0.heap.size w0 w →
    Calls Try.prog 36 #[.agg #[.slice A l.length c, .int .i64 cap, .int .i64 last], .int .i64 v] w fun e w' => e = .returned (.tuple #[.slice A' (pairsL l v).length c', .bool (pairsB l v)]) ∧ Below w.heap.size w w' := by
  have hm := Kd.C_max hr
  by_cases h0 : refI l.length v = 0
  · have e1 : pairsL l v = [] := if_pos h0
    have e2 : pairsB l v = true := decide_eq_true (.inl h0)
    rw [e1, e2]
    exact ⟨none, 0, Nat.le_refl _, Kd.C_nil _ _, fun w hb => look_pairs_nil A c l cap last v w hl (Kd.C_below hr hb) h0⟩
  · by_cases h1 : 0 ≤ refI l.length v ∧ (obv l v).kind = 0
    · have e1 : pairsL l v = (obv l v).slots := by unfold pairsL; rw [if_neg h0, if_pos h1]
      have e2 : pairsB l v = true := decide_eq_true (.inr h1)
      rw [e1, e2]
      obtain ⟨hp, hk⟩ := h1
      obtain ⟨a1, a2, a3⟩ := refI_at hp
      obtain ⟨ad, A2, c2, rfl, hob⟩ := obs_at hr (refI l.length v).toNat (by omega)
      exact ⟨A2, c2, hob.le, hob.rd, fun w hb => look_pairs_ok ad c l cap last v w hl hm (by omega) hk A2 c2 (hob.below hb)⟩
    · have e1 : pairsL l v = [] := by unfold pairsL; rw [if_neg h0, if_neg h1]
      have e2 : pairsB l v = false := decide_eq_false (fun h => h.elim h0 h1)
      rw [e1, e2]
      exact ⟨none, 0, Nat.le_refl _, Kd.C_nil _ _, fun w hb => look_pairs_bad A c l cap last v w hl (Kd.C_below hr hb) h0 e2⟩

set_option maxRecDepth 100000 in
set_option maxHeartbeats 2000000 in
theorem look_class (A : Option Addr) (cp : Nat) (l : List Ob) (cap last c : Int) (w : World) (hl : l.length ≤ cp) (hr : kOb.C w A l.length l) :
    Calls Try.prog 46 #[.agg #[.slice A l.length cp, .int .i64 cap, .int .i64 last], .int .i64 c] w fun e w' => e = .returned (.bool (classB l c)) ∧ Below w.heap.size w w' := by
  have hu24 := Try.underlying24
  have hu34 := Try.underlying34
  have hm := Kd.C_max hr
  have HR := Lib.hid hr
  clear hr
  obtain ⟨hb1, hx1, hsz⟩ := box1 w (.cells #[.slice A l.length cp, .int .i64 cap, .int .i64 last] 24)
  have HB1 := Lib.hid hb1
  clear hb1 hx1 hsz
  rcases class_ways l c with ⟨h, hq⟩ | hC
  · have HQ := Lib.hid hq
    clear hq
    go_enter Try.func46, Try.ntmps46
    go_wp2_with (go_at_call 37; refine (look_object_none A l.length cp cap last c _ hm h).mono ?_; rintro e w' ⟨rfl, hb⟩)
    have HB := Lib.hid (HB1.out.trans (hb.mono HB1.out.size))
    clear hb
    refine wp_region_ext (by kernel_rfl) (by kernel_rfl) ?_
    repeat (go_big_quiet_step (fail))
    refine wpQuiet_nil ?_
    rintro _ ⟨x, rfl⟩
    go_wp2
    go_ret
    exact ⟨ret_b HQ.out.symm, below_up HB.out HB.out.size x.below⟩
  · have hge : 0 ≤ refI l.length c := by rcases hC with h | h | h | h <;> exact h.1
    obtain ⟨a1, a2, a3⟩ := refI_at hge
    obtain ⟨ad, A2, c2, rfl, hob⟩ := obs_at HR.out (refI l.length c).toNat (by omega)
    have HOB : Hid (ObAt w (ad.add ((refI l.length c).toNat * 6)) (obv l c) A2 c2) := hob
    have hle := HOB.out.le
    have hm2 := Kd.C_max HOB.out.rd
    have HC := Lib.hid hC
    have HGE := Lib.hid hge
    clear hob a1 a2 a3 hC hge
    go_enter Try.func46, Try.ntmps46
    go_wp2_with (go_at_call 37; refine (look_object_some ad l.length cp cap last c _ hm HGE.out).mono ?_; rintro e w' ⟨rfl, hb⟩)
    have HB := Lib.hid (HB1.out.trans (hb.mono HB1.out.size))
    have d0 : w'.cell? ⟨w.heap.size, 0, none⟩ = some (.slice (some ad) l.length cp) := pw_cell_below hb (cellof (box1 w (.cells #[.slice (some ad) l.length cp, .int .i64 cap, .int .i64 last] 24)).2.1 0)
    have d1 : w'.cell? ⟨w.heap.size, 1, none⟩ = some (.int .i64 cap) := pw_cell_below hb (cellof (box1 w (.cells #[.slice (some ad) l.length cp, .int .i64 cap, .int .i64 last] 24)).2.1 1)
    have d2 : w'.cell? ⟨w.heap.size, 2, none⟩ = some (.int .i64 last) := pw_cell_below hb (cellof (box1 w (.cells #[.slice (some ad) l.length cp, .int .i64 cap, .int .i64 last] 24)).2.1 2)
    clear hb
    have HO := Lib.hid (HOB.out.below HB.out)
    have x0 := fun x : Ext w' => x.cell d0
    have x1 := fun x : Ext w' => x.cell d1
    have x2 := fun x : Ext w' => x.cell d2
    have y1 := fun x : Ext w' => x.cell HO.out.c1
    have y2 := fun x : Ext w' => x.cell HO.out.c2
    rcases HC.out with ⟨_, h1, hq⟩ | ⟨_, h1, h2, hq⟩ | ⟨_, h1, h2, h3, hq⟩ | ⟨_, h1, h2, h3, hq⟩
    · have HQ := Lib.hid hq
      clear hq
      have h1n : ((obv l c).kind != 0) = true := by rw [bne, h1]; rfl
      refine wp_region_ext (by kernel_rfl) (by kernel_rfl) ?_
      repeat (go_big_quiet_step (fail))
      refine wpQuiet_nil ?_
      rintro _ ⟨x, rfl⟩
      go_wp2
      go_ret
      exact ⟨ret_b HQ.out.symm, below_up HB.out HB.out.size x.below⟩
    · have HQ := Lib.hid hq
      clear hq
      have h1n : ((obv l c).kind != 0) = false := by rw [bne, h1]; rfl
      have h2' : decide ((obv l c).slots.length < 3) = true := decide_eq_true h2
      have h2'' : decide (((obv l c).slots.length : Int) < 3) = true := decide_eq_true (by omega)
      refine wp_region_ext (by kernel_rfl) (by kernel_rfl) ?_
      repeat (go_big_quiet_step (fail))
      refine wpQuiet_nil ?_
      rintro _ ⟨x, rfl⟩
      go_wp2
      go_ret
      exact ⟨ret_b HQ.out.symm, below_up HB.out HB.out.size x.below⟩
    all_goals
      have HQ := Lib.hid hq
      clear hq
      have h1n : ((obv l c).kind != 0) = false := by rw [bne, h1]; rfl
      have h2'' : decide (((obv l c).slots.length : Int) < 3) = false := decide_eq_false (by omega)
      obtain ⟨ad2, rfl, hs0⟩ := ints_at HO.out.rd 0 (by omega)
      obtain ⟨ad3, he3, hs1⟩ := ints_at HO.out.rd 1 (by omega)
      obtain rfl : ad2 = ad3 := by injection he3
      obtain ⟨ad4, he4, hs2⟩ := ints_at HO.out.rd 2 (by omega)
      obtain rfl : ad2 = ad4 := by injection he4
      obtain ⟨q, hqq⟩ : ∃ q, q = (obv l c).slots.getD 2 0 := ⟨_, rfl⟩
      rw [← hqq] at hs2
      try rw [← hqq] at HQ
      have HQQ := Lib.hid hqq
      clear hqq
      have z0 : ∀ x : Ext w', x.val.cell? ad2 = some (.int .i64 (superI l c)) := fun x => x.cell hs0
      have z1 : ∀ x : Ext w', x.val.cell? ⟨ad2.block, ad2.off + 1, none⟩ = some (.int .i64 (dictI l c)) := fun x => x.cell hs1
      have z2 : ∀ x : Ext w', x.val.cell? ⟨ad2.block, ad2.off + 2, none⟩ = some (.int .i64 q) := fun x => x.cell hs2
      refine wp_region_ext (by kernel_rfl) (by kernel_rfl) ?_
      repeat (go_big_quiet_step (first | (go_at_call 37; exact calls_ext (look_object_none _ _ _ _ _ (superI l c) _ hm h3)) | (go_at_call 37; exact calls_ext (look_object_some _ _ _ _ _ (superI l c) _ hm h3))))
      refine wpQuiet_nil ?_
      rintro _ ⟨x, rfl⟩
      go_wp2
    · go_ret
      exact ⟨ret_b HQ.out.symm, below_up HB.out HB.out.size x.below⟩
    · obtain ⟨A', c', hpl, hpr, hp⟩ := look_pairs_any (some ad) cp l cap last (dictI l c) w hl HR.out
      have HP := Lib.hid hp
      clear hp hpl hpr
      have HBx := Lib.hid (below_up HB.out HB.out.size x.below)
      have u0 := fun y : Ext x.val => y.cell (x0 x)
      have u1 := fun y : Ext x.val => y.cell (x1 x)
      have u2 := fun y : Ext x.val => y.cell (x2 x)
      have v2 := fun y : Ext x.val => y.cell (y2 x)
      have s1 := fun y : Ext x.val => y.cell (z1 x)
      have s2 := fun y : Ext x.val => y.cell (z2 x)
      clear x0 x1 x2 y1 y2 z0 z1 z2 d0 d1 d2 hs0 hs1 hs2
      refine wp_region_ext (by kernel_rfl) (by kernel_rfl) ?_
      repeat (go_big_quiet_step ((go_at_call 36; exact calls_ext (HP.out _ (below_up HBx.out HBx.out.size (Ext.below _))))))
      refine wpQuiet_nil ?_
      rintro _ ⟨y, rfl⟩
      have v2 := v2 y
      have s2 := s2 y
      have HBy := Lib.hid (below_up HBx.out HBx.out.size y.below)
      clear u0 u1 u2 s1
      cases hpb : pairsB l (dictI l c)
      · go_wp2_with (go_at_call 44; refine (value_N q _).mono ?_; rintro e w1 ⟨rfl, rfl⟩)
        go_ret
        exact ⟨ret_b (by rw [HQ.out, hpb]; rfl), HBy.out⟩
      · cases hnb : nB q
        · go_wp2_with (go_at_call 44; refine (value_N q _).mono ?_; rintro e w1 ⟨rfl, rfl⟩)
          go_ret
          exact ⟨ret_b (by rw [HQ.out, hpb, hnb]; rfl), HBy.out⟩
        · by_cases hn0 : 0 ≤ nI q
          · go_wp2_with (go_at_call 44; refine (value_N q _).mono ?_; rintro e w1 ⟨rfl, rfl⟩)
            go_ret
            exact ⟨ret_b (by rw [HQ.out, hpb, hnb, decide_eq_true hn0]; rfl), HBy.out⟩
          · go_wp2_with (go_at_call 44; refine (value_N q _).mono ?_; rintro e w1 ⟨rfl, rfl⟩)
            go_ret
            exact ⟨ret_b (by rw [HQ.out, hpb, hnb, decide_eq_false (by omega)]; rfl), HBy.out⟩
end Go.Proofs.Ytgdobomofdenfaa.Lk
