/- A pair laid first into a class's own dictionary: the walk. -/
import Derived.Test.YtgdobomofdenfaaLkLaysC
import Derived.Test.YtgdobomofdenfaaLkFrm
import Derived.Test.YtgdobomofdenfaaLkLookD
import Derived.Test.YtgdobomofdenfaaLkFixed
import Derived.Deep.RegionHeld
namespace Go.Proofs.Ytgdobomofdenfaa.Lk
open Go.RowKit Go.Proofs.YtgdobomofdenfaaW.PrintWords Go.Shelf
set_option linter.unusedVariables false
set_option linter.unusedSimpArgs false

def vObj (x0 x1 x2 : Int) : Obj := .cells #[.int .i64 x0, .int .i64 x1, .int .i64 x2] 36 (0, 0)
section
variable {w0 : World} {ws : List Nat} {bx : List (Nat × Obj)} {W : World} {g : Nat} {x0 x1 x2 : Int}
theorem Frm.v0 (k : Frm w0 ws bx W) (m : (g, vObj x0 x1 x2) ∈ bx) : W.cell? ⟨g, 0, none⟩ = some (.int .i64 x0) := cellof (k.bx _ m).1 0
theorem Frm.v1 (k : Frm w0 ws bx W) (m : (g, vObj x0 x1 x2) ∈ bx) : W.cell? ⟨g, 1, none⟩ = some (.int .i64 x1) := cellof (k.bx _ m).1 1
theorem Frm.v2 (k : Frm w0 ws bx W) (m : (g, vObj x0 x1 x2) ∈ bx) : W.cell? ⟨g, 2, none⟩ = some (.int .i64 x2) := cellof (k.bx _ m).1 2
end
theorem ref_two_nat {n k : Nat} (hk : k < n) (h40 : n ≤ 1000) : refI n (2 * (k : Int)) = k := by
  have hB : atB (2 * (k : Int)) = true := decide_eq_true (by omega)
  have hI : atI (2 * (k : Int)) = k := by unfold atI; rw [if_pos (by omega)]; omega
  rw [refI_yes hB (by omega), hI]

/-- What a class's dictionary's slot is, in memory. -/
theorem dict_at {w : World} {ad : Addr} {l : List Ob} {c : Int} (hr : kOb.C w (some ad) l.length l) (hc : classB l c = true) :
    ∃ (ad2 : Addr) (c2 : Nat), 3 ≤ (obv l c).slots.length ∧ (∀ W, Below w.heap.size w W → W.cell? ⟨(ad.add ((refI l.length c).toNat * 6)).block, (ad.add ((refI l.length c).toNat * 6)).off + 2, none⟩ = some (.slice (some ad2) (obv l c).slots.length c2) ∧ W.cell? ⟨ad2.block, ad2.off + 1, none⟩ = some (.int .i64 (dictI l c))) ∧ (refI l.length c).toNat < l.length := by
  obtain ⟨f1, f2, f3⟩ := class_facts hc
  have f4 := (refI_bd l.length c).2
  obtain ⟨ad', A2, c2, e, hob⟩ := obs_at hr (refI l.length c).toNat (by omega)
  injection e with e
  subst e
  have f2' : 3 ≤ (ob l (refI l.length c).toNat).slots.length := f2
  obtain ⟨ad2, rfl, hcell⟩ := ints_at hob.rd 1 (by omega)
  exact ⟨ad2, c2, f2, fun W hb => ⟨(hob.below hb).c2, pw_cell_below hb hcell⟩, by omega⟩
theorem slots_at {w : World} {ad : Addr} {l : List Ob} (hr : kOb.C w (some ad) l.length l) (j : Nat) (hj : j < l.length) :
    ∃ (A2 : Option Addr) (c2 : Nat), ∀ W, Below w.heap.size w W → W.cell? ⟨(ad.add (j * 6)).block, (ad.add (j * 6)).off + 2, none⟩ = some (.slice A2 (ob l j).slots.length c2) := by
  obtain ⟨ad', A2, c2, e, hob⟩ := obs_at hr j hj
  injection e with e
  subst e
  exact ⟨A2, c2, fun W hb => (hob.below hb).c2⟩
def OutP (l : List Ob) (c d : Int) (k : Nat) : Prop := ∀ j : Nat, 1 ≤ j → j < k → classB l (2 * j) = true → ((2 * (j : Int) ≠ c → dictI l (2 * j) ≠ d) ∧ 2 * (j : Int) ≠ d)
theorem laid_bits {l : List Ob} {i : Nat} {x y : Int} (h : bitsOk l) (hi : i < l.length) : bitsOk (laid l i x y) := by
  intro o ho
  rcases List.mem_or_eq_of_mem_set ho with h1 | rfl
  · exact h o h1
  · exact bits_at h i hi
theorem g_May {h : Hp} {B cap2 iN : Nat} {x0 x1 : Int} (hmay : mayB ⟨laid h.objs iN x0 x1, h.cap, h.last⟩ = true) (W : World) (v : Int) (k : OwnH B cap2 (laid h.objs iN x0 x1) W) :
    Calls Try.prog 16 #[.agg #[.slice (some ⟨B, 0, none⟩) h.objs.length cap2, .int .i64 h.cap, .int .i64 h.last], .int .i64 v] W fun e w' => e = .returned (.bool (classB (laid h.objs iN x0 x1) v)) ∧ Below W.heap.size W w' := by
  have := r9_May (some ⟨B, 0, none⟩) cap2 ⟨laid h.objs iN x0 x1, h.cap, h.last⟩ v W k.le k.C
  simp only [hmay, Bool.true_and, laid_len] at this
  exact this
theorem g_Find {h : Hp} {B cap2 iN : Nat} {x0 x1 : Int} (hbits : bitsOk h.objs) (hi : iN < h.objs.length) (hmay : mayB ⟨laid h.objs iN x0 x1, h.cap, h.last⟩ = true) (W : World) (c s : Int) (k : OwnH B cap2 (laid h.objs iN x0 x1) W) :
    Calls Try.prog 14 #[.agg #[.slice (some ⟨B, 0, none⟩) h.objs.length cap2, .int .i64 h.cap, .int .i64 h.last], .int .i64 c, .int .i64 s] W fun e w' =>
      e = .returned (.tuple #[.int .i64 (findL (laid h.objs iN x0 x1) s (upL (laid h.objs iN x0 x1) 64 c)).1, .int .i64 (findL (laid h.objs iN x0 x1) s (upL (laid h.objs iN x0 x1) 64 c)).2.1, .int .i64 (findL (laid h.objs iN x0 x1) s (upL (laid h.objs iN x0 x1) 64 c)).2.2]) ∧ Below W.heap.size W w' := by
  have := look_Find (some ⟨B, 0, none⟩) cap2 ⟨laid h.objs iN x0 x1, h.cap, h.last⟩ c s W (laid_bits hbits hi) k.le k.C
  have hf : findI ⟨laid h.objs iN x0 x1, h.cap, h.last⟩ c s = findL (laid h.objs iN x0 x1) s (upL (laid h.objs iN x0 x1) 64 c) := if_pos hmay
  rw [hf] at this
  simp only [laid_len] at this
  exact this
theorem hObj0 {W : World} {g : Nat} {A : Option Addr} {cp : Nat} {h : Hp} (k : W.heap[g]? = some (hObj A cp h)) : W.cell? ⟨g, 0, none⟩ = some (.slice A h.objs.length cp) := cellof k 0
theorem hObj1 {W : World} {g : Nat} {A : Option Addr} {cp : Nat} {h : Hp} (k : W.heap[g]? = some (hObj A cp h)) : W.cell? ⟨g, 1, none⟩ = some (.int .i64 h.cap) := cellof k 1
theorem hObj2 {W : World} {g : Nat} {A : Option Addr} {cp : Nat} {h : Hp} (k : W.heap[g]? = some (hObj A cp h)) : W.cell? ⟨g, 2, none⟩ = some (.int .i64 h.last) := cellof k 2
theorem dict_kind {l : List Ob} {d : Int} {i : Nat} (hp : pairsB l d = true) (h0 : d ≠ 0) (hi : refI l.length d = i) : (ob l i).kind = 0 := by
  have h1 := of_decide_eq_true hp
  have h2 := ref_two (l := l) (v := d) (by omega)
  unfold obv at h1
  rw [hi] at h1 h2
  rcases h1 with h1 | h1
  · exact absurd (by omega) h0
  · exact h1.2
theorem out_first (l : List Ob) (c d : Int) : OutP l c d 1 := fun j h1 h2 => by omega
theorem out_no {l : List Ob} {c d : Int} {k : Nat} (H : OutP l c d k) (h : classB l (2 * (k : Int)) = false) : OutP l c d (k + 1) := by
  intro j h1 h2 h3
  by_cases e : j = k
  · subst e; rw [h] at h3; cases h3
  · exact H j h1 (by omega) h3
theorem out_yes {l : List Ob} {c d : Int} {k : Nat} (H : OutP l c d k) (h : (2 * (k : Int) == c) = true ∨ (dictI l (2 * (k : Int)) == d) = false) (h' : (2 * (k : Int) == d) = false) : OutP l c d (k + 1) := by
  intro j h1 h2 h3
  by_cases e : j = k
  · subst e
    refine ⟨fun hne => ?_, beq_eq_false_iff_ne.1 h'⟩
    rcases h with h | h
    · exact absurd (beq_iff_eq.1 h) hne
    · exact beq_eq_false_iff_ne.1 h
  · exact H j h1 (by omega) h3

set_option maxRecDepth 100000 in
set_option maxHeartbeats 8000000 in
theorem lays_walk (A : Option Addr) (cp : Nat) (h : Hp) (c x0 x1 x2 : Int) (w : World) (hbits : bitsOk h.objs) (hl : h.objs.length ≤ cp) (hr : kOb.C w A h.objs.length h.objs) (wc : inI c) (wx0 : inI x0) (wx1 : inI x1) (wx2 : inI x2) :
    Calls Try.prog 5 #[.agg #[.slice A h.objs.length cp, .int .i64 h.cap, .int .i64 h.last], .int .i64 c, .agg #[.int .i64 x0, .int .i64 x1, .int .i64 x2]] w fun e w' => e = .returned (.bool true) ∧ Below w.heap.size w w' := by
  have hu24 := Try.underlying24
  have hu34 := Try.underlying34
  have hmx := Kd.C_max hr
  have HI := Lib.hid hbits
  have HR := Lib.hid hr
  obtain ⟨bG, hG⟩ : ∃ b, (mayB h && classB h.objs c) = b := ⟨_, rfl⟩
  obtain ⟨bX, hX⟩ : ∃ b, hasB h.objs.length x0 = b := ⟨_, rfl⟩
  obtain ⟨bY, hY⟩ : ∃ b, hasB h.objs.length x1 = b := ⟨_, rfl⟩
  have HG := Lib.hid hG
  have HX := Lib.hid hX
  have HY := Lib.hid hY
  clear hr hbits wc wx0 wx1 wx2 hG hX hY
  go_enter Try.func5, Try.ntmps5
  go_upto_region 1 with (fail)
  refine wp_box2 (fun w1 hb hx1 hx2 hsz => ?_)
  have HF : Hid (Frm w [] [(w.heap.size, hObj A cp h), (w.heap.size + 1, vObj x0 x1 x2)] w1) := Lib.hid (frm_first2 hb hx1 hx2)
  clear hb hx1 hx2 hsz
  have d0 := HF.out.h0 (.head _); have d1 := HF.out.h1 (.head _); have d2 := HF.out.h2 (.head _); have a0 := HF.out.v0 (.tail _ (.head _)); have a1 := HF.out.v1 (.tail _ (.head _)); have a2 := HF.out.v2 (.tail _ (.head _))
  go_upto_region 3 with (first
    | (go_at_call 11; refine (law_fixed _).mono ?_; rintro e w2 ⟨rfl, hb⟩; replace HF := Lib.hid (HF.out.later hb); clear hb; have d0 := HF.out.h0 (.head _); have d1 := HF.out.h1 (.head _); have d2 := HF.out.h2 (.head _); have a0 := HF.out.v0 (.tail _ (.head _)); have a1 := HF.out.v1 (.tail _ (.head _)); have a2 := HF.out.v2 (.tail _ (.head _)))
    | (go_at_call 12; refine (r3_Small A cp h _ hl (HF.out.row HR.out)).mono ?_; rintro e w2 ⟨⟨b, rfl⟩, hb⟩; replace HF := Lib.hid (HF.out.later hb); clear hb; have d0 := HF.out.h0 (.head _); have d1 := HF.out.h1 (.head _); have d2 := HF.out.h2 (.head _); have a0 := HF.out.v0 (.tail _ (.head _)); have a1 := HF.out.v1 (.tail _ (.head _)); have a2 := HF.out.v2 (.tail _ (.head _)); cases b)
    | (go_at_call 16; refine (r9_May A cp h c _ hl (HF.out.row HR.out)).mono ?_; rintro e w2 ⟨he, hb⟩; rw [HG.out] at he; subst he; replace HF := Lib.hid (HF.out.later hb); clear hb; have d0 := HF.out.h0 (.head _); have d1 := HF.out.h1 (.head _); have d2 := HF.out.h2 (.head _); have a0 := HF.out.v0 (.tail _ (.head _)); have a1 := HF.out.v1 (.tail _ (.head _)); have a2 := HF.out.v2 (.tail _ (.head _)); cases bG)
    | (go_at_call_of 18 (Value.int .i64 x0); refine (r3_Has A h.objs.length cp h.cap h.last x0 _ hmx).mono ?_; rintro e w2 ⟨he, hb⟩; rw [HX.out] at he; subst he; replace HF := Lib.hid (HF.out.later hb); clear hb; have d0 := HF.out.h0 (.head _); have d1 := HF.out.h1 (.head _); have d2 := HF.out.h2 (.head _); have a0 := HF.out.v0 (.tail _ (.head _)); have a1 := HF.out.v1 (.tail _ (.head _)); have a2 := HF.out.v2 (.tail _ (.head _)); cases bX)
    | (go_at_call_of 18 (Value.int .i64 x1); refine (r3_Has A h.objs.length cp h.cap h.last x1 _ hmx).mono ?_; rintro e w2 ⟨he, hb⟩; rw [HY.out] at he; subst he; replace HF := Lib.hid (HF.out.later hb); clear hb; have d0 := HF.out.h0 (.head _); have d1 := HF.out.h1 (.head _); have d2 := HF.out.h2 (.head _); have a0 := HF.out.v0 (.tail _ (.head _)); have a1 := HF.out.v1 (.tail _ (.head _)); have a2 := HF.out.v2 (.tail _ (.head _)); cases bY))
  all_goals try (go_ret; exact ⟨rfl, HF.out.below⟩)
  have hn40 : h.objs.length ≤ 40 := by omega
  have HM : Hid (mayB h = true ∧ classB h.objs c = true) := by have h1 := HG.out; rw [Bool.and_eq_true] at h1; exact Lib.hid h1
  clear HG
  obtain ⟨ad, rfl⟩ : ∃ ad, A = some ad := by
    have := class_facts HM.out.2
    obtain ⟨ad, _, _, e, _⟩ := obs_at HR.out 0 (by have := (refI_bd h.objs.length c).2; omega)
    exact ⟨ad, e⟩
  obtain ⟨ad2, c2, q3, qd, qn⟩ := dict_at HR.out HM.out.2
  have QD := Lib.hid qd
  have q1 := (QD.out _ HF.out.below).1
  have q2 := (QD.out _ HF.out.below).2
  obtain ⟨d, hd⟩ : ∃ d, dictI h.objs c = d := ⟨_, rfl⟩
  rw [hd] at q2
  have HD := Lib.hid hd
  have f0 := (class_facts HM.out.2).1
  clear qd hd
  have v0 := fun x : Ext _ => x.cell d0
  have v1 := fun x : Ext _ => x.cell d1
  have v2 := fun x : Ext _ => x.cell d2
  have v3 := fun x : Ext _ => x.cell q1
  have v4 := fun x : Ext _ => x.cell q2
  refine wp_region_ext (by kernel_rfl) (by kernel_rfl) ?_
  repeat (go_big_quiet_step ((go_at_call 17; exact calls_ext (r3_Ref _ _ _ _ _ _ _ hmx))))
  refine wpQuiet_nil ?_
  rintro _ ⟨x, rfl⟩
  clear v0 v1 v2 v3 v4 q1 q2 d0 d1 d2 a0 a1 a2
  replace HF := Lib.hid (HF.out.later x.below)
  have d0 := HF.out.h0 (.head _); have d1 := HF.out.h1 (.head _); have d2 := HF.out.h2 (.head _); have a0 := HF.out.v0 (.tail _ (.head _)); have a1 := HF.out.v1 (.tail _ (.head _)); have a2 := HF.out.v2 (.tail _ (.head _))
  go_wp2
  by_cases hd0 : d = 0
  · have hdb : (d == 0) = true := beq_iff_eq.2 hd0
    clear hd0
    refine wp_region_ext (by kernel_rfl) (by kernel_rfl) ?_
    repeat (go_big_quiet_step (fail))
    refine wpQuiet_nil ?_
    rintro _ ⟨y, rfl⟩
    go_wp2
    go_ret
    exact ⟨rfl, (HF.out.later y.below).below⟩
  have HD0 := Lib.hid hd0
  have hdb : (d == 0) = false := beq_eq_false_iff_ne.2 hd0
  clear hd0
  by_cases hdc : d = c
  · have hcb : (d == c) = true := beq_iff_eq.2 hdc
    clear hdc
    refine wp_region_ext (by kernel_rfl) (by kernel_rfl) ?_
    repeat (go_big_quiet_step (fail))
    refine wpQuiet_nil ?_
    rintro _ ⟨y, rfl⟩
    go_wp2
    go_ret
    exact ⟨rfl, (HF.out.later y.below).below⟩
  have hcb : (d == c) = false := beq_eq_false_iff_ne.2 hdc
  clear hdc
  have hdp : pairsB h.objs d = true := by have := (of_decide_eq_true HM.out.2).2.2.2.2.1; rwa [show (obv h.objs c).slots.getD 1 0 = d from HD.out] at this
  have hdr : 0 ≤ refI h.objs.length d := by have := of_decide_eq_true hdp; omega
  have HDP := Lib.hid hdp
  clear hdp
  have hdn := (refI_bd h.objs.length d).2
  obtain ⟨iN, hiN⟩ : ∃ iN : Nat, refI h.objs.length d = iN := ⟨(refI h.objs.length d).toNat, by omega⟩
  have hil : iN < h.objs.length := by omega
  have HIN := Lib.hid hiN
  clear hiN hdr hdn
  obtain ⟨A3, c3, q⟩ := slots_at HR.out iN hil
  have q3 := q _ HF.out.below
  clear q
  obtain ⟨sl, hsl⟩ : ∃ n, (ob h.objs iN).slots.length = n := ⟨_, rfl⟩
  rw [hsl] at q3
  have HSL := Lib.hid hsl
  clear hsl
  have v0 := fun x : Ext _ => x.cell d0
  have v1 := fun x : Ext _ => x.cell d1
  have v2 := fun x : Ext _ => x.cell d2
  have v3 := fun x : Ext _ => x.cell q3
  have hrf : ∀ W, Calls Try.prog 17 #[.agg #[.slice (some ad) h.objs.length cp, .int .i64 h.cap, .int .i64 h.last], .int .i64 d] W fun e w' => e = .returned (.int .i64 iN) ∧ Below W.heap.size W w' := by
    intro W
    have := r3_Ref (some ad) h.objs.length cp h.cap h.last d W hmx
    rw [HIN.out] at this
    exact this
  have HRF := Lib.hid hrf
  clear hrf
  by_cases h60 : (60 : Int) < sl
  · refine wp_region_ext (by kernel_rfl) (by kernel_rfl) ?_
    repeat (go_big_quiet_step ((go_at_call 17; exact calls_ext (HRF.out _))))
    refine wpQuiet_nil ?_
    rintro _ ⟨y, rfl⟩
    go_wp2
    go_ret
    exact ⟨rfl, (HF.out.later y.below).below⟩
  refine wp_region_ext (by kernel_rfl) (by kernel_rfl) ?_
  repeat (go_big_quiet_step ((go_at_call 17; exact calls_ext (HRF.out _))))
  refine wpQuiet_nil ?_
  rintro _ ⟨y, rfl⟩
  clear v0 v1 v2 v3 q3 d0 d1 d2 a0 a1 a2
  replace HF := Lib.hid (HF.out.later y.below)
  go_wp2
  go_loopw [8] (fun u wr => ∃ k : Nat, u = .int .i64 k ∧ 1 ≤ k ∧ k ≤ h.objs.length ∧ Hid (OutP h.objs c d k) ∧ Hid (Frm w [] [(w.heap.size, hObj (some ad) cp h), (w.heap.size + 1, vObj x0 x1 x2)] wr)) (fun u _ => h.objs.length - (intOf u).toNat)
  case atStart => exact ⟨1, rfl, Nat.le_refl _, by omega, Lib.hid (out_first _ _ _), HF⟩
  case round =>
    clear HF
    obtain ⟨k, rfl, hk1, hk2, HOUT, HF⟩ := hrel
    have d0 := HF.out.h0 (.head _); have d1 := HF.out.h1 (.head _); have d2 := HF.out.h2 (.head _); have a0 := HF.out.v0 (.tail _ (.head _)); have a1 := HF.out.v1 (.tail _ (.head _)); have a2 := HF.out.v2 (.tail _ (.head _))
    by_cases hlt : k < h.objs.length
    · have hkk := ref_two_nat hlt (by omega)
      obtain ⟨A4, c4, q⟩ := slots_at HR.out k hlt
      have q4 := q _ HF.out.below
      clear q
      cases hcb2 : classB h.objs (2 * (k : Int)) with
      | false =>
        have hmc : (mayB h && classB h.objs (2 * (k : Int))) = false := by rw [hcb2, Bool.and_false]
        have HMC := Lib.hid hmc
        have HC2 := Lib.hid hcb2
        clear hmc hcb2 hkk
        go_wp2_with (go_at_call 16; refine (r9_May (some ad) cp h _ _ hl (HF.out.row HR.out)).mono ?_; rintro e w2 ⟨he, hb⟩; rw [HMC.out] at he; subst he; replace HF := Lib.hid (HF.out.later hb); clear hb; have d0 := HF.out.h0 (.head _); have d1 := HF.out.h1 (.head _); have d2 := HF.out.h2 (.head _); have a0 := HF.out.v0 (.tail _ (.head _)); have a1 := HF.out.v1 (.tail _ (.head _)); have a2 := HF.out.v2 (.tail _ (.head _)))
        go_roundw
        case rel => exact ⟨k + 1, by go_num, by omega, by omega, Lib.hid (out_no HOUT.out HC2.out), HF⟩
        case measure => simp [intOf]; omega
      | true =>
        have hmc : (mayB h && classB h.objs (2 * (k : Int))) = true := by rw [HM.out.1, hcb2]; rfl
        have HMC := Lib.hid hmc
        obtain ⟨ad5, c5, g3, gd, gn⟩ := dict_at HR.out hcb2
        have hov : obv h.objs (2 * (k : Int)) = ob h.objs k := by unfold obv; rw [hkk]; rfl
        rw [hov] at g3 gd
        rw [hkk, Int.toNat_natCast] at gd
        clear q4
        have GD := Lib.hid gd
        have q4 := (GD.out _ HF.out.below).1
        have q5 := (GD.out _ HF.out.below).2
        obtain ⟨dd, hdd⟩ : ∃ dd, dictI h.objs (2 * (k : Int)) = dd := ⟨_, rfl⟩
        rw [hdd] at q5
        have HDD := Lib.hid hdd
        have HC2 := Lib.hid hcb2
        clear gd hmc hcb2 hkk hov hdd gn
        obtain ⟨sk, hsk⟩ : ∃ n, (ob h.objs k).slots.length = n := ⟨_, rfl⟩
        rw [hsk] at q4 g3
        clear hsk
        cases hb1 : (2 * (k : Int) == c) <;> cases hb2 : (dd == d) <;> cases hb3 : (2 * (k : Int) == d)
        all_goals
          have hb4 : (2 * (k : Int) != c) = !(2 * (k : Int) == c) := rfl
          rw [hb1] at hb4
          simp only [Bool.not_true, Bool.not_false] at hb4
          have HB1 := Lib.hid hb1
          have HB2 := Lib.hid hb2
          have HB3 := Lib.hid hb3
          go_wp2_with (go_at_call 16; refine (r9_May (some ad) cp h _ _ hl (HF.out.row HR.out)).mono ?_; rintro e w2 ⟨he, hb⟩; rw [HMC.out] at he; subst he; replace HF := Lib.hid (HF.out.later hb); clear hb; have d0 := HF.out.h0 (.head _); have d1 := HF.out.h1 (.head _); have d2 := HF.out.h2 (.head _); have a0 := HF.out.v0 (.tail _ (.head _)); have a1 := HF.out.v1 (.tail _ (.head _)); have a2 := HF.out.v2 (.tail _ (.head _)); have q4 := (GD.out _ HF.out.below).1; have q5 := (GD.out _ HF.out.below).2; rw [HDD.out] at q5)
          first
            | (go_ret; exact ⟨rfl, HF.out.below⟩)
            | (go_roundw
               case rel => exact ⟨k + 1, by go_num, by omega, by omega, Lib.hid (out_yes HOUT.out (by first | exact .inl HB1.out | exact .inr (by rw [HDD.out]; exact HB2.out)) HB3.out), HF⟩
               case measure => simp [intOf]; omega)
    · obtain rfl : k = h.objs.length := by omega
      have h0 : 0 < h.objs.length := by omega
      have h60' : (ob h.objs iN).slots.length ≤ 60 := by have := HSL.out; omega
      go_upto_region 13 with (go_at_call 19; refine (r3_Copy (some ad) cp h _ HM.out.1 (by omega) h0 hl (HF.out.row HR.out)).mono ?_; rintro e w3 ⟨B, cap2, rfl, ho, hB, hb⟩; have HO := Lib.hid ho; replace HF := Lib.hid (show Frm w [B] _ w3 from HF.out.more [B] (by simpa using hB) hb); clear ho hb; have d0 := HF.out.h0 (.head _); have d1 := HF.out.h1 (.head _); have d2 := HF.out.h2 (.head _); have a0 := HF.out.v0 (.tail _ (.head _)); have a1 := HF.out.v1 (.tail _ (.head _)); have a2 := HF.out.v2 (.tail _ (.head _)))
      have HNE := Lib.hid (show w3.heap.size ≠ B from Nat.ne_of_gt HO.out.lt)
      refine wp_box1 (fun w4 hb hx hsz => ?_)
      have HGB : Hid (w4.heap[w3.heap.size]? = some (hObj (some ⟨B, 0, none⟩) cap2 h)) := Lib.hid hx
      replace HF := Lib.hid (HF.out.later hb)
      replace HO := Lib.hid (HO.out.later hb)
      clear hb hx hsz
      have d0 := HF.out.h0 (.head _); have d1 := HF.out.h1 (.head _); have d2 := HF.out.h2 (.head _); have a0 := HF.out.v0 (.tail _ (.head _)); have a1 := HF.out.v1 (.tail _ (.head _)); have a2 := HF.out.v2 (.tail _ (.head _))
      go_upto_region 14 with (go_at_call 17; refine (HRF.out _).mono ?_; rintro e w5 ⟨rfl, hb⟩; replace HGB := Lib.hid ((hb.block _ (Array.getElem?_eq_some_iff.1 HGB.out).1).trans HGB.out); replace HF := Lib.hid (HF.out.later hb); replace HO := Lib.hid (HO.out.later hb); clear hb; have d0 := HF.out.h0 (.head _); have d1 := HF.out.h1 (.head _); have d2 := HF.out.h2 (.head _); have a0 := HF.out.v0 (.tail _ (.head _)); have a1 := HF.out.v1 (.tail _ (.head _)); have a2 := HF.out.v2 (.tail _ (.head _)))
      clear HRF
      have g0 : w5.cell? ⟨w3.heap.size, 0, none⟩ = some (.slice (some ⟨B, 0, none⟩) h.objs.length cap2) := cellof HGB.out 0
      obtain ⟨adB, A6, c6, hadB, hob⟩ := obs_at HO.out.C iN hil
      have hadB' : adB = ⟨B, 0, none⟩ := by injection hadB with e; exact e.symm
      subst hadB'
      clear hadB
      have s2 : w5.cell? ⟨B, iN * 6 + 2, none⟩ = some (.slice A6 (ob h.objs iN).slots.length c6) := by have := hob.c2; rwa [show ((⟨B, 0, none⟩ : Addr).add (iN * 6)) = ⟨B, iN * 6, none⟩ by unfold Addr.add; split <;> simp_all] at this
      have HRD := Lib.hid hob.rd
      have HMY : Hid (mayB ⟨laid h.objs iN x0 x1, h.cap, h.last⟩ = true) := Lib.hid (laid_may HM.out.1 hil (dict_kind HDP.out HD0.out HIN.out) h60' HX.out HY.out)
      obtain ⟨bD, hbD⟩ : ∃ b, classB (laid h.objs iN x0 x1) d = b := ⟨_, rfl⟩
      have HBD := Lib.hid hbD
      clear hbD
      clear hob d0 d1 d2
      have t3 := cell_on s2
      have HN2 : w.heap.size + 1 ≠ B := fun e => (HF.out.bx _ (.tail _ (.head _))).2 (e ▸ .head _)
      have HN1 := HNE.out
      refine wp_region_held_drew (S := fun w' => w'.cell? ⟨w3.heap.size, 0, none⟩ = some (.slice (some ⟨B, 0, none⟩) h.objs.length cap2) ∧ w'.cell? ⟨w.heap.size + 1, 0, none⟩ = some (.int .i64 x0) ∧ w'.cell? ⟨w.heap.size + 1, 1, none⟩ = some (.int .i64 x1)) (by kernel_rfl) ?_ (fun hHeld => ?_)
      · exact ⟨g0, a0, a1⟩
      refine wpAnyH_take (i := 0) (oi := { dst := some 125, op := Op.fieldAddr 24 (Operand.tmp 10) 0, type := 0, pos := "law.go:106", after := #[], guard := none }) (v := ?_) rfl (by kernel_rfl) (by kernel_rfl) (by kernel_rfl) (fun _ _ _ h => h) (Or.inl ⟨by rfl, ?_⟩) (by assumption) ?_
      rotate_left 1
      · (intro wq hSw; (try dsimp only at hSw); go_simp <;> with_reducible rfl)
      try simp only [Act.put, List.setIfInBounds_toArray, List.set_cons_zero, List.set_cons_succ]
      refine wpAnyH_take (i := 1) (oi := { dst := some 126, op := Op.load 22 (Operand.tmp 125), type := 22, pos := "law.go:106", after := #[{ on := 0, ground := Ground.data }], guard := none }) (v := ?_) rfl (by kernel_rfl) (by kernel_rfl) (by kernel_rfl) (fun _ _ _ h => h) (Or.inl ⟨by rfl, ?_⟩) (by assumption) ?_
      rotate_left 1
      · (intro wq hSw; (try dsimp only at hSw); go_simp <;> with_reducible rfl)
      try simp only [Act.put, List.setIfInBounds_toArray, List.set_cons_zero, List.set_cons_succ]
      refine wpAnyH_take (i := 2) (oi := { dst := some 127, op := Op.move (Operand.tmp 11), type := 3, pos := "law.go:106", after := #[], guard := none }) (v := ?_) rfl (by kernel_rfl) (by kernel_rfl) (by kernel_rfl) (fun _ _ _ h => h) (Or.inl ⟨by rfl, ?_⟩) (by assumption) ?_
      rotate_left 1
      · (intro wq hSw; (try dsimp only at hSw); go_simp <;> with_reducible rfl)
      try simp only [Act.put, List.setIfInBounds_toArray, List.set_cons_zero, List.set_cons_succ]
      refine wpAnyH_take (i := 3) (oi := { dst := some 128, op := Op.indexAddr 36 (Operand.tmp 5) (Operand.const (Value.int IntKind.i64 0)), type := 0, pos := "law.go:106", after := #[], guard := none }) (v := ?_) rfl (by kernel_rfl) (by kernel_rfl) (by kernel_rfl) (fun _ _ _ h => h) (Or.inl ⟨by rfl, ?_⟩) (by assumption) ?_
      rotate_left 1
      · (intro wq hSw; (try dsimp only at hSw); go_simp <;> with_reducible rfl)
      try simp only [Act.put, List.setIfInBounds_toArray, List.set_cons_zero, List.set_cons_succ]
      refine wpAnyH_take (i := 4) (oi := { dst := some 129, op := Op.load 3 (Operand.tmp 128), type := 3, pos := "law.go:106", after := #[{ on := 3, ground := Ground.data }], guard := none }) (v := ?_) rfl (by kernel_rfl) (by kernel_rfl) (by kernel_rfl) (fun _ _ _ h => h) (Or.inl ⟨by rfl, ?_⟩) (by assumption) ?_
      rotate_left 1
      · (intro wq hSw; (try dsimp only at hSw); go_simp <;> with_reducible rfl)
      try simp only [Act.put, List.setIfInBounds_toArray, List.set_cons_zero, List.set_cons_succ]
      refine wpAnyH_take (i := 5) (oi := { dst := some 130, op := Op.indexAddr 36 (Operand.tmp 5) (Operand.const (Value.int IntKind.i64 1)), type := 0, pos := "law.go:106", after := #[], guard := none }) (v := ?_) rfl (by kernel_rfl) (by kernel_rfl) (by kernel_rfl) (fun _ _ _ h => h) (Or.inl ⟨by rfl, ?_⟩) (by assumption) ?_
      rotate_left 1
      · (intro wq hSw; (try dsimp only at hSw); go_simp <;> with_reducible rfl)
      try simp only [Act.put, List.setIfInBounds_toArray, List.set_cons_zero, List.set_cons_succ]
      refine wpAnyH_take (i := 6) (oi := { dst := some 131, op := Op.load 3 (Operand.tmp 130), type := 3, pos := "law.go:106", after := #[{ on := 5, ground := Ground.data }], guard := none }) (v := ?_) rfl (by kernel_rfl) (by kernel_rfl) (by kernel_rfl) (fun _ _ _ h => h) (Or.inl ⟨by rfl, ?_⟩) (by assumption) ?_
      rotate_left 1
      · (intro wq hSw; (try dsimp only at hSw); go_simp <;> with_reducible rfl)
      try simp only [Act.put, List.setIfInBounds_toArray, List.set_cons_zero, List.set_cons_succ]
      refine wpAnyH_take (i := 8) (oi := { dst := some 133, op := Op.fieldAddr 24 (Operand.tmp 10) 0, type := 0, pos := "law.go:106", after := #[], guard := none }) (v := ?_) rfl (by kernel_rfl) (by kernel_rfl) (by kernel_rfl) (fun _ _ _ h => h) (Or.inl ⟨by rfl, ?_⟩) (by assumption) ?_
      rotate_left 1
      · (intro wq hSw; (try dsimp only at hSw); go_simp <;> with_reducible rfl)
      try simp only [Act.put, List.setIfInBounds_toArray, List.set_cons_zero, List.set_cons_succ]
      refine wpAnyH_take (i := 9) (oi := { dst := some 134, op := Op.load 22 (Operand.tmp 133), type := 22, pos := "law.go:106", after := #[{ on := 8, ground := Ground.data }], guard := none }) (v := ?_) rfl (by kernel_rfl) (by kernel_rfl) (by kernel_rfl) (fun _ _ _ h => h) (Or.inl ⟨by rfl, ?_⟩) (by assumption) ?_
      rotate_left 1
      · (intro wq hSw; (try dsimp only at hSw); go_simp <;> with_reducible rfl)
      try simp only [Act.put, List.setIfInBounds_toArray, List.set_cons_zero, List.set_cons_succ]
      refine wpAnyH_take (i := 10) (oi := { dst := some 135, op := Op.move (Operand.tmp 11), type := 3, pos := "law.go:106", after := #[], guard := none }) (v := ?_) rfl (by kernel_rfl) (by kernel_rfl) (by kernel_rfl) (fun _ _ _ h => h) (Or.inl ⟨by rfl, ?_⟩) (by assumption) ?_
      rotate_left 1
      · (intro wq hSw; (try dsimp only at hSw); go_simp <;> with_reducible rfl)
      try simp only [Act.put, List.setIfInBounds_toArray, List.set_cons_zero, List.set_cons_succ]
      refine wpAnyH_take (i := 11) (oi := { dst := some 136, op := Op.indexAddr 22 (Operand.tmp 134) (Operand.tmp 135), type := 0, pos := "law.go:106", after := #[{ on := 9, ground := Ground.data }, { on := 10, ground := Ground.data }], guard := none }) (v := ?_) rfl (by kernel_rfl) (by kernel_rfl) (by kernel_rfl) (fun _ _ _ h => h) (Or.inl ⟨by rfl, ?_⟩) (by assumption) ?_
      rotate_left 1
      · (intro wq hSw; (try dsimp only at hSw); go_simp <;> with_reducible rfl)
      try simp only [Act.put, List.setIfInBounds_toArray, List.set_cons_zero, List.set_cons_succ]
      refine wpAnyH_take (i := 12) (oi := { dst := some 137, op := Op.fieldAddr 34 (Operand.tmp 136) 2, type := 0, pos := "law.go:106", after := #[{ on := 11, ground := Ground.data }], guard := none }) (v := ?_) rfl (by kernel_rfl) (by kernel_rfl) (by kernel_rfl) (fun _ _ _ h => h) (Or.inl ⟨by rfl, ?_⟩) (by assumption) ?_
      rotate_left 1
      · (intro wq hSw; (try dsimp only at hSw); go_simp <;> with_reducible rfl)
      try simp only [Act.put, List.setIfInBounds_toArray, List.set_cons_zero, List.set_cons_succ]
      refine wpAnyH_ready (rs := [7, 13]) (by kernel_rfl) (by simp) ?_
      refine AllReadyH.cons (o := { dst := some 132, op := Op.buildSlice 32 2 #[(0, Operand.tmp 129), (1, Operand.tmp 131)], type := 32, pos := "law.go:106", after := #[{ on := 4, ground := Ground.data }, { on := 6, ground := Ground.data }], guard := none }) rfl (fun K hK => ?_) (AllReadyH.cons (o := { dst := some 138, op := Op.load 32 (Operand.tmp 137), type := 32, pos := "law.go:106", after := #[{ on := 12, ground := Ground.data }], guard := none }) rfl (fun K hK => ?_) AllReadyH.nil)
      · go_simp
        refine hK.out _ _ ?_ (fun hHeld => ?_)
        · exact ⟨cell_on g0 _, cell_on a0 _, cell_on a1 _⟩
        clear hK K
        try simp only [Act.put, List.setIfInBounds_toArray, List.set_cons_zero, List.set_cons_succ]
        refine wpAnyH_ready (rs := [13]) (by kernel_rfl) (by simp) ?_
        refine AllReadyH.cons (o := { dst := some 138, op := Op.load 32 (Operand.tmp 137), type := 32, pos := "law.go:106", after := #[{ on := 12, ground := Ground.data }], guard := none }) rfl (fun K hK => ?_) AllReadyH.nil
        go_simp
        refine hK.out _ _ ?_ (fun hHeld => ?_)
        · exact ⟨cell_on g0 _, cell_on a0 _, cell_on a1 _⟩
        clear hK K
        try simp only [Act.put, List.setIfInBounds_toArray, List.set_cons_zero, List.set_cons_succ]
        refine wpAnyH_ready (rs := [14]) (by kernel_rfl) (by simp) ?_
        refine AllReadyH.cons (o := { dst := some 139, op := Op.call { callee := Callee.builtin Builtin.append, args := #[Operand.tmp 132, Operand.tmp 138], argTypes := #[32, 32] }, type := 32, pos := "law.go:106", after := #[{ on := 7, ground := Ground.data }, { on := 13, ground := Ground.data }], guard := none }) rfl (fun K hK => ?_) AllReadyH.nil
        refine step_app (by rfl) _ _ (by rfl) w5.heap.size x0 x1 A6 c6 (ob h.objs iN).slots (by rfl) (by rfl) (heap_alloc_new w5 _) (Kd.C_below HRD.out ((Below.refl _ _).alloc (Nat.le_refl _) _).drew) (by omega) ?_
        intro gg cap3 w6 hC6 hB6 hcap6 hgg6 hlt6
        have hb56 : Below w5.heap.size w5 w6 := (((Below.refl _ _).alloc (Nat.le_refl _) _).drew).trans (hB6.mono (by simp))
        have HB56 := Lib.hid hb56
        have HC6 := Lib.hid hC6
        have HGG := Lib.hid hgg6
        clear hC6 hB6 hgg6
        have g0' := pw_cell_below hb56 g0
        have a0' := pw_cell_below hb56 a0
        have a1' := pw_cell_below hb56 a1
        have s2' := pw_cell_below hb56 s2
        have z2 : w6.frozen? ⟨B, iN * 6 + 2, none⟩ = false := by obtain ⟨cur, row, hcur, _⟩ := (HO.out.later hb56).rows; exact blk_frozen hcur _
        clear hb56
        refine hK.out _ _ ?_ (fun hHeld => ?_)
        · exact ⟨g0', a0', a1'⟩
        clear hK K
        try simp only [Act.put, List.setIfInBounds_toArray, List.set_cons_zero, List.set_cons_succ]
        refine wpAnyH_take (i := 15) (oi := { dst := some 140, op := Op.indexAddr 22 (Operand.tmp 126) (Operand.tmp 127), type := 0, pos := "law.go:106", after := #[{ on := 1, ground := Ground.data }, { on := 2, ground := Ground.data }, { on := 0, ground := Ground.phase }, { on := 1, ground := Ground.phase }, { on := 2, ground := Ground.phase }, { on := 3, ground := Ground.phase }, { on := 4, ground := Ground.phase }, { on := 5, ground := Ground.phase }, { on := 6, ground := Ground.phase }, { on := 7, ground := Ground.phase }, { on := 8, ground := Ground.phase }, { on := 9, ground := Ground.phase }, { on := 10, ground := Ground.phase }, { on := 11, ground := Ground.phase }, { on := 12, ground := Ground.phase }, { on := 13, ground := Ground.phase }, { on := 14, ground := Ground.phase }], guard := none }) (v := ?_) rfl (by kernel_rfl) (by kernel_rfl) (by kernel_rfl) (fun _ _ _ h => h) (Or.inl ⟨by rfl, ?_⟩) (by assumption) ?_
        rotate_left 1
        · (intro wq hSw; (try dsimp only at hSw); go_simp <;> with_reducible rfl)
        try simp only [Act.put, List.setIfInBounds_toArray, List.set_cons_zero, List.set_cons_succ]
        refine wpAnyH_take (i := 16) (oi := { dst := some 141, op := Op.fieldAddr 34 (Operand.tmp 140) 2, type := 0, pos := "law.go:106", after := #[{ on := 15, ground := Ground.data }, { on := 0, ground := Ground.phase }, { on := 1, ground := Ground.phase }, { on := 2, ground := Ground.phase }, { on := 3, ground := Ground.phase }, { on := 4, ground := Ground.phase }, { on := 5, ground := Ground.phase }, { on := 6, ground := Ground.phase }, { on := 7, ground := Ground.phase }, { on := 8, ground := Ground.phase }, { on := 9, ground := Ground.phase }, { on := 10, ground := Ground.phase }, { on := 11, ground := Ground.phase }, { on := 12, ground := Ground.phase }, { on := 13, ground := Ground.phase }, { on := 14, ground := Ground.phase }], guard := none }) (v := ?_) rfl (by kernel_rfl) (by kernel_rfl) (by kernel_rfl) (fun _ _ _ h => h) (Or.inl ⟨by rfl, ?_⟩) (by assumption) ?_
        rotate_left 1
        · (intro wq hSw; (try dsimp only at hSw); go_simp <;> with_reducible rfl)
        try simp only [Act.put, List.setIfInBounds_toArray, List.set_cons_zero, List.set_cons_succ]
        refine wpAnyH_ready (rs := [17]) (by kernel_rfl) (by simp) ?_
        refine AllReadyH.cons (o := { dst := none, op := Op.store 32 (Operand.tmp 141) (Operand.tmp 139), type := 0, pos := "law.go:106", after := #[{ on := 16, ground := Ground.data }, { on := 14, ground := Ground.data }, { on := 14, ground := Ground.chain }, { on := 0, ground := Ground.phase }, { on := 1, ground := Ground.phase }, { on := 2, ground := Ground.phase }, { on := 3, ground := Ground.phase }, { on := 4, ground := Ground.phase }, { on := 5, ground := Ground.phase }, { on := 6, ground := Ground.phase }, { on := 7, ground := Ground.phase }, { on := 8, ground := Ground.phase }, { on := 9, ground := Ground.phase }, { on := 10, ground := Ground.phase }, { on := 11, ground := Ground.phase }, { on := 12, ground := Ground.phase }, { on := 13, ground := Ground.phase }, { on := 14, ground := Ground.phase }], guard := none }) rfl (fun K hK => ?_) AllReadyH.nil
        go_simp
        refine hK.out _ _ ?_ (fun hHeld => ?_)
        · exact ⟨set_other g0' HN1, set_other a0' HN2, set_other a1' HN2⟩
        clear hK K
        try simp only [Act.put, List.setIfInBounds_toArray, List.set_cons_zero, List.set_cons_succ]
        refine wpAnyH_done (by kernel_rfl) ?_ _
        have hgB : gg ≠ B := by
          have h1 := HO.out.lt
          rcases HGG.out with h2 | h2 <;> (first | omega | (simp at h2; omega))
        have HO7 := Lib.hid (OwnH.set (HO.out.later HB56.out) (x := x0) (y := x1) (c2 := cap3) hil (by omega) hgB hlt6 HC6.out)
        have HF7 : Hid (Frm w [B] [(w.heap.size, hObj (some ad) cp h), (w.heap.size + 1, vObj x0 x1 x2)] (w6.setCell ⟨B, iN * 6 + 2, none⟩ (.slice (some ⟨gg, 0, none⟩) (2 + (ob h.objs iN).slots.length) cap3))) := Lib.hid ((HF.out.later HB56.out).keep (Keep2.set_a (a := B) (b := B) w6 _ _) (.head _) (.head _))
        have HG7 : Hid ((w6.setCell ⟨B, iN * 6 + 2, none⟩ (.slice (some ⟨gg, 0, none⟩) (2 + (ob h.objs iN).slots.length) cap3)).heap[w3.heap.size]? = some (hObj (some ⟨B, 0, none⟩) cap2 h)) := Lib.hid (blk_far (p := ⟨B, iN * 6 + 2, none⟩) ((HB56.out.block _ (Array.getElem?_eq_some_iff.1 HGB.out).1).trans HGB.out) HNE.out _)
        clear HB56 HC6 HGG HF HO HGB g0 a0 a1 a2 s2 g0' a0' a1' s2' z2 t3 HN1 HN2 hlt6 hgB HRD
        have HF := HF7
        have HO := HO7
        have HGB := HG7
        clear HF7 HO7 HG7
        have d0 := HF.out.h0 (.head _); have d1 := HF.out.h1 (.head _); have d2 := HF.out.h2 (.head _); have a0 := HF.out.v0 (.tail _ (.head _)); have a1 := HF.out.v1 (.tail _ (.head _)); have a2 := HF.out.v2 (.tail _ (.head _))
        have g0 := hObj0 HGB.out
        have g1 := hObj1 HGB.out
        have g2 := hObj2 HGB.out
        cases bD with
        | true =>
          go_wp2_with (first | (go_at_call 16; refine (g_May HMY.out _ d HO.out).mono ?_; rintro e w7 ⟨he, hb⟩; rw [HBD.out] at he; subst he; replace HF := Lib.hid (HF.out.later hb); replace HO := Lib.hid (HO.out.later hb); replace HGB := Lib.hid ((hb.block _ (Array.getElem?_eq_some_iff.1 HGB.out).1).trans HGB.out); clear hb; have d0 := HF.out.h0 (.head _); have d1 := HF.out.h1 (.head _); have d2 := HF.out.h2 (.head _); have a0 := HF.out.v0 (.tail _ (.head _)); have a1 := HF.out.v1 (.tail _ (.head _)); have a2 := HF.out.v2 (.tail _ (.head _)); have g0 := hObj0 HGB.out; have g1 := hObj1 HGB.out; have g2 := hObj2 HGB.out))
          go_ret
          exact ⟨rfl, HF.out.below⟩
        | false =>
          have HLP : Hid (LaysP h.objs c d x0 x1) := Lib.hid ⟨HM.out.2, HD.out, HD0.out, by rw [HIN.out]; omega, HOUT.out, by rw [HIN.out]; exact HBD.out⟩
          have HCG : Hid (classB (laid h.objs iN x0 x1) c = true) := Lib.hid (by have := HLP.out.same c; rw [HIN.out] at this; exact this.trans HM.out.2)
          have HFD : Hid (findL (laid h.objs iN x0 x1) x0 (upL (laid h.objs iN x0 x1) 64 c) = (x1, c, 0)) := Lib.hid (by have := HLP.out.found; rw [HIN.out] at this; exact this)
          obtain ⟨⟨rp, rk, rf⟩, hrr⟩ : ∃ r, findI h c x2 = r := ⟨_, rfl⟩
          have HRR := Lib.hid hrr
          obtain ⟨⟨sp, sk, sf⟩, hss⟩ : ∃ r, findL (laid h.objs iN x0 x1) x2 (upL (laid h.objs iN x0 x1) 64 c) = r := ⟨_, rfl⟩
          have HSS := Lib.hid hss
          have hcase : (x2 == x0) = true ∨ ((x2 == x0) = false ∧ sp = rp ∧ sk = rk ∧ sf = rf) := by
            by_cases e : x2 = x0
            · exact .inl (beq_iff_eq.2 e)
            · right
              have h1 := HLP.out.find (sel := x2) e
              rw [HIN.out, Int.toNat_natCast] at h1
              have h2 : findI h c x2 = findL h.objs x2 (upL h.objs 64 c) := if_pos HM.out.1
              rw [hss, ← h2, hrr] at h1
              injection h1 with e1 h1
              injection h1 with e2 e3
              exact ⟨beq_eq_false_iff_ne.2 e, e1, e2, e3⟩
          clear hrr hss
          rcases hcase with he2 | ⟨he2, rfl, rfl, rfl⟩
          all_goals
            go_wp2_with (first
              | (go_at_call_of 16 (Value.int .i64 d); refine (g_May HMY.out _ d HO.out).mono ?_; rintro e w7 ⟨he, hb⟩; rw [HBD.out] at he; subst he; replace HF := Lib.hid (HF.out.later hb); replace HO := Lib.hid (HO.out.later hb); replace HGB := Lib.hid ((hb.block _ (Array.getElem?_eq_some_iff.1 HGB.out).1).trans HGB.out); clear hb; have d0 := HF.out.h0 (.head _); have d1 := HF.out.h1 (.head _); have d2 := HF.out.h2 (.head _); have a0 := HF.out.v0 (.tail _ (.head _)); have a1 := HF.out.v1 (.tail _ (.head _)); have a2 := HF.out.v2 (.tail _ (.head _)); have g0 := hObj0 HGB.out; have g1 := hObj1 HGB.out; have g2 := hObj2 HGB.out)
              | (go_at_call_of 16 (Value.int .i64 c); refine (g_May HMY.out _ c HO.out).mono ?_; rintro e w7 ⟨he, hb⟩; rw [HCG.out] at he; subst he; replace HF := Lib.hid (HF.out.later hb); replace HO := Lib.hid (HO.out.later hb); replace HGB := Lib.hid ((hb.block _ (Array.getElem?_eq_some_iff.1 HGB.out).1).trans HGB.out); clear hb; have d0 := HF.out.h0 (.head _); have d1 := HF.out.h1 (.head _); have d2 := HF.out.h2 (.head _); have a0 := HF.out.v0 (.tail _ (.head _)); have a1 := HF.out.v1 (.tail _ (.head _)); have a2 := HF.out.v2 (.tail _ (.head _)); have g0 := hObj0 HGB.out; have g1 := hObj1 HGB.out; have g2 := hObj2 HGB.out)
              | (go_at_call_of 14 (Value.agg #[.slice (some ad) h.objs.length cp, .int .i64 h.cap, .int .i64 h.last]); refine (look_Find (some ad) cp h c x2 _ HI.out hl (HF.out.row HR.out)).mono ?_; rintro e w7 ⟨he, hb⟩; rw [HRR.out] at he; subst he; replace HF := Lib.hid (HF.out.later hb); replace HO := Lib.hid (HO.out.later hb); replace HGB := Lib.hid ((hb.block _ (Array.getElem?_eq_some_iff.1 HGB.out).1).trans HGB.out); clear hb; have d0 := HF.out.h0 (.head _); have d1 := HF.out.h1 (.head _); have d2 := HF.out.h2 (.head _); have a0 := HF.out.v0 (.tail _ (.head _)); have a1 := HF.out.v1 (.tail _ (.head _)); have a2 := HF.out.v2 (.tail _ (.head _)); have g0 := hObj0 HGB.out; have g1 := hObj1 HGB.out; have g2 := hObj2 HGB.out)
              | (go_at_call_of 14 (Value.int .i64 x0); refine (g_Find HI.out hil HMY.out _ c x0 HO.out).mono ?_; rintro e w7 ⟨he, hb⟩; rw [HFD.out] at he; subst he; replace HF := Lib.hid (HF.out.later hb); replace HO := Lib.hid (HO.out.later hb); replace HGB := Lib.hid ((hb.block _ (Array.getElem?_eq_some_iff.1 HGB.out).1).trans HGB.out); clear hb; have d0 := HF.out.h0 (.head _); have d1 := HF.out.h1 (.head _); have d2 := HF.out.h2 (.head _); have a0 := HF.out.v0 (.tail _ (.head _)); have a1 := HF.out.v1 (.tail _ (.head _)); have a2 := HF.out.v2 (.tail _ (.head _)); have g0 := hObj0 HGB.out; have g1 := hObj1 HGB.out; have g2 := hObj2 HGB.out)
              | (go_at_call_of 14 (Value.int .i64 x2); refine (g_Find HI.out hil HMY.out _ c x2 HO.out).mono ?_; rintro e w7 ⟨he, hb⟩; rw [HSS.out] at he; subst he; replace HF := Lib.hid (HF.out.later hb); replace HO := Lib.hid (HO.out.later hb); replace HGB := Lib.hid ((hb.block _ (Array.getElem?_eq_some_iff.1 HGB.out).1).trans HGB.out); clear hb; have d0 := HF.out.h0 (.head _); have d1 := HF.out.h1 (.head _); have d2 := HF.out.h2 (.head _); have a0 := HF.out.v0 (.tail _ (.head _)); have a1 := HF.out.v1 (.tail _ (.head _)); have a2 := HF.out.v2 (.tail _ (.head _)); have g0 := hObj0 HGB.out; have g1 := hObj1 HGB.out; have g2 := hObj2 HGB.out))
            go_ret
            exact ⟨rfl, HF.out.below⟩
      · go_simp
        refine hK.out _ _ ?_ (fun hHeld => ?_)
        · exact ⟨g0, a0, a1⟩
        clear hK K
        try simp only [Act.put, List.setIfInBounds_toArray, List.set_cons_zero, List.set_cons_succ]
        refine wpAnyH_ready (rs := [7]) (by kernel_rfl) (by simp) ?_
        refine AllReadyH.cons (o := { dst := some 132, op := Op.buildSlice 32 2 #[(0, Operand.tmp 129), (1, Operand.tmp 131)], type := 32, pos := "law.go:106", after := #[{ on := 4, ground := Ground.data }, { on := 6, ground := Ground.data }], guard := none }) rfl (fun K hK => ?_) AllReadyH.nil
        go_simp
        refine hK.out _ _ ?_ (fun hHeld => ?_)
        · exact ⟨cell_on g0 _, cell_on a0 _, cell_on a1 _⟩
        clear hK K
        try simp only [Act.put, List.setIfInBounds_toArray, List.set_cons_zero, List.set_cons_succ]
        refine wpAnyH_ready (rs := [14]) (by kernel_rfl) (by simp) ?_
        refine AllReadyH.cons (o := { dst := some 139, op := Op.call { callee := Callee.builtin Builtin.append, args := #[Operand.tmp 132, Operand.tmp 138], argTypes := #[32, 32] }, type := 32, pos := "law.go:106", after := #[{ on := 7, ground := Ground.data }, { on := 13, ground := Ground.data }], guard := none }) rfl (fun K hK => ?_) AllReadyH.nil
        refine step_app (by rfl) _ _ (by rfl) w5.heap.size x0 x1 A6 c6 (ob h.objs iN).slots (by rfl) (by rfl) (heap_alloc_new w5 _) (Kd.C_below HRD.out ((Below.refl _ _).alloc (Nat.le_refl _) _).drew) (by omega) ?_
        intro gg cap3 w6 hC6 hB6 hcap6 hgg6 hlt6
        have hb56 : Below w5.heap.size w5 w6 := (((Below.refl _ _).alloc (Nat.le_refl _) _).drew).trans (hB6.mono (by simp))
        have HB56 := Lib.hid hb56
        have HC6 := Lib.hid hC6
        have HGG := Lib.hid hgg6
        clear hC6 hB6 hgg6
        have g0' := pw_cell_below hb56 g0
        have a0' := pw_cell_below hb56 a0
        have a1' := pw_cell_below hb56 a1
        have s2' := pw_cell_below hb56 s2
        have z2 : w6.frozen? ⟨B, iN * 6 + 2, none⟩ = false := by obtain ⟨cur, row, hcur, _⟩ := (HO.out.later hb56).rows; exact blk_frozen hcur _
        clear hb56
        refine hK.out _ _ ?_ (fun hHeld => ?_)
        · exact ⟨g0', a0', a1'⟩
        clear hK K
        try simp only [Act.put, List.setIfInBounds_toArray, List.set_cons_zero, List.set_cons_succ]
        refine wpAnyH_take (i := 15) (oi := { dst := some 140, op := Op.indexAddr 22 (Operand.tmp 126) (Operand.tmp 127), type := 0, pos := "law.go:106", after := #[{ on := 1, ground := Ground.data }, { on := 2, ground := Ground.data }, { on := 0, ground := Ground.phase }, { on := 1, ground := Ground.phase }, { on := 2, ground := Ground.phase }, { on := 3, ground := Ground.phase }, { on := 4, ground := Ground.phase }, { on := 5, ground := Ground.phase }, { on := 6, ground := Ground.phase }, { on := 7, ground := Ground.phase }, { on := 8, ground := Ground.phase }, { on := 9, ground := Ground.phase }, { on := 10, ground := Ground.phase }, { on := 11, ground := Ground.phase }, { on := 12, ground := Ground.phase }, { on := 13, ground := Ground.phase }, { on := 14, ground := Ground.phase }], guard := none }) (v := ?_) rfl (by kernel_rfl) (by kernel_rfl) (by kernel_rfl) (fun _ _ _ h => h) (Or.inl ⟨by rfl, ?_⟩) (by assumption) ?_
        rotate_left 1
        · (intro wq hSw; (try dsimp only at hSw); go_simp <;> with_reducible rfl)
        try simp only [Act.put, List.setIfInBounds_toArray, List.set_cons_zero, List.set_cons_succ]
        refine wpAnyH_take (i := 16) (oi := { dst := some 141, op := Op.fieldAddr 34 (Operand.tmp 140) 2, type := 0, pos := "law.go:106", after := #[{ on := 15, ground := Ground.data }, { on := 0, ground := Ground.phase }, { on := 1, ground := Ground.phase }, { on := 2, ground := Ground.phase }, { on := 3, ground := Ground.phase }, { on := 4, ground := Ground.phase }, { on := 5, ground := Ground.phase }, { on := 6, ground := Ground.phase }, { on := 7, ground := Ground.phase }, { on := 8, ground := Ground.phase }, { on := 9, ground := Ground.phase }, { on := 10, ground := Ground.phase }, { on := 11, ground := Ground.phase }, { on := 12, ground := Ground.phase }, { on := 13, ground := Ground.phase }, { on := 14, ground := Ground.phase }], guard := none }) (v := ?_) rfl (by kernel_rfl) (by kernel_rfl) (by kernel_rfl) (fun _ _ _ h => h) (Or.inl ⟨by rfl, ?_⟩) (by assumption) ?_
        rotate_left 1
        · (intro wq hSw; (try dsimp only at hSw); go_simp <;> with_reducible rfl)
        try simp only [Act.put, List.setIfInBounds_toArray, List.set_cons_zero, List.set_cons_succ]
        refine wpAnyH_ready (rs := [17]) (by kernel_rfl) (by simp) ?_
        refine AllReadyH.cons (o := { dst := none, op := Op.store 32 (Operand.tmp 141) (Operand.tmp 139), type := 0, pos := "law.go:106", after := #[{ on := 16, ground := Ground.data }, { on := 14, ground := Ground.data }, { on := 14, ground := Ground.chain }, { on := 0, ground := Ground.phase }, { on := 1, ground := Ground.phase }, { on := 2, ground := Ground.phase }, { on := 3, ground := Ground.phase }, { on := 4, ground := Ground.phase }, { on := 5, ground := Ground.phase }, { on := 6, ground := Ground.phase }, { on := 7, ground := Ground.phase }, { on := 8, ground := Ground.phase }, { on := 9, ground := Ground.phase }, { on := 10, ground := Ground.phase }, { on := 11, ground := Ground.phase }, { on := 12, ground := Ground.phase }, { on := 13, ground := Ground.phase }, { on := 14, ground := Ground.phase }], guard := none }) rfl (fun K hK => ?_) AllReadyH.nil
        go_simp
        refine hK.out _ _ ?_ (fun hHeld => ?_)
        · exact ⟨set_other g0' HN1, set_other a0' HN2, set_other a1' HN2⟩
        clear hK K
        try simp only [Act.put, List.setIfInBounds_toArray, List.set_cons_zero, List.set_cons_succ]
        refine wpAnyH_done (by kernel_rfl) ?_ _
        have hgB : gg ≠ B := by
          have h1 := HO.out.lt
          rcases HGG.out with h2 | h2 <;> (first | omega | (simp at h2; omega))
        have HO7 := Lib.hid (OwnH.set (HO.out.later HB56.out) (x := x0) (y := x1) (c2 := cap3) hil (by omega) hgB hlt6 HC6.out)
        have HF7 : Hid (Frm w [B] [(w.heap.size, hObj (some ad) cp h), (w.heap.size + 1, vObj x0 x1 x2)] (w6.setCell ⟨B, iN * 6 + 2, none⟩ (.slice (some ⟨gg, 0, none⟩) (2 + (ob h.objs iN).slots.length) cap3))) := Lib.hid ((HF.out.later HB56.out).keep (Keep2.set_a (a := B) (b := B) w6 _ _) (.head _) (.head _))
        have HG7 : Hid ((w6.setCell ⟨B, iN * 6 + 2, none⟩ (.slice (some ⟨gg, 0, none⟩) (2 + (ob h.objs iN).slots.length) cap3)).heap[w3.heap.size]? = some (hObj (some ⟨B, 0, none⟩) cap2 h)) := Lib.hid (blk_far (p := ⟨B, iN * 6 + 2, none⟩) ((HB56.out.block _ (Array.getElem?_eq_some_iff.1 HGB.out).1).trans HGB.out) HNE.out _)
        clear HB56 HC6 HGG HF HO HGB g0 a0 a1 a2 s2 g0' a0' a1' s2' z2 t3 HN1 HN2 hlt6 hgB HRD
        have HF := HF7
        have HO := HO7
        have HGB := HG7
        clear HF7 HO7 HG7
        have d0 := HF.out.h0 (.head _); have d1 := HF.out.h1 (.head _); have d2 := HF.out.h2 (.head _); have a0 := HF.out.v0 (.tail _ (.head _)); have a1 := HF.out.v1 (.tail _ (.head _)); have a2 := HF.out.v2 (.tail _ (.head _))
        have g0 := hObj0 HGB.out
        have g1 := hObj1 HGB.out
        have g2 := hObj2 HGB.out
        cases bD with
        | true =>
          go_wp2_with (first | (go_at_call 16; refine (g_May HMY.out _ d HO.out).mono ?_; rintro e w7 ⟨he, hb⟩; rw [HBD.out] at he; subst he; replace HF := Lib.hid (HF.out.later hb); replace HO := Lib.hid (HO.out.later hb); replace HGB := Lib.hid ((hb.block _ (Array.getElem?_eq_some_iff.1 HGB.out).1).trans HGB.out); clear hb; have d0 := HF.out.h0 (.head _); have d1 := HF.out.h1 (.head _); have d2 := HF.out.h2 (.head _); have a0 := HF.out.v0 (.tail _ (.head _)); have a1 := HF.out.v1 (.tail _ (.head _)); have a2 := HF.out.v2 (.tail _ (.head _)); have g0 := hObj0 HGB.out; have g1 := hObj1 HGB.out; have g2 := hObj2 HGB.out))
          go_ret
          exact ⟨rfl, HF.out.below⟩
        | false =>
          have HLP : Hid (LaysP h.objs c d x0 x1) := Lib.hid ⟨HM.out.2, HD.out, HD0.out, by rw [HIN.out]; omega, HOUT.out, by rw [HIN.out]; exact HBD.out⟩
          have HCG : Hid (classB (laid h.objs iN x0 x1) c = true) := Lib.hid (by have := HLP.out.same c; rw [HIN.out] at this; exact this.trans HM.out.2)
          have HFD : Hid (findL (laid h.objs iN x0 x1) x0 (upL (laid h.objs iN x0 x1) 64 c) = (x1, c, 0)) := Lib.hid (by have := HLP.out.found; rw [HIN.out] at this; exact this)
          obtain ⟨⟨rp, rk, rf⟩, hrr⟩ : ∃ r, findI h c x2 = r := ⟨_, rfl⟩
          have HRR := Lib.hid hrr
          obtain ⟨⟨sp, sk, sf⟩, hss⟩ : ∃ r, findL (laid h.objs iN x0 x1) x2 (upL (laid h.objs iN x0 x1) 64 c) = r := ⟨_, rfl⟩
          have HSS := Lib.hid hss
          have hcase : (x2 == x0) = true ∨ ((x2 == x0) = false ∧ sp = rp ∧ sk = rk ∧ sf = rf) := by
            by_cases e : x2 = x0
            · exact .inl (beq_iff_eq.2 e)
            · right
              have h1 := HLP.out.find (sel := x2) e
              rw [HIN.out, Int.toNat_natCast] at h1
              have h2 : findI h c x2 = findL h.objs x2 (upL h.objs 64 c) := if_pos HM.out.1
              rw [hss, ← h2, hrr] at h1
              injection h1 with e1 h1
              injection h1 with e2 e3
              exact ⟨beq_eq_false_iff_ne.2 e, e1, e2, e3⟩
          clear hrr hss
          rcases hcase with he2 | ⟨he2, rfl, rfl, rfl⟩
          all_goals
            go_wp2_with (first
              | (go_at_call_of 16 (Value.int .i64 d); refine (g_May HMY.out _ d HO.out).mono ?_; rintro e w7 ⟨he, hb⟩; rw [HBD.out] at he; subst he; replace HF := Lib.hid (HF.out.later hb); replace HO := Lib.hid (HO.out.later hb); replace HGB := Lib.hid ((hb.block _ (Array.getElem?_eq_some_iff.1 HGB.out).1).trans HGB.out); clear hb; have d0 := HF.out.h0 (.head _); have d1 := HF.out.h1 (.head _); have d2 := HF.out.h2 (.head _); have a0 := HF.out.v0 (.tail _ (.head _)); have a1 := HF.out.v1 (.tail _ (.head _)); have a2 := HF.out.v2 (.tail _ (.head _)); have g0 := hObj0 HGB.out; have g1 := hObj1 HGB.out; have g2 := hObj2 HGB.out)
              | (go_at_call_of 16 (Value.int .i64 c); refine (g_May HMY.out _ c HO.out).mono ?_; rintro e w7 ⟨he, hb⟩; rw [HCG.out] at he; subst he; replace HF := Lib.hid (HF.out.later hb); replace HO := Lib.hid (HO.out.later hb); replace HGB := Lib.hid ((hb.block _ (Array.getElem?_eq_some_iff.1 HGB.out).1).trans HGB.out); clear hb; have d0 := HF.out.h0 (.head _); have d1 := HF.out.h1 (.head _); have d2 := HF.out.h2 (.head _); have a0 := HF.out.v0 (.tail _ (.head _)); have a1 := HF.out.v1 (.tail _ (.head _)); have a2 := HF.out.v2 (.tail _ (.head _)); have g0 := hObj0 HGB.out; have g1 := hObj1 HGB.out; have g2 := hObj2 HGB.out)
              | (go_at_call_of 14 (Value.agg #[.slice (some ad) h.objs.length cp, .int .i64 h.cap, .int .i64 h.last]); refine (look_Find (some ad) cp h c x2 _ HI.out hl (HF.out.row HR.out)).mono ?_; rintro e w7 ⟨he, hb⟩; rw [HRR.out] at he; subst he; replace HF := Lib.hid (HF.out.later hb); replace HO := Lib.hid (HO.out.later hb); replace HGB := Lib.hid ((hb.block _ (Array.getElem?_eq_some_iff.1 HGB.out).1).trans HGB.out); clear hb; have d0 := HF.out.h0 (.head _); have d1 := HF.out.h1 (.head _); have d2 := HF.out.h2 (.head _); have a0 := HF.out.v0 (.tail _ (.head _)); have a1 := HF.out.v1 (.tail _ (.head _)); have a2 := HF.out.v2 (.tail _ (.head _)); have g0 := hObj0 HGB.out; have g1 := hObj1 HGB.out; have g2 := hObj2 HGB.out)
              | (go_at_call_of 14 (Value.int .i64 x0); refine (g_Find HI.out hil HMY.out _ c x0 HO.out).mono ?_; rintro e w7 ⟨he, hb⟩; rw [HFD.out] at he; subst he; replace HF := Lib.hid (HF.out.later hb); replace HO := Lib.hid (HO.out.later hb); replace HGB := Lib.hid ((hb.block _ (Array.getElem?_eq_some_iff.1 HGB.out).1).trans HGB.out); clear hb; have d0 := HF.out.h0 (.head _); have d1 := HF.out.h1 (.head _); have d2 := HF.out.h2 (.head _); have a0 := HF.out.v0 (.tail _ (.head _)); have a1 := HF.out.v1 (.tail _ (.head _)); have a2 := HF.out.v2 (.tail _ (.head _)); have g0 := hObj0 HGB.out; have g1 := hObj1 HGB.out; have g2 := hObj2 HGB.out)
              | (go_at_call_of 14 (Value.int .i64 x2); refine (g_Find HI.out hil HMY.out _ c x2 HO.out).mono ?_; rintro e w7 ⟨he, hb⟩; rw [HSS.out] at he; subst he; replace HF := Lib.hid (HF.out.later hb); replace HO := Lib.hid (HO.out.later hb); replace HGB := Lib.hid ((hb.block _ (Array.getElem?_eq_some_iff.1 HGB.out).1).trans HGB.out); clear hb; have d0 := HF.out.h0 (.head _); have d1 := HF.out.h1 (.head _); have d2 := HF.out.h2 (.head _); have a0 := HF.out.v0 (.tail _ (.head _)); have a1 := HF.out.v1 (.tail _ (.head _)); have a2 := HF.out.v2 (.tail _ (.head _)); have g0 := hObj0 HGB.out; have g1 := hObj1 HGB.out; have g2 := hObj2 HGB.out))
            go_ret
            exact ⟨rfl, HF.out.below⟩
end Go.Proofs.Ytgdobomofdenfaa.Lk
