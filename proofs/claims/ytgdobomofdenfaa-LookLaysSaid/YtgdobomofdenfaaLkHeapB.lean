/- The reference's heaps: May, Small. -/
import Derived.Test.YtgdobomofdenfaaLkHeapA
namespace Go.Proofs.Ytgdobomofdenfaa.Lk
open Go.RowKit Go.Proofs.YtgdobomofdenfaaW.PrintWords
set_option linter.unusedVariables false
set_option linter.unusedSimpArgs false

def SomeB (e : Ending) : Prop := ∃ b, e = .returned (.bool b)
def objsB (n : Nat) (l : List Ob) : Bool := l.all (objB n)
def capP (h : Hp) : Prop := 1 ≤ h.cap ∧ h.cap ≤ 256 ∧ (h.objs.length : Int) ≤ h.cap
instance (h : Hp) : Decidable (capP h) := by unfold capP; infer_instance
/-- May a heap be? -/
def mayB (h : Hp) : Bool := objsB h.objs.length h.objs && (decide (capP h) && hashB h.last)
theorem objs_step {n : Nat} {l : List Ob} {k : Nat} (h : objsB n (l.take k) = true) (hk : k < l.length) (hh : objB n (ob l k) = true) : objsB n (l.take (k + 1)) = true := by
  unfold objsB at *
  rw [List.take_succ_eq_append_getElem hk, List.all_append, h]
  simpa [ob, List.getD_eq_getElem?_getD, List.getElem?_eq_getElem hk] using hh
theorem objs_fall {n : Nat} {l : List Ob} {k : Nat} (hk : k < l.length) (hh : objB n (ob l k) = false) : objsB n l = false := by
  unfold objsB
  rw [Bool.eq_false_iff]
  intro h
  rw [List.all_eq_true] at h
  have := h (l[k]) (List.getElem_mem hk)
  rw [ob, List.getD_eq_getElem?_getD, List.getElem?_eq_getElem hk] at hh
  simp at hh
  rw [this] at hh
  cases hh
theorem cap_ways (h : Hp) :
    (h.cap < 1 ∧ ¬ capP h) ∨ (1 ≤ h.cap ∧ 256 < h.cap ∧ ¬ capP h) ∨ (1 ≤ h.cap ∧ h.cap ≤ 256 ∧ h.cap < (h.objs.length : Int) ∧ ¬ capP h) ∨
    (1 ≤ h.cap ∧ h.cap ≤ 256 ∧ (h.objs.length : Int) ≤ h.cap ∧ capP h) := by
  unfold capP
  omega

set_option maxRecDepth 100000 in
set_option maxHeartbeats 2000000 in
theorem r3_May (A : Option Addr) (c : Nat) (h : Hp) (w : World) (hl : h.objs.length ≤ c) (hr : kOb.C w A h.objs.length h.objs) :
    Calls Try.prog 13 #[.agg #[.slice A h.objs.length c, .int .i64 h.cap, .int .i64 h.last]] w fun e w' => e = .returned (.bool (mayB h)) ∧ Below w.heap.size w w' := by
  have hu24 := Try.underlying24
  have hu34 := Try.underlying34
  have hm := Kd.C_max hr
  have HR := Lib.hid hr
  clear hr
  go_enter Try.func13, Try.ntmps13
  go_wp2
  obtain ⟨hb1, hx1, hsz⟩ := box1 w (.cells #[.slice A h.objs.length c, .int .i64 h.cap, .int .i64 h.last] 24)
  generalize w.alloc (.cells #[.slice A h.objs.length c, .int .i64 h.cap, .int .i64 h.last] 24) = W1 at *
  have g1 : w.heap.size < W1.heap.size := by omega
  have HB1 := Lib.hid hb1
  have HX1 := Lib.hid hx1
  clear hb1 hx1 hsz
  go_loopw [3] (fun v wr => ∃ k : Nat, k ≤ h.objs.length ∧ v = .int .i64 k ∧ Hid (objsB h.objs.length (h.objs.take k) = true) ∧ Hid (Below W1.heap.size W1 wr)) (fun v _ => h.objs.length - (intOf v).toNat)
  case atStart => exact ⟨0, Nat.zero_le _, rfl, Lib.hid rfl, Lib.hid (Below.refl _ _)⟩
  case round =>
    obtain ⟨k, hk, rfl, HS, HB⟩ := hrel
    have d0 := (HB.out.cell (p := ⟨w.heap.size, 0, none⟩) g1).trans (cellof HX1.out 0)
    have d1 := (HB.out.cell (p := ⟨w.heap.size, 1, none⟩) g1).trans (cellof HX1.out 1)
    have d2 := (HB.out.cell (p := ⟨w.heap.size, 2, none⟩) g1).trans (cellof HX1.out 2)
    simp only [List.getElem?_toArray, List.getElem?_cons_zero, List.getElem?_cons_succ] at d0 d1 d2
    have HBw := Lib.hid (below_up HB1.out HB1.out.size HB.out)
    by_cases hlt : k < h.objs.length
    · obtain ⟨ad, A2, c2, rfl, hob⟩ := obs_at HR.out k hlt
      have hob2 := hob.below HBw.out
      have HOB := Lib.hid hob2
      clear hob hob2
      have hle := HOB.out.le
      obtain ⟨o, ho⟩ : ∃ o, o = ob h.objs k := ⟨_, rfl⟩
      rw [← ho] at HOB hle
      have HO := Lib.hid ho
      clear ho
      by_cases hh : objB h.objs.length o = true
      all_goals
        try rw [Bool.not_eq_true] at hh
        go_wp2
        have x0 := fun x : Ext wr => x.cell d0
        have x1 := fun x : Ext wr => x.cell d1
        have x2 := fun x : Ext wr => x.cell d2
        have y0 := fun x : Ext wr => x.cell HOB.out.c0
        have y1 := fun x : Ext wr => x.cell HOB.out.c1
        have y2 := fun x : Ext wr => x.cell HOB.out.c2
        have y3 := fun x : Ext wr => x.cell HOB.out.c3
        have y4 := fun x : Ext wr => x.cell HOB.out.c4
        have y5 := fun x : Ext wr => x.cell HOB.out.c5
        refine wp_region_ext (by kernel_rfl) (by kernel_rfl) ?_
        repeat (go_big_quiet_step ((go_at_call 32; exact calls_ext (r3_obj _ _ _ _ _ o _ _ _ hm HOB.out.le (Kd.C_below HOB.out.rd (Ext.below _))))))
        refine wpQuiet_nil ?_
        rintro _ ⟨x, rfl⟩
        clear x0 x1 x2 y0 y1 y2 y3 y4 y5
        go_wp2
      · go_roundw
        case rel => exact ⟨k + 1, by omega, by go_num, Lib.hid (objs_step HS.out hlt (HO.out ▸ hh)), Lib.hid (below_up HB.out HB.out.size x.below)⟩
        case measure => simp [intOf]; omega
      · go_ret
        exact ⟨ret_b (by unfold mayB; rw [objs_fall hlt (HO.out ▸ hh)]; rfl), below_up HBw.out HBw.out.size x.below⟩
    · have hf : objsB h.objs.length h.objs = true := by have := HS.out; rwa [List.take_of_length_le (by omega)] at this
      have HF := Lib.hid hf
      clear hf HS
      have fin : ∀ b : Bool, (decide (capP h) && hashB h.last) = b → mayB h = b := fun b hb => by unfold mayB; rw [HF.out]; exact hb
      have FIN := Lib.hid fin
      clear fin
      rcases cap_ways h with ⟨q1, hq⟩ | ⟨q1, q2, hq⟩ | ⟨q1, q2, q3, hq⟩ | ⟨q1, q2, q3, hq⟩
      all_goals
        have HQ := Lib.hid hq
        clear hq
        go_wp2_with (go_at_call 33; refine (r3_hash _ _).mono ?_; rintro e w' ⟨rfl, rfl⟩)
        go_ret
        exact ⟨ret_b (FIN.out _ (by first | (rw [decide_eq_false HQ.out]; rfl) | (rw [decide_eq_true HQ.out]; rfl))).symm, HBw.out⟩

set_option maxRecDepth 100000 in
set_option maxHeartbeats 2000000 in
theorem r3_Small (A : Option Addr) (c : Nat) (h : Hp) (w : World) (hl : h.objs.length ≤ c) (hr : kOb.C w A h.objs.length h.objs) :
    Calls Try.prog 12 #[.agg #[.slice A h.objs.length c, .int .i64 h.cap, .int .i64 h.last]] w fun e w' => SomeB e ∧ Below w.heap.size w w' := by
  have hu24 := Try.underlying24
  have hu34 := Try.underlying34
  have hm := Kd.C_max hr
  have HR := Lib.hid hr
  clear hr
  go_enter Try.func12, Try.ntmps12
  go_wp2
  obtain ⟨hb1, hx1, hsz⟩ := box1 w (.cells #[.slice A h.objs.length c, .int .i64 h.cap, .int .i64 h.last] 24)
  generalize w.alloc (.cells #[.slice A h.objs.length c, .int .i64 h.cap, .int .i64 h.last] 24) = W1 at *
  have g1 : w.heap.size < W1.heap.size := by omega
  have HB1 := Lib.hid hb1
  have HX1 := Lib.hid hx1
  clear hb1 hx1 hsz
  go_loopw [3, 4] (fun u v wr => ∃ (x : Int) (k : Nat), k ≤ h.objs.length ∧ u = .int .i64 x ∧ v = .int .i64 k ∧ Hid (Below W1.heap.size W1 wr)) (fun _ v _ => h.objs.length - (intOf v).toNat)
  case atStart => exact ⟨0, 0, Nat.zero_le _, rfl, rfl, Lib.hid (Below.refl _ _)⟩
  case round =>
    obtain ⟨x, k, hk, rfl, rfl, HB⟩ := hrel
    have d0 := (HB.out.cell (p := ⟨w.heap.size, 0, none⟩) g1).trans (cellof HX1.out 0)
    simp only [List.getElem?_toArray, List.getElem?_cons_zero, List.getElem?_cons_succ] at d0
    have HBw := Lib.hid (below_up HB1.out HB1.out.size HB.out)
    by_cases hlt : k < h.objs.length ∧ x < 5000
    · obtain ⟨hlt, hx⟩ := hlt
      obtain ⟨ad, A2, c2, rfl, hob⟩ := obs_at HR.out k hlt
      have hob2 := hob.below HBw.out
      have HOB := Lib.hid hob2
      clear hob hob2
      go_wp2
      have x0 := fun x : Ext wr => x.cell d0
      have y2 := fun x : Ext wr => x.cell HOB.out.c2
      have y3 := fun x : Ext wr => x.cell HOB.out.c3
      refine wp_region_ext (by kernel_rfl) (by kernel_rfl) ?_
      repeat (go_big_quiet_step (fail))
      refine wpQuiet_nil ?_
      rintro _ ⟨x, rfl⟩
      clear x0 y2 y3
      go_wp2
      go_roundw
      case rel => exact ⟨_, k + 1, by omega, rfl, by go_num, Lib.hid (below_up HB.out HB.out.size x.below)⟩
      case measure => simp [intOf]; omega
    · by_cases hk2 : k < h.objs.length
      · have hx : ¬ x < 5000 := fun h' => hlt ⟨hk2, h'⟩
        clear hlt
        go_wp2
        all_goals (go_ret; exact ⟨⟨_, rfl⟩, HBw.out⟩)
      · clear hlt
        go_wp2
        all_goals (go_ret; exact ⟨⟨_, rfl⟩, HBw.out⟩)
end Go.Proofs.Ytgdobomofdenfaa.Lk
