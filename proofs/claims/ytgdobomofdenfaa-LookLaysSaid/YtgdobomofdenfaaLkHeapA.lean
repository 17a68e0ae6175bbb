/- The reference's heaps: Ref, Has, hash, obj, May, Small. -/
import Derived.Test.YtgdobomofdenfaaLkFlt
namespace Go.Proofs.Ytgdobomofdenfaa.Lk
open Go.RowKit Go.Proofs.YtgdobomofdenfaaW.PrintWords
set_option linter.unusedVariables false
set_option linter.unusedSimpArgs false

def refI (n : Nat) (v : Int) : Int := if atB v = true ∧ atI v < n then atI v else -1
def hasB (n : Nat) (v : Int) : Bool := nB v || decide (0 ≤ refI n v)
theorem atI_nonneg (v : Int) : 0 ≤ atI v := by unfold atI; split <;> omega
theorem refI_yes {n : Nat} {v : Int} (h : atB v = true) (h1 : atI v < n) : refI n v = atI v := if_pos ⟨h, h1⟩
theorem refI_far {n : Nat} {v : Int} (h1 : (n : Int) ≤ atI v) : refI n v = -1 := if_neg (fun h => by have := h.2; omega)
theorem refI_not {n : Nat} {v : Int} (h1 : ¬ atB v = true) : refI n v = -1 := if_neg (fun h => h1 h.1)
theorem refI_bd (n : Nat) (v : Int) : -1 ≤ refI n v ∧ refI n v < n := by
  have := atI_nonneg v
  unfold refI
  split <;> omega

set_option maxRecDepth 100000 in
set_option maxHeartbeats 1000000 in
theorem r3_Ref (A : Option Addr) (n c : Nat) (cap last v : Int) (w : World) (hn : n ≤ 9223372036854775807) :
    Calls Try.prog 17 #[.agg #[.slice A n c, .int .i64 cap, .int .i64 last], .int .i64 v] w fun e w' => e = .returned (.int .i64 (refI n v)) ∧ Below w.heap.size w w' := by
  have hu24 := Try.underlying24
  go_enter Try.func17, Try.ntmps17
  go_wp2_with (go_at_call 40; refine (r1_At v _).mono ?_; rintro e w' ⟨rfl, rfl⟩)
  all_goals
    go_ret
    refine ⟨ret_i ?_, (Below.refl _ _).alloc (Nat.le_refl _) _⟩
    first | exact (refI_yes ‹_› ‹_›).symm | exact (refI_far ‹_›).symm | exact (refI_not ‹_›).symm

set_option maxRecDepth 100000 in
set_option maxHeartbeats 1000000 in
theorem r3_Has (A : Option Addr) (n c : Nat) (cap last v : Int) (w : World) (hn : n ≤ 9223372036854775807) :
    Calls Try.prog 18 #[.agg #[.slice A n c, .int .i64 cap, .int .i64 last], .int .i64 v] w fun e w' => e = .returned (.bool (hasB n v)) ∧ Below w.heap.size w w' := by
  have hu24 := Try.underlying24
  by_cases h : nB v = true
  · go_enter Try.func18, Try.ntmps18
    go_wp2_with (first
      | (go_at_call 39; refine (r1_N v _).mono ?_; rintro e w' ⟨rfl, rfl⟩)
      | (go_at_call 17; refine (r3_Ref A n c cap last v _ hn).mono ?_; rintro e w' ⟨rfl, hb⟩))
    go_ret
    exact ⟨ret_b (by unfold hasB; rw [h]; rfl), (Below.refl _ _).alloc (Nat.le_refl _) _⟩
  · rw [Bool.not_eq_true] at h
    go_enter Try.func18, Try.ntmps18
    go_wp2_with (first
      | (go_at_call 39; refine (r1_N v _).mono ?_; rintro e w' ⟨rfl, rfl⟩)
      | (go_at_call 17; refine (r3_Ref A n c cap last v _ hn).mono ?_; rintro e w' ⟨rfl, hb⟩))
    go_ret
    exact ⟨ret_b (by unfold hasB; rw [h]; rfl), ((Below.refl _ _).alloc (Nat.le_refl _) _).trans (hb.mono (by simp))⟩

def hashB (v : Int) : Bool := decide (0 ≤ v ∧ v < 1073741824)
set_option maxHeartbeats 1000000 in
theorem r3_hash (v : Int) (w : World) : Calls Try.prog 33 #[.int .i64 v] w fun e w' => e = .returned (.bool (hashB v)) ∧ w = w' := by
  go_enter Try.func33, Try.ntmps33
  go_wp2
  all_goals
    go_ret
    refine ⟨ret_b ?_, rfl⟩
    first | exact b_yes ⟨by assumption, by assumption⟩ | exact b_no (by omega) | (unfold hashB; rw [decide_eq_decide]; omega)

/-- May an object be, of a heap of so many? -/
def slotsB (n : Nat) (l : List Int) : Bool := l.all (hasB n)
def kindP (kind : Int) (m : Nat) (t : List UInt8) (bits : Int) : Prop := 0 ≤ kind ∧ kind ≤ 2 ∧ (kind ≠ 0 → m = 0) ∧ (kind ≠ 1 → t = []) ∧ (kind ≠ 2 → bits = 0)
instance (kind : Int) (m : Nat) (t : List UInt8) (bits : Int) : Decidable (kindP kind m t bits) := by unfold kindP; infer_instance
def kindB (o : Ob) : Bool := decide (kindP o.kind o.slots.length o.text.toList o.bits)
theorem kind_ways (kind : Int) (m : Nat) (t : List UInt8) (bits : Int) :
    ((kind < 0 ∧ ¬ kindP kind m t bits) ∨ (0 ≤ kind ∧ 2 < kind ∧ ¬ kindP kind m t bits) ∨
    (kind = 0 ∧ t ≠ [] ∧ ¬ kindP kind m t bits) ∨ (kind = 0 ∧ t = [] ∧ bits ≠ 0 ∧ ¬ kindP kind m t bits) ∨
    (kind = 1 ∧ 0 < m ∧ ¬ kindP kind m t bits) ∨ (kind = 1 ∧ m = 0 ∧ bits ≠ 0 ∧ ¬ kindP kind m t bits) ∨
    (kind = 2 ∧ 0 < m ∧ ¬ kindP kind m t bits) ∨ (kind = 2 ∧ m = 0 ∧ t ≠ [] ∧ ¬ kindP kind m t bits)) ∨
    ((kind = 0 ∧ t = [] ∧ bits = 0 ∧ kindP kind m t bits) ∨ (kind = 1 ∧ m = 0 ∧ bits = 0 ∧ kindP kind m t bits) ∨ (kind = 2 ∧ m = 0 ∧ t = [] ∧ kindP kind m t bits)) := by
  unfold kindP
  by_cases ht : t = [] <;> by_cases hb : bits = 0 <;> by_cases hm : m = 0 <;> simp [ht, hb, hm] <;> omega
def restB (n : Nat) (o : Ob) : Bool := decide (0 ≤ refI n o.cls) && hashB o.hash && decide ((o.slots.length : Int) ≤ 64) && decide ((o.text.size : Int) ≤ 64) && decide (canonI o.bits = o.bits)
theorem rest_ways (n : Nat) (o : Ob) :
    (decide (0 ≤ refI n o.cls) = false ∧ restB n o = false) ∨ (decide (0 ≤ refI n o.cls) = true ∧ hashB o.hash = false ∧ restB n o = false) ∨
    (decide (0 ≤ refI n o.cls) = true ∧ hashB o.hash = true ∧ decide ((o.slots.length : Int) ≤ 64) = false ∧ restB n o = false) ∨
    (decide (0 ≤ refI n o.cls) = true ∧ hashB o.hash = true ∧ decide ((o.slots.length : Int) ≤ 64) = true ∧ decide ((o.text.size : Int) ≤ 64) = false ∧ restB n o = false) ∨
    (decide (0 ≤ refI n o.cls) = true ∧ hashB o.hash = true ∧ decide ((o.slots.length : Int) ≤ 64) = true ∧ decide ((o.text.size : Int) ≤ 64) = true ∧ (canonI o.bits == o.bits) = false ∧ restB n o = false) ∨
    (decide (0 ≤ refI n o.cls) = true ∧ hashB o.hash = true ∧ decide ((o.slots.length : Int) ≤ 64) = true ∧ decide ((o.text.size : Int) ≤ 64) = true ∧ (canonI o.bits == o.bits) = true ∧ restB n o = true) := by
  have hc : (canonI o.bits == o.bits) = decide (canonI o.bits = o.bits) := rfl
  unfold restB
  rw [hc]
  cases decide (0 ≤ refI n o.cls) <;> cases hashB o.hash <;> cases decide ((o.slots.length : Int) ≤ 64) <;> cases decide ((o.text.size : Int) ≤ 64) <;> cases decide (canonI o.bits = o.bits) <;> simp
def objB (n : Nat) (o : Ob) : Bool := slotsB n o.slots && kindB o && restB n o
theorem slots_step {n : Nat} {l : List Int} {k : Nat} (h : slotsB n (l.take k) = true) (hk : k < l.length) (hh : hasB n (l.getD k 0) = true) : slotsB n (l.take (k + 1)) = true := by
  unfold slotsB at *
  rw [List.take_succ_eq_append_getElem hk, List.all_append, h]
  simpa [List.getD_eq_getElem?_getD, List.getElem?_eq_getElem hk] using hh
theorem slots_fall {n : Nat} {l : List Int} {k : Nat} (hk : k < l.length) (hh : hasB n (l.getD k 0) = false) : slotsB n l = false := by
  unfold slotsB
  rw [Bool.eq_false_iff]
  intro h
  rw [List.all_eq_true] at h
  have := h (l[k]) (List.getElem_mem hk)
  rw [List.getD_eq_getElem?_getD, List.getElem?_eq_getElem hk] at hh
  simp at hh
  rw [this] at hh
  cases hh

set_option maxRecDepth 100000 in
set_option maxHeartbeats 2000000 in
theorem r3_obj (A : Option Addr) (n c : Nat) (cap last : Int) (o : Ob) (A2 : Option Addr) (c2 : Nat) (w : World) (hn : n ≤ 9223372036854775807)
    (hl : o.slots.length ≤ c2) (hr : (Kd.int .i64).C w A2 o.slots.length o.slots) :
    Calls Try.prog 32 #[.agg #[.slice A n c, .int .i64 cap, .int .i64 last], .agg #[.int .i64 o.cls, .int .i64 o.kind, .slice A2 o.slots.length c2, .string o.text, .int .i64 o.bits, .int .i64 o.hash]] w fun e w' => e = .returned (.bool (objB n o)) ∧ Below w.heap.size w w' := by
  have hu24 := Try.underlying24
  have hu34 := Try.underlying34
  have hm := Kd.C_max hr
  have HR := Lib.hid hr
  clear hr
  go_enter Try.func32, Try.ntmps32
  go_wp2
  obtain ⟨hb1, hx1, hx2, hsz⟩ := box2 w (.cells #[.slice A n c, .int .i64 cap, .int .i64 last] 24) (.cells #[.int .i64 o.cls, .int .i64 o.kind, .slice A2 o.slots.length c2, .string o.text, .int .i64 o.bits, .int .i64 o.hash] 34)
  generalize (w.alloc (.cells #[.slice A n c, .int .i64 cap, .int .i64 last] 24)).alloc (.cells #[.int .i64 o.cls, .int .i64 o.kind, .slice A2 o.slots.length c2, .string o.text, .int .i64 o.bits, .int .i64 o.hash] 34) = W1 at *
  have g1 : w.heap.size < W1.heap.size := by omega
  have g2 : w.heap.size + 1 < W1.heap.size := by omega
  have HB1 := Lib.hid hb1
  have HX1 := Lib.hid hx1
  have HX2 := Lib.hid hx2
  clear hb1 hx1 hx2 hsz
  go_loopw [5] (fun v wr => ∃ k : Nat, k ≤ o.slots.length ∧ v = .int .i64 k ∧ Hid (slotsB n (o.slots.take k) = true) ∧ Hid (Below W1.heap.size W1 wr)) (fun v _ => o.slots.length - (intOf v).toNat)
  case atStart => exact ⟨0, Nat.zero_le _, rfl, Lib.hid rfl, Lib.hid (Below.refl _ _)⟩
  case round =>
    obtain ⟨k, hk, rfl, HS, HB⟩ := hrel
    have d0 := (HB.out.cell (p := ⟨w.heap.size, 0, none⟩) g1).trans (cellof HX1.out 0)
    have d1 := (HB.out.cell (p := ⟨w.heap.size, 1, none⟩) g1).trans (cellof HX1.out 1)
    have d2 := (HB.out.cell (p := ⟨w.heap.size, 2, none⟩) g1).trans (cellof HX1.out 2)
    have e0 := (HB.out.cell (p := ⟨w.heap.size + 1, 0, none⟩) g2).trans (cellof HX2.out 0)
    have e1 := (HB.out.cell (p := ⟨w.heap.size + 1, 1, none⟩) g2).trans (cellof HX2.out 1)
    have e2 := (HB.out.cell (p := ⟨w.heap.size + 1, 2, none⟩) g2).trans (cellof HX2.out 2)
    have e3 := (HB.out.cell (p := ⟨w.heap.size + 1, 3, none⟩) g2).trans (cellof HX2.out 3)
    have e4 := (HB.out.cell (p := ⟨w.heap.size + 1, 4, none⟩) g2).trans (cellof HX2.out 4)
    have e5 := (HB.out.cell (p := ⟨w.heap.size + 1, 5, none⟩) g2).trans (cellof HX2.out 5)
    simp only [List.getElem?_toArray, List.getElem?_cons_zero, List.getElem?_cons_succ] at d0 d1 d2 e0 e1 e2 e3 e4 e5
    by_cases hlt : k < o.slots.length
    · obtain ⟨ad, rfl, hcell⟩ := ints_at HR.out k hlt
      obtain ⟨v, hv⟩ : ∃ v, v = o.slots.getD k 0 := ⟨_, rfl⟩
      rw [← hv] at hcell
      have HV := Lib.hid hv
      clear hv
      have HC := Lib.hid (pw_cell_below (below_up HB1.out (by omega) HB.out) hcell)
      clear hcell
      by_cases hh : hasB n v = true
      all_goals
        try rw [Bool.not_eq_true] at hh
        go_wp2
        have x0 := fun x : Ext wr => x.cell d0
        have x1 := fun x : Ext wr => x.cell d1
        have x2 := fun x : Ext wr => x.cell d2
        have x3 := fun x : Ext wr => x.cell e2
        have x4 := fun x : Ext wr => x.cell HC.out
        refine wp_region_ext (by kernel_rfl) (by kernel_rfl) ?_
        repeat (go_big_quiet_step ((go_at_call 18; exact calls_ext (r3_Has _ _ _ _ _ _ _ hn))))
        refine wpQuiet_nil ?_
        rintro _ ⟨x, rfl⟩
        clear x0 x1 x2 x3 x4
        go_wp2
      · go_roundw
        case rel => exact ⟨k + 1, by omega, by go_num, Lib.hid (slots_step HS.out hlt (HV.out ▸ hh)), Lib.hid (below_up HB.out HB.out.size x.below)⟩
        case measure => simp [intOf]; omega
      · go_ret
        exact ⟨ret_b (by unfold objB; rw [slots_fall hlt (HV.out ▸ hh)]; rfl), below_up HB1.out HB1.out.size (below_up HB.out HB.out.size x.below)⟩
    · have hf : slotsB n o.slots = true := by have := HS.out; rwa [List.take_of_length_le (by omega)] at this
      have HF := Lib.hid hf
      clear hf HS
      have fin : ∀ b : Bool, (kindB o && restB n o) = b → objB n o = b := fun b h => by unfold objB; rw [HF.out]; exact h
      have FIN := Lib.hid fin
      clear fin
      obtain ⟨cls, kind, slots, text, bits, hash⟩ := o
      dsimp only at *
      rcases kind_ways kind slots.length text.toList bits with hF | hC
      · rcases hF with ⟨q1, hq⟩ | ⟨q0, q1, hq⟩ | ⟨rfl, q1, hq⟩ | ⟨rfl, q1, q2, hq⟩ | ⟨rfl, q1, hq⟩ | ⟨rfl, q1, q2, hq⟩ | ⟨rfl, q1, hq⟩ | ⟨rfl, q1, q2, hq⟩
        all_goals
          have HQ := Lib.hid hq
          clear hq
          go_wp2
          go_ret
          exact ⟨ret_b (FIN.out false (by unfold kindB; rw [decide_eq_false HQ.out]; rfl)).symm, below_up HB1.out HB1.out.size HB.out⟩
      · rcases hC with ⟨rfl, q1, rfl, hq⟩ | ⟨rfl, q1, rfl, hq⟩ | ⟨rfl, q1, q2, hq⟩
        all_goals
          have HQ := Lib.hid hq
          clear hq
          go_wp2
          have fin : ∀ b : Bool, restB n _ = b → objB n _ = b := fun b h => FIN.out b (by unfold kindB; rw [decide_eq_true HQ.out]; exact h)
          have FIN2 := Lib.hid fin
          clear fin
          have x0 := fun x : Ext wr => x.cell d0
          have x1 := fun x : Ext wr => x.cell d1
          have x2 := fun x : Ext wr => x.cell d2
          have y0 := fun x : Ext wr => x.cell e0
          have y2 := fun x : Ext wr => x.cell e2
          have y3 := fun x : Ext wr => x.cell e3
          have y4 := fun x : Ext wr => x.cell e4
          have y5 := fun x : Ext wr => x.cell e5
          rcases rest_ways n ⟨cls, _, slots, text, _, hash⟩ with ⟨t1, hq⟩ | ⟨t1, t2, hq⟩ | ⟨t1, t2, t3, hq⟩ | ⟨t1, t2, t3, t4, hq⟩ | ⟨t1, t2, t3, t4, t5, hq⟩ | ⟨t1, t2, t3, t4, t5, hq⟩
          all_goals
            dsimp only at *
            have HQ2 := Lib.hid hq
            clear hq
            try (exfalso; revert t3; simp [q1]; done)
            all_goals
              refine wp_region_ext (by kernel_rfl) (by kernel_rfl) ?_
              repeat (go_big_quiet_step ((first | (go_at_call 17; exact calls_ext (r3_Ref _ _ _ _ _ _ _ hn)) | (go_at_call 33; exact calls_ext_same (r3_hash _ _)) | (go_at_call 47; exact calls_ext_same (r2_Canon _ _)))))
              refine wpQuiet_nil ?_
              rintro _ ⟨x, rfl⟩
              go_wp2
              go_ret
              exact ⟨ret_b (FIN2.out _ HQ2.out).symm, below_up HB1.out HB1.out.size (below_up HB.out HB.out.size x.below)⟩
end Go.Proofs.Ytgdobomofdenfaa.Lk
