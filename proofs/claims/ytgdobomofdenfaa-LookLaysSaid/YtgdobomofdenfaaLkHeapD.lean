/- The program's heaps: (objects).may. -/
import Derived.Test.YtgdobomofdenfaaLkHeapC
namespace Go.Proofs.Ytgdobomofdenfaa.Lk
open Go.RowKit Go.Proofs.YtgdobomofdenfaaW.PrintWords
set_option linter.unusedVariables false
set_option linter.unusedSimpArgs false

theorem in_hash (v : Int) : inB v 1073741823 = hashB v := by unfold inB hashB; rw [decide_eq_decide]; omega
theorem in_kind (v : Int) (h : inB v 2 = false) (m : Nat) (t : List UInt8) (b : Int) : ¬ kindP v m t b := by
  unfold inB at h
  have := of_decide_eq_false h
  unfold kindP
  omega
theorem kind_ways3 (kind : Int) (l : List Int) (t : List UInt8) (bits : Int) (hk : inB kind 2 = true) :
    ((kind = 0 ∧ t ≠ [] ∧ ¬ kindP kind l.length t bits) ∨ (kind = 0 ∧ t = [] ∧ bits ≠ 0 ∧ ¬ kindP kind l.length t bits) ∨
    (kind = 1 ∧ 0 < l.length ∧ ¬ kindP kind l.length t bits) ∨ (kind = 1 ∧ l = [] ∧ bits ≠ 0 ∧ ¬ kindP kind l.length t bits) ∨
    (kind = 2 ∧ 0 < l.length ∧ ¬ kindP kind l.length t bits) ∨ (kind = 2 ∧ l = [] ∧ t ≠ [] ∧ ¬ kindP kind l.length t bits)) ∨
    ((kind = 0 ∧ t = [] ∧ bits = 0 ∧ kindP kind l.length t bits) ∨ (kind = 1 ∧ l = [] ∧ bits = 0 ∧ kindP kind l.length t bits) ∨ (kind = 2 ∧ l = [] ∧ t = [] ∧ kindP kind l.length t bits)) := by
  unfold inB at hk
  have := of_decide_eq_true hk
  rw [show (l = []) = (l.length = 0) from propext List.length_eq_zero_iff.symm]
  generalize l.length = m
  rcases kind_ways kind m t bits with (h | h | h | h | h | h | h | h) | h
  · omega
  · omega
  · exact .inl (.inl h)
  · exact .inl (.inr (.inl h))
  · exact .inl (.inr (.inr (.inl h)))
  · exact .inl (.inr (.inr (.inr (.inl h))))
  · exact .inl (.inr (.inr (.inr (.inr (.inl h)))))
  · exact .inl (.inr (.inr (.inr (.inr (.inr h)))))
  · exact .inr h
theorem rest_ways2 (n : Nat) (o : Ob) (h1 : decide (0 ≤ refI n o.cls) = true) (h2 : hashB o.hash = true) :
    (decide ((o.slots.length : Int) ≤ 64) = false ∧ (slotsB n o.slots && restB n o) = false) ∨
    (decide ((o.slots.length : Int) ≤ 64) = true ∧ decide ((o.text.size : Int) ≤ 64) = false ∧ (slotsB n o.slots && restB n o) = false) ∨
    (decide ((o.slots.length : Int) ≤ 64) = true ∧ decide ((o.text.size : Int) ≤ 64) = true ∧ (canonI o.bits == o.bits) = false ∧ (slotsB n o.slots && restB n o) = false) ∨
    (decide ((o.slots.length : Int) ≤ 64) = true ∧ decide ((o.text.size : Int) ≤ 64) = true ∧ (canonI o.bits == o.bits) = true ∧ slotsB n o.slots = false ∧ (slotsB n o.slots && restB n o) = false) ∨
    (decide ((o.slots.length : Int) ≤ 64) = true ∧ decide ((o.text.size : Int) ≤ 64) = true ∧ (canonI o.bits == o.bits) = true ∧ slotsB n o.slots = true ∧ (slotsB n o.slots && restB n o) = true) := by
  have hc : (canonI o.bits == o.bits) = decide (canonI o.bits = o.bits) := rfl
  unfold restB
  rw [hc, h1, h2]
  cases decide ((o.slots.length : Int) ≤ 64) <;> cases decide ((o.text.size : Int) ≤ 64) <;> cases decide (canonI o.bits = o.bits) <;> cases slotsB n o.slots <;> simp

set_option maxRecDepth 100000 in
set_option maxHeartbeats 4000000 in
theorem heap_may (n : Nat) (o : Ob) (A2 : Option Addr) (c2 : Nat) (w : World) (hn : n ≤ 9223372036854775807) (hbits : inI o.bits)
    (hl : o.slots.length ≤ c2) (hr : (Kd.int .i64).C w A2 o.slots.length o.slots) :
    Calls Try.prog 51 #[.int .i64 n, .agg #[.int .i64 o.cls, .int .i64 o.kind, .slice A2 o.slots.length c2, .string o.text, .int .i64 o.bits, .int .i64 o.hash]] w fun e w' => e = .returned (.bool (objB n o)) ∧ Below w.heap.size w w' := by
  have hu34 := Try.underlying34
  have hm := Kd.C_max hr
  have HR := Lib.hid hr
  have HI := Lib.hid hbits
  have hih := in_hash o.hash
  clear hr hbits
  by_cases r1 : 0 ≤ refI n o.cls
  · have t1 := decide_eq_true r1
    have T1 := Lib.hid t1
    clear t1
    by_cases t2 : hashB o.hash = true
    · have T2 := Lib.hid t2
      rw [t2] at hih
      clear t2
      by_cases t3 : inB o.kind 2 = true
      · have fin : ∀ b : Bool, (kindB o && (slotsB n o.slots && restB n o)) = b → objB n o = b := fun b h => by
          unfold objB; rw [← h]; cases slotsB n o.slots <;> cases kindB o <;> cases restB n o <;> rfl
        have FIN := Lib.hid fin
        clear fin
        have hrw := rest_ways2 n o T1.out T2.out
        have RW := Lib.hid hrw
        clear hrw
        obtain ⟨cls, kind, slots, text, bits, hash⟩ := o
        dsimp only at *
        rcases kind_ways3 kind slots text.toList bits t3 with hF | hC
        · rcases hF with ⟨rfl, q1, hq⟩ | ⟨rfl, q1, q2, hq⟩ | ⟨rfl, q1, hq⟩ | ⟨rfl, rfl, q2, hq⟩ | ⟨rfl, q1, hq⟩ | ⟨rfl, rfl, q2, hq⟩
          all_goals
            have HQ := Lib.hid hq
            clear hq
            go_enter Try.func51, Try.ntmps51
            go_wp2_with (first
              | (go_at_call 59; refine (heap_ref n _ _ hn).mono ?_; rintro e w' ⟨rfl, rfl⟩)
              | (go_at_call 48; refine (heap_in _ _ _).mono ?_; rintro e w' ⟨rfl, rfl⟩))
            go_ret
            exact ⟨ret_b (FIN.out false (by unfold kindB; rw [decide_eq_false HQ.out]; rfl)).symm, ((Below.refl _ _).alloc (Nat.le_refl _) _).alloc (by simp) _⟩
        · rcases hC with ⟨rfl, q1, rfl, hq⟩ | ⟨rfl, rfl, rfl, hq⟩ | ⟨rfl, rfl, q2, hq⟩
          all_goals
            have HQ := Lib.hid hq
            clear hq
            go_enter Try.func51, Try.ntmps51
            go_wp2_with (first
              | (go_at_call 59; refine (heap_ref n _ _ hn).mono ?_; rintro e w' ⟨rfl, rfl⟩)
              | (go_at_call 48; refine (heap_in _ _ _).mono ?_; rintro e w' ⟨rfl, rfl⟩))
            refine wp_box2 ?_
            intro W1 hb1 hx1 hx2 hsz
            have d0 := cellof hx1 0
            have e2 := cellof hx2 2
            have e3 := cellof hx2 3
            have e4 := cellof hx2 4
            simp only [List.getElem?_toArray, List.getElem?_cons_zero, List.getElem?_cons_succ] at d0 e2 e3 e4
            have HB := Lib.hid hb1
            clear hb1 hx1 hx2 hsz
            have x0 := fun x : Ext W1 => x.cell d0
            have y2 := fun x : Ext W1 => x.cell e2
            have y3 := fun x : Ext W1 => x.cell e3
            have y4 := fun x : Ext W1 => x.cell e4
            rcases RW.out with ⟨t5, hq⟩ | ⟨t5, t6, hq⟩ | ⟨t5, t6, t7, hq⟩ | ⟨t5, t6, t7, t8, hq⟩ | ⟨t5, t6, t7, t8, hq⟩
            all_goals
              have HQ2 := Lib.hid hq
              clear hq
              try (exfalso; revert t5; simp; done)
              all_goals
                refine wp_region_ext (by kernel_rfl) (by kernel_rfl) ?_
                repeat (go_big_quiet_step ((first | (go_at_call 60; exact calls_ext_same (flt_Canon _ _ HI.out)) | (go_at_call 61; first | exact calls_ext_same (contains_ints n slots A2 c2 _ _ hn hl (Kd.C_below HR.out (below_up HB.out HB.out.size (Ext.below _))) (x0 _)) | exact calls_ext_same (contains_ints n [] A2 c2 _ _ hn hl (Kd.C_below HR.out (below_up HB.out HB.out.size (Ext.below _))) (x0 _))))))
                refine wpQuiet_nil ?_
                rintro _ ⟨x, rfl⟩
                go_wp2
                go_ret
                exact ⟨ret_b (FIN.out _ (by unfold kindB; rw [decide_eq_true HQ.out]; exact HQ2.out)).symm, below_up HB.out HB.out.size x.below⟩
      · rw [Bool.not_eq_true] at t3
        have HF := Lib.hid (in_kind o.kind t3 o.slots.length o.text.toList o.bits)
        go_enter Try.func51, Try.ntmps51
        go_wp2_with (first
          | (go_at_call 59; refine (heap_ref n _ _ hn).mono ?_; rintro e w' ⟨rfl, rfl⟩)
          | (go_at_call 48; refine (heap_in _ _ _).mono ?_; rintro e w' ⟨rfl, rfl⟩))
        go_ret
        exact ⟨ret_b (by unfold objB kindB; rw [decide_eq_false HF.out]; cases slotsB n o.slots <;> rfl), ((Below.refl _ _).alloc (Nat.le_refl _) _).alloc (by simp) _⟩
    · rw [Bool.not_eq_true] at t2
      have T2 := Lib.hid t2
      rw [t2] at hih
      clear t2
      by_cases t3 : inB o.kind 2 = true
      all_goals
        try rw [Bool.not_eq_true] at t3
        go_enter Try.func51, Try.ntmps51
        go_wp2_with (first
          | (go_at_call 59; refine (heap_ref n _ _ hn).mono ?_; rintro e w' ⟨rfl, rfl⟩)
          | (go_at_call 48; refine (heap_in _ _ _).mono ?_; rintro e w' ⟨rfl, rfl⟩))
        go_ret
        exact ⟨ret_b (by unfold objB restB; rw [T2.out]; simp), ((Below.refl _ _).alloc (Nat.le_refl _) _).alloc (by simp) _⟩
  · have HF := Lib.hid (decide_eq_false r1)
    clear hih
    go_enter Try.func51, Try.ntmps51
    go_wp2_with (first
      | (go_at_call 59; refine (heap_ref n _ _ hn).mono ?_; rintro e w' ⟨rfl, rfl⟩))
    go_ret
    exact ⟨ret_b (by unfold objB restB; rw [HF.out]; simp), ((Below.refl _ _).alloc (Nat.le_refl _) _).alloc (by simp) _⟩
end Go.Proofs.Ytgdobomofdenfaa.Lk
