/- The program's heaps: heap.May. -/
import Derived.Test.YtgdobomofdenfaaLkHeapD
namespace Go.Proofs.Ytgdobomofdenfaa.Lk
open Go.RowKit Go.Proofs.YtgdobomofdenfaaW.PrintWords
set_option linter.unusedVariables false
set_option linter.unusedSimpArgs false

set_option maxRecDepth 100000 in
set_option maxHeartbeats 1000000 in
/-- The closure in May. -/
theorem heap_May_1 (n : Nat) (o : Ob) (A2 : Option Addr) (c2 b : Nat) (w : World) (hn : n ≤ 9223372036854775807) (hbits : inI o.bits)
    (hl : o.slots.length ≤ c2) (hr : (Kd.int .i64).C w A2 o.slots.length o.slots) (hc : w.cell? ⟨b, 0, none⟩ = some (.int .i64 n)) :
    Calls Try.prog 50 #[.agg #[.int .i64 o.cls, .int .i64 o.kind, .slice A2 o.slots.length c2, .string o.text, .int .i64 o.bits, .int .i64 o.hash], .pointer (some ⟨b, 0, none⟩)] w fun e w' => e = .returned (.bool (!objB n o)) ∧ Below w.heap.size w w' := by
  have hu34 := Try.underlying34
  have hm := Kd.C_max hr
  have HR := Lib.hid hr
  have HI := Lib.hid hbits
  have hlt : b < w.heap.size := World.block_lt_of_cell? w _ hc
  have hne : b ≠ w.heap.size := by omega
  clear hr hbits
  go_enter Try.func50, Try.ntmps50
  go_wp2_with (go_at_call 51; refine (heap_may n o A2 c2 _ hn HI.out hl (Kd.C_below HR.out ((Below.refl _ _).alloc (Nat.le_refl _) _))).mono ?_; rintro e w' ⟨rfl, hb⟩)
  go_ret
  exact ⟨rfl, ((Below.refl _ _).alloc (Nat.le_refl _) _).trans (hb.mono (by simp))⟩

def bitsOk (l : List Ob) : Prop := ∀ o ∈ l, inI o.bits
theorem bits_at {l : List Ob} (h : bitsOk l) (k : Nat) (hk : k < l.length) : inI (ob l k).bits := by
  unfold ob
  rw [getD_at _ _ _ hk]
  exact h _ (List.getElem_mem hk)

set_option maxRecDepth 100000 in
set_option maxHeartbeats 1000000 in
theorem idx_objs (n : Nat) (xs : List Ob) (A : Option Addr) (c b : Nat) (w : World) (hn : n ≤ 9223372036854775807) (hbits : bitsOk xs) (hl : xs.length ≤ c) (hr : kOb.C w A xs.length xs) (hc : w.cell? ⟨b, 0, none⟩ = some (.int .i64 n)) :
    Calls Try.prog 58 #[.slice A xs.length c, .func (.func 50) #[] #[.pointer (some ⟨b, 0, none⟩)]] w fun e w' => e = .returned (.int .i64 (idxI (fun v => !objB n v) xs)) ∧ Below w.heap.size w w' := by
  have hu34 := Try.underlying34
  have hm := Kd.C_max hr
  have HR := Lib.hid hr
  have HC := Lib.hid hc
  have HI := Lib.hid hbits
  clear hr hc hbits
  go_enter Try.func58, Try.ntmps58
  go_wp2
  go_loopw [8] (fun v wr => ∃ k : Nat, k ≤ xs.length ∧ v = .int .i64 k ∧ Hid ((xs.take k).any (fun v => !objB n v) = false) ∧ Hid (Below w.heap.size w wr)) (fun v _ => xs.length - (intOf v).toNat)
  case atStart => exact ⟨0, Nat.zero_le _, rfl, Lib.hid rfl, Lib.hid (Below.refl _ _)⟩
  case round =>
    obtain ⟨k, hk, rfl, HS, HB⟩ := hrel
    by_cases hlt : k < xs.length
    · obtain ⟨ad, A2, c2, rfl, hob⟩ := obs_at HR.out k hlt
      have hob2 := hob.below HB.out
      have hbk := bits_at HI.out k hlt
      obtain ⟨v, hv⟩ : ∃ v, v = ob xs k := ⟨_, rfl⟩
      rw [← hv] at hob2 hbk
      have HV := Lib.hid (hv.trans (getD_at xs k z0 hlt))
      have HBK := Lib.hid hbk
      have HOB := Lib.hid hob2
      clear hv hob hbk hob2
      have y0 := HOB.out.c0
      have y1 := HOB.out.c1
      have y2 := HOB.out.c2
      have y3 := HOB.out.c3
      have y4 := HOB.out.c4
      have y5 := HOB.out.c5
      by_cases hh : objB n v = true
      all_goals
        try rw [Bool.not_eq_true] at hh
        go_wp2_with (go_at_call 50; refine (heap_May_1 n v A2 c2 b _ hn HBK.out HOB.out.le HOB.out.rd (pw_cell_below HB.out HC.out)).mono ?_; rintro e w' ⟨rfl, hb⟩; have HB2 := Lib.hid hb; clear hb y0 y1 y2 y3 y4 y5)
      · go_roundw
        case rel => exact ⟨k + 1, by omega, by go_num, Lib.hid (any_step _ xs k hlt HS.out (by rw [← HV.out, hh]; rfl)), Lib.hid (below_up HB.out HB.out.size HB2.out)⟩
        case measure => simp [intOf]; omega
      · go_ret
        exact ⟨ret_i (idx_at _ xs k hlt HS.out (by rw [← HV.out, hh]; rfl)).symm, below_up HB.out HB.out.size HB2.out⟩
    · go_wp2
      go_ret
      exact ⟨ret_i (idx_none _ xs (by have := HS.out; rwa [List.take_of_length_le (by omega)] at this)).symm, HB.out⟩

theorem objs_not_any (n : Nat) (xs : List Ob) : (!(xs.any fun v => !objB n v)) = objsB n xs := by
  unfold objsB
  induction xs with
  | nil => rfl
  | cons x xs ih => rw [List.any_cons, List.all_cons, ← ih]; cases objB n x <;> simp
set_option maxRecDepth 100000 in
set_option maxHeartbeats 1000000 in
theorem contains_objs (n : Nat) (xs : List Ob) (A : Option Addr) (c b : Nat) (w : World) (hn : n ≤ 9223372036854775807) (hbits : bitsOk xs) (hl : xs.length ≤ c) (hr : kOb.C w A xs.length xs) (hc : w.cell? ⟨b, 0, none⟩ = some (.int .i64 n)) :
    Calls Try.prog 49 #[.slice A xs.length c, .func (.func 50) #[] #[.pointer (some ⟨b, 0, none⟩)]] w fun e w' => e = .returned (.bool (!objsB n xs)) ∧ Below w.heap.size w w' := by
  have HR := Lib.hid hr
  have HC := Lib.hid hc
  have HI := Lib.hid hbits
  clear hr hc hbits
  go_enter Try.func49, Try.ntmps49
  go_wp2_with (go_at_call 58; refine (idx_objs n xs A c b _ hn HI.out hl HR.out HC.out).mono ?_; rintro e w' ⟨rfl, hb⟩)
  go_ret
  exact ⟨ret_b (by rw [← objs_not_any, ← idx_any]; simp), hb⟩

theorem cap_ways2 (h : Hp) :
    (h.cap < 1 ∧ mayB h = false) ∨ (1 ≤ h.cap ∧ 256 < h.cap ∧ mayB h = false) ∨ (1 ≤ h.cap ∧ h.cap ≤ 256 ∧ h.cap < (h.objs.length : Int) ∧ mayB h = false) ∨
    (1 ≤ h.cap ∧ h.cap ≤ 256 ∧ (h.objs.length : Int) ≤ h.cap ∧ inB h.last 1073741823 = false ∧ mayB h = false) ∨
    (1 ≤ h.cap ∧ h.cap ≤ 256 ∧ (h.objs.length : Int) ≤ h.cap ∧ inB h.last 1073741823 = true ∧ mayB h = objsB h.objs.length h.objs) := by
  have hf : ¬ capP h → mayB h = false := fun hh => by unfold mayB; rw [decide_eq_false hh]; simp
  rcases cap_ways h with ⟨a, b⟩ | ⟨a, b, c⟩ | ⟨a, b, c, d⟩ | ⟨a, b, c, d⟩
  · exact .inl ⟨a, hf b⟩
  · exact .inr (.inl ⟨a, b, hf c⟩)
  · exact .inr (.inr (.inl ⟨a, b, c, hf d⟩))
  · right; right; right
    rw [in_hash]
    cases hh : hashB h.last
    · left
      exact ⟨a, b, c, rfl, by unfold mayB; rw [hh]; simp⟩
    · right
      exact ⟨a, b, c, rfl, by unfold mayB; rw [hh, decide_eq_true d]; simp⟩

set_option maxRecDepth 100000 in
set_option maxHeartbeats 2000000 in
theorem heap_May (A : Option Addr) (c : Nat) (h : Hp) (w : World) (hbits : bitsOk h.objs) (hl : h.objs.length ≤ c) (hr : kOb.C w A h.objs.length h.objs) :
    Calls Try.prog 34 #[.agg #[.slice A h.objs.length c, .int .i64 h.cap, .int .i64 h.last]] w fun e w' => e = .returned (.bool (mayB h)) ∧ Below w.heap.size w w' := by
  have hu24 := Try.underlying24
  have hm := Kd.C_max hr
  have HR := Lib.hid hr
  have HI := Lib.hid hbits
  clear hr hbits
  rcases cap_ways2 h with ⟨q1, hq⟩ | ⟨q1, q2, hq⟩ | ⟨q1, q2, q3, hq⟩ | ⟨q1, q2, q3, q4, hq⟩ | ⟨q1, q2, q3, q4, hq⟩
  all_goals
    have HQ := Lib.hid hq
    clear hq
    go_enter Try.func34, Try.ntmps34
    go_wp2_with (go_at_call 48; refine (heap_in _ _ _).mono ?_; rintro e w' ⟨rfl, rfl⟩)
  · go_ret
    exact ⟨ret_b HQ.out.symm, (Below.refl _ _).alloc (Nat.le_refl _) _⟩
  · go_ret
    exact ⟨ret_b HQ.out.symm, (Below.refl _ _).alloc (Nat.le_refl _) _⟩
  · go_ret
    exact ⟨ret_b HQ.out.symm, (Below.refl _ _).alloc (Nat.le_refl _) _⟩
  · go_ret
    exact ⟨ret_b HQ.out.symm, (Below.refl _ _).alloc (Nat.le_refl _) _⟩
  · obtain ⟨hb1, hx1, hx2, hsz⟩ := box2 w (.cells #[.slice A h.objs.length c, .int .i64 h.cap, .int .i64 h.last] 24) (.cells #[.int .i64 (h.objs.length : Int)] 85)
    refine (contains_objs h.objs.length h.objs A c (w.heap.size + 1) _ hm HI.out hl (Kd.C_below HR.out hb1) (cellof hx2 0)).mono ?_
    rintro e w' ⟨rfl, hb⟩
    have HB := Lib.hid (below_up hb1 hb1.size hb)
    clear hb1 hx1 hx2 hsz hb
    go_wp2
    go_ret
    exact ⟨ret_b (by rw [HQ.out]), HB.out⟩
end Go.Proofs.Ytgdobomofdenfaa.Lk
