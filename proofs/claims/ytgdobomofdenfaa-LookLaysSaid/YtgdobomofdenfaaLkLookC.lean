/- Classes: look.May, look.Of; the reference's pairs, May. -/
import Derived.Test.YtgdobomofdenfaaLkLookB
namespace Go.Proofs.Ytgdobomofdenfaa.Lk
open Go.RowKit Go.Proofs.YtgdobomofdenfaaW.PrintWords
set_option linter.unusedVariables false
set_option linter.unusedSimpArgs false

set_option maxRecDepth 100000 in
set_option maxHeartbeats 1000000 in
theorem look_May (A : Option Addr) (cp : Nat) (h : Hp) (c : Int) (w : World) (hbits : bitsOk h.objs) (hl : h.objs.length ≤ cp) (hr : kOb.C w A h.objs.length h.objs) :
    Calls Try.prog 31 #[.agg #[.slice A h.objs.length cp, .int .i64 h.cap, .int .i64 h.last], .int .i64 c] w fun e w' => e = .returned (.bool (mayB h && classB h.objs c)) ∧ Below w.heap.size w w' := by
  have hu24 := Try.underlying24
  have HR := Lib.hid hr
  have HI := Lib.hid hbits
  have HB1 := Lib.hid (box1 w (.cells #[.slice A h.objs.length cp, .int .i64 h.cap, .int .i64 h.last] 24)).1
  clear hr hbits
  cases hm : mayB h
  all_goals
    go_enter Try.func31, Try.ntmps31
    go_wp2_with (first
      | (go_at_call 34; refine (heap_May A cp h _ HI.out hl (Kd.C_below HR.out HB1.out)).mono ?_; rintro e w1 ⟨rfl, hb⟩; obtain ⟨d0, d1, d2⟩ := hbox3 hb; have HB2 := Lib.hid (below_up HB1.out HB1.out.size hb); clear hb)
      | (go_at_call 46; refine (look_class A cp h.objs h.cap h.last c _ hl (Kd.C_below HR.out HB2.out)).mono ?_; rintro e w2 ⟨rfl, hb⟩; have HB3 := Lib.hid (below_up HB2.out HB2.out.size hb); clear hb))
    go_ret
  · exact ⟨rfl, HB2.out⟩
  · exact ⟨rfl, HB3.out⟩

/-- The class of a value: a ref, an error. -/
def ofI (h : Hp) (v : Int) : Int × Int := if mayB h = false then (0, 1) else if nB v = true then (6, 0) else if refI h.objs.length v < 0 then (0, 31) else ((obv h.objs v).cls, 0)
theorem ret_ii {a b c d : Int} (h : a = b) (h' : c = d) : Ending.returned (.tuple #[.int .i64 a, .int .i64 c]) = .returned (.tuple #[.int .i64 b, .int .i64 d]) := by rw [h, h']

set_option maxRecDepth 100000 in
set_option maxHeartbeats 1000000 in
theorem look_Of (A : Option Addr) (cp : Nat) (h : Hp) (v : Int) (w : World) (hbits : bitsOk h.objs) (hl : h.objs.length ≤ cp) (hr : kOb.C w A h.objs.length h.objs) :
    Calls Try.prog 30 #[.agg #[.slice A h.objs.length cp, .int .i64 h.cap, .int .i64 h.last], .int .i64 v] w fun e w' => e = .returned (.tuple #[.int .i64 (ofI h v).1, .int .i64 (ofI h v).2]) ∧ Below w.heap.size w w' := by
  have hu24 := Try.underlying24
  have hu34 := Try.underlying34
  have hmx := Kd.C_max hr
  have HR := Lib.hid hr
  have HI := Lib.hid hbits
  have HB1 := Lib.hid (box1 w (.cells #[.slice A h.objs.length cp, .int .i64 h.cap, .int .i64 h.last] 24)).1
  clear hr hbits
  cases hm : mayB h
  · have fin : ofI h v = (0, 1) := by unfold ofI; rw [if_pos hm]
    have FIN := Lib.hid fin
    clear fin
    go_enter Try.func30, Try.ntmps30
    go_wp2_with (go_at_call 34; refine (heap_May A cp h _ HI.out hl (Kd.C_below HR.out HB1.out)).mono ?_; rintro e w1 ⟨rfl, hb⟩; have HB2 := Lib.hid (below_up HB1.out HB1.out.size hb); clear hb)
    go_ret2
    exact ⟨ret_ii (by rw [FIN.out]) (by rw [FIN.out]), HB2.out⟩
  · cases hn : nB v
    · rcases Int.lt_or_le (refI h.objs.length v) 0 with hv | hv
      · have fin : ofI h v = (0, 31) := by unfold ofI; rw [if_neg (by rw [hm]; decide), if_neg (by rw [hn]; decide), if_pos hv]
        have FIN := Lib.hid fin
        clear fin
        go_enter Try.func30, Try.ntmps30
        go_wp2_with (first
          | (go_at_call 34; refine (heap_May A cp h _ HI.out hl (Kd.C_below HR.out HB1.out)).mono ?_; rintro e w1 ⟨rfl, hb⟩; obtain ⟨d0, d1, d2⟩ := hbox3 hb; have HB2 := Lib.hid (below_up HB1.out HB1.out.size hb); clear hb)
          | (go_at_call 44; refine (value_N v _).mono ?_; rintro e w' ⟨rfl, rfl⟩)
          | (go_at_call 37; refine (look_object_none A h.objs.length cp h.cap h.last v _ hmx hv).mono ?_; rintro e w2 ⟨rfl, hb⟩; have HB3 := Lib.hid (below_up HB2.out HB2.out.size hb); clear hb))
        go_ret2
        exact ⟨ret_ii (by rw [FIN.out]) (by rw [FIN.out]), HB3.out⟩
      · have fin : ofI h v = ((obv h.objs v).cls, 0) := by unfold ofI; rw [if_neg (by rw [hm]; decide), if_neg (by rw [hn]; decide), if_neg (by omega)]
        have FIN := Lib.hid fin
        clear fin
        obtain ⟨a1, a2, a3⟩ := refI_at hv
        obtain ⟨ad, A2, c2, rfl, hob⟩ := obs_at HR.out (refI h.objs.length v).toNat (by omega)
        have HOB : Hid (ObAt w (ad.add ((refI h.objs.length v).toNat * 6)) (obv h.objs v) A2 c2) := hob
        clear hob a1 a2 a3
        go_enter Try.func30, Try.ntmps30
        go_wp2_with (first
          | (go_at_call 34; refine (heap_May _ cp h _ HI.out hl (Kd.C_below HR.out HB1.out)).mono ?_; rintro e w1 ⟨rfl, hb⟩; obtain ⟨d0, d1, d2⟩ := hbox3 hb; have HB2 := Lib.hid (below_up HB1.out HB1.out.size hb); clear hb)
          | (go_at_call 44; refine (value_N v _).mono ?_; rintro e w' ⟨rfl, rfl⟩)
          | (go_at_call 37; refine (look_object_some ad h.objs.length cp h.cap h.last v _ hmx hv).mono ?_; rintro e w2 ⟨rfl, hb⟩; have HB3 := Lib.hid (below_up HB2.out HB2.out.size hb); have y0 := (HOB.out.below HB3.out).c0; clear hb))
        go_ret2
        exact ⟨ret_ii (by rw [FIN.out]) (by rw [FIN.out]), HB3.out⟩
    · have fin : ofI h v = (6, 0) := by unfold ofI; rw [if_neg (by rw [hm]; decide), if_pos hn]
      have FIN := Lib.hid fin
      clear fin
      go_enter Try.func30, Try.ntmps30
      go_wp2_with (first
        | (go_at_call 34; refine (heap_May A cp h _ HI.out hl (Kd.C_below HR.out HB1.out)).mono ?_; rintro e w1 ⟨rfl, hb⟩; obtain ⟨d0, d1, d2⟩ := hbox3 hb; have HB2 := Lib.hid (below_up HB1.out HB1.out.size hb); clear hb)
        | (go_at_call 44; refine (value_N v _).mono ?_; rintro e w' ⟨rfl, rfl⟩)
        | go_in)
      go_ret2
      exact ⟨ret_ii (by rw [FIN.out]) (by rw [FIN.out]), HB2.out⟩
end Go.Proofs.Ytgdobomofdenfaa.Lk
