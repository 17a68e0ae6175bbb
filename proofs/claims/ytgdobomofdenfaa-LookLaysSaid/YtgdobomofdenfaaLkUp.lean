/- look.up: classes, one above the other, as an iterator. -/
import Derived.Test.YtgdobomofdenfaaLkRange
namespace Go.Proofs.Ytgdobomofdenfaa.Lk
open Go.RowKit Go.Proofs.YtgdobomofdenfaaW.PrintWords Go.Shelf
attribute [local go_sem] Oper.semAt_some
set_option linter.unusedVariables false
set_option linter.unusedSimpArgs false

/-- What look.up yields: a value, whether it is a class; at most so many. -/
def upL (l : List Ob) : Nat → Int → List (Int × Bool)
  | 0, _ => []
  | k + 1, c => if classB l c = true then (c, true) :: (if atI (superI l c) = 0 then [] else upL l k (superI l c)) else [(c, false)]
/-- What may be yielded: a value that is told to be a class is one. -/
abbrev UpI (l : List Ob) := { x : Int × Bool // x.2 = true → classB l x.1 = true }
def encUp {l : List Ob} (x : UpI l) : Array Value := #[.int .i64 x.1.1, .bool x.1.2]

set_option maxRecDepth 100000 in
set_option maxHeartbeats 1000000 in
theorem look_up (A : Option Addr) (n cp : Nat) (cap last c : Int) (w : World) :
    Calls Try.prog 35 #[.agg #[.slice A n cp, .int .i64 cap, .int .i64 last], .int .i64 c] w fun e w' =>
      e = .returned (.func (.func 52) #[] #[.pointer (some ⟨w.heap.size, 0, none⟩), .pointer (some ⟨w.heap.size + 1, 0, none⟩)]) ∧
      (w.alloc (.cells #[.slice A n cp, .int .i64 cap, .int .i64 last] 24)).alloc (.cells #[.int .i64 c] 3) = w' := by
  go_enter Try.func35, Try.ntmps35
  go_wp2
  go_ret
  exact ⟨rfl, rfl⟩

theorem grown_of_calls {W W1 : World} (h : Below W.heap.size W W1) (b : Nat) : W.grownBy W1 (some b) := ⟨h.os, h.tape, h.output, h.size, fun k hk _ => h.block k hk⟩
theorem grown_of_set (W : World) (b o : Nat) (v : Value) : W.grownBy (W.setCell ⟨b, o, none⟩ v) (some b) :=
  ⟨rfl, rfl, rfl, by simp [World.setCell], fun k hk hne => Below.heap_setCell _ _ _ _ (fun e => hne (by rw [e]))⟩

theorem class_facts {l : List Ob} {c : Int} (h : classB l c = true) : 0 ≤ refI l.length c ∧ 3 ≤ (obv l c).slots.length ∧ 0 ≤ refI l.length (superI l c) := by
  have := of_decide_eq_true h
  exact ⟨this.1, this.2.2.1, this.2.2.2.1⟩
theorem upL_class {l : List Ob} {c : Int} (k : Nat) (h : classB l c = true) : upL l (k + 1) c = (c, true) :: (if atI (superI l c) = 0 then [] else upL l k (superI l c)) := if_pos h
theorem upL_not {l : List Ob} {c : Int} (k : Nat) (h : classB l c = false) : upL l (k + 1) c = [(c, false)] := if_neg (by rw [h]; decide)

set_option maxRecDepth 100000 in
set_option maxHeartbeats 2000000 in
theorem up_iter (A : Option Addr) (cp : Nat) (l : List Ob) (cap last c : Int) (w0 w : World) (Bh Bc : Nat) (hl : l.length ≤ cp) (hr : kOb.C w0 A l.length l)
    (hb0 : Below w0.heap.size w0 w) (hB : w0.heap.size ≤ Bc) (hne : Bh ≠ Bc)
    (hh : w.heap[Bh]? = some (.cells #[.slice A l.length cp, .int .i64 cap, .int .i64 last] 24 (0, 0))) (hc : w.heap[Bc]? = some (.cells #[.int .i64 c] 3 (0, 0))) :
    IterAt Try.prog 52 #[.pointer (some ⟨Bh, 0, none⟩), .pointer (some ⟨Bc, 0, none⟩)] Bc w (encUp (l := l)) (fun xs => xs.map (·.1) = upL l 64 c) (fun pre => pre.map (·.1) <+: upL l 64 c) 64 := by
  intro n l' J Jx hJ hJx hY W hbW hJ0
  have hu24 := Try.underlying24
  have hu34 := Try.underlying34
  have hm := Kd.C_max hr
  have hBlt := (Array.getElem?_eq_some_iff.1 hc).1
  have hHlt := (Array.getElem?_eq_some_iff.1 hh).1
  have hfn : ∀ f, Fence.wide.fn f := fun _ => trivial
  have hdp : Fence.wide.depth.isSome = false := rfl
  have HR := Lib.hid hr
  have HJ := Lib.hid hJ
  have HJx := Lib.hid hJx
  have HY := Lib.hid hY
  have HJ0 := Lib.hid hJ0
  have HW0 := Lib.hid (hb0.trans (hbW.mono hb0.size))
  have HWs := Lib.hid hbW.size
  have HHW := Lib.hid ((hbW.block Bh hHlt).trans hh)
  have HCW := Lib.hid ((hbW.block Bc hBlt).trans hc)
  clear hr hJ hJx hY hJ0 hb0 hbW hh hc
  refine callsIn_of_wp Try.func52 rfl trivial ?_ rfl
  simp only [Try.ntmps52, List.size_toArray, List.length_cons, List.length_nil, Nat.reduceAdd, Nat.reduceSub, Array.replicate_succ, Array.replicate_zero, List.push_toArray, List.append_toArray, List.nil_append, List.cons_append]
  gi_wp2
  gi_loopw [4] (fun v wr => ∃ (k : Nat) (pre : List (UpI l)) (cur : Int), k ≤ 64 ∧ v = .int .i64 k ∧ Hid (upL l 64 c = pre.map (·.1) ++ upL l (64 - k) cur) ∧ Hid (pre.length = k) ∧ Hid (J pre wr) ∧
      Hid (wr.heap[Bc]? = some (.cells #[.int .i64 cur] 3 (0, 0))) ∧ Hid (wr.heap[Bh]? = some (.cells #[.slice A l.length cp, .int .i64 cap, .int .i64 last] 24 (0, 0))) ∧ Hid (Below w0.heap.size w0 wr) ∧ Hid (w.heap.size ≤ wr.heap.size))
    (fun v _ => 64 - (intOf v).toNat)
  case atStart => exact ⟨0, [], c, by omega, rfl, Lib.hid rfl, Lib.hid rfl, HJ0, HCW, HHW, HW0, HWs⟩
  case round =>
    obtain ⟨k, pre, cur, hk, rfl, HU, HL, HJr, HC, HH, HB, HS⟩ := hrel
    have hHr : Bh < wr.heap.size := by have := HS.out; omega
    have hCr : Bc < wr.heap.size := by have := HS.out; omega
    by_cases hlt : k < 64
    · have d0 : wr.cell? ⟨Bh, 0, none⟩ = some (.slice A l.length cp) := cellof HH.out 0
      have d1 : wr.cell? ⟨Bh, 1, none⟩ = some (.int .i64 cap) := cellof HH.out 1
      have d2 : wr.cell? ⟨Bh, 2, none⟩ = some (.int .i64 last) := cellof HH.out 2
      have e0 : wr.cell? ⟨Bc, 0, none⟩ = some (.int .i64 cur) := cellof HC.out 0
      by_cases hcl : classB l cur = true
      · obtain ⟨f1, f2, f3⟩ := class_facts hcl
        obtain ⟨a1, a2, a3⟩ := refI_at f1
        obtain ⟨ad, A2, c2, rfl, hob⟩ := obs_at HR.out (refI l.length cur).toNat (by omega)
        have HOB : Hid (ObAt w0 (ad.add ((refI l.length cur).toNat * 6)) (obv l cur) A2 c2) := hob
        obtain ⟨ad2, rfl, hs0⟩ := ints_at HOB.out.rd 0 (by omega)
        have HS0 : Hid (w0.cell? ad2 = some (.int .i64 (superI l cur))) := hs0
        have F1 := Lib.hid f1
        have hm2 := Kd.C_max HOB.out.rd
        have hle := HOB.out.le
        have HU2 : Hid (upL l 64 c = (pre ++ [⟨(cur, true), fun _ => hcl⟩] : List (UpI l)).map (·.1) ++ (if atI (superI l cur) = 0 then [] else upL l (63 - k) (superI l cur))) := Lib.hid (by
          rw [HU.out, show 64 - k = (63 - k) + 1 from by omega, upL_class _ hcl]; simp)
        have f4 : 0 < (obv l cur).slots.length := by omega
        clear hob hs0 a1 a2 a3 f1 f3
        gi_wp2_with (gi_at_call 46; refine (callsIn_wide.2 (look_class _ cp l cap last cur _ hl (Kd.C_below HR.out HB.out))).mono ?_; rintro e w1 ⟨rfl, hb⟩; have HB1 := Lib.hid hb; have e1 := pw_cell_below hb e0; clear hb; obtain ⟨fn, tmps, assign, body, hy, hR⟩ := HY.out pre ⟨(cur, true), fun _ => hcl⟩ w1 (HJ.out _ _ _ HJr.out (grown_of_calls HB1.out Bc)) (by rw [HL.out]; exact hlt); dsimp only [encUp] at hy)
        refine hR.mono ?_
        rintro e W2 (⟨rfl, hJ2, hk2⟩ | ⟨rfl, hJx2⟩)
        · have HJ2 := Lib.hid hJ2
          have HK2 := Lib.hid hk2
          have hs1 : w.heap.size ≤ w1.heap.size := by have := HS.out; have := HB1.out.size; omega
          have HBh : Hid (W2.heap[Bh]? = some (.cells #[.slice (some ad) l.length cp, .int .i64 cap, .int .i64 last] 24 (0, 0))) := Lib.hid ((hk2.block Bh hHlt).trans ((HB1.out.block Bh hHr).trans HH.out))
          have HBc : Hid (W2.heap[Bc]? = some (.cells #[.int .i64 cur] 3 (0, 0))) := Lib.hid ((hk2.block Bc hBlt).trans ((HB1.out.block Bc hCr).trans HC.out))
          have HB2 : Hid (Below w0.heap.size w0 W2) := Lib.hid ((below_up HB.out HB.out.size HB1.out).trans (hk2.mono (by omega)))
          have hz2 := hk2.size
          clear hJ2 hk2 hy d0 d1 d2 e0 e1
          have d0 : W2.cell? ⟨Bh, 0, none⟩ = some (.slice (some ad) l.length cp) := cellof HBh.out 0
          have d1 : W2.cell? ⟨Bh, 1, none⟩ = some (.int .i64 cap) := cellof HBh.out 1
          have d2 : W2.cell? ⟨Bh, 2, none⟩ = some (.int .i64 last) := cellof HBh.out 2
          have e0 : W2.cell? ⟨Bc, 0, none⟩ = some (.int .i64 cur) := cellof HBc.out 0
          gi_wp2_with (first
            | (gi_at_call 37; refine (callsIn_wide.2 (look_object_some ad l.length cp cap last cur _ hm F1.out)).mono ?_; rintro e w3 ⟨rfl, hb⟩; have HB3 := Lib.hid hb; have y2 := (HOB.out.below (below_up HB2.out HB2.out.size hb)).c2; have z0 := pw_cell_below (below_up HB2.out HB2.out.size hb) HS0.out; have e3 := pw_cell_below hb e0; have f3 : w3.frozen? ⟨Bc, 0, none⟩ = false := blk_frozen ((hb.block Bc (by omega)).trans HBc.out) 0)
            | (gi_at_call 53; refine (callsIn_wide.2 (value_At (superI l cur) _)).mono ?_; rintro e w4 ⟨rfl, rfl⟩))
          · have hz : atI (superI l cur) = 0 := by have h : (atI (superI l cur) == 0) = true := by assumption
                                                   exact beq_iff_eq.1 h
            refine bodyPost_ret (results_none rfl _ _ _) rfl ?_
            exact ⟨⟨_, rfl⟩, .inl ⟨pre ++ [⟨(cur, true), fun _ => hcl⟩], by rw [HU2.out, if_pos hz, List.append_nil], HJ.out _ _ _ (HJ.out _ _ _ HJ2.out (grown_of_calls HB3.out Bc)) (grown_of_set _ Bc 0 _)⟩⟩
          · have hz : ¬ atI (superI l cur) = 0 := by have h : (atI (superI l cur) == 0) = false := by assumption
                                                     exact beq_eq_false_iff_ne.1 h
            have hz3 := HB3.out.size
            have hg : w3.heap[Bc]? = some (.cells #[.int .i64 cur] 3 (0, 0)) := (HB3.out.block Bc (by omega)).trans HBc.out
            have hgh : w3.heap[Bh]? = some (.cells #[.slice (some ad) l.length cp, .int .i64 cap, .int .i64 last] 24 (0, 0)) := (HB3.out.block Bh (by omega)).trans HBh.out
            go_roundw
            case rel => exact ⟨k + 1, pre ++ [⟨(cur, true), fun _ => hcl⟩], superI l cur, by omega, by go_num, Lib.hid (by rw [HU2.out, if_neg hz, show 63 - k = 64 - (k + 1) from by omega]), Lib.hid (by rw [List.length_append, HL.out]; rfl),
              Lib.hid (HJ.out _ _ _ (HJ.out _ _ _ HJ2.out (grown_of_calls HB3.out Bc)) (grown_of_set _ Bc 0 _)), Lib.hid (by simpa using blk_set hg 0 (.int .i64 (superI l cur))), Lib.hid (blk_far hgh hne _),
              Lib.hid ((below_up HB2.out HB2.out.size HB3.out).setCell hB _), Lib.hid (by simp [World.setCell]; omega)⟩
            case measure => simp [intOf]; omega
        · gi_wp2
          refine bodyPost_ret (results_none rfl _ _ _) rfl ?_
          exact ⟨⟨_, rfl⟩, .inr ⟨pre ++ [⟨(cur, true), fun _ => hcl⟩], ⟨_, HU2.out.symm⟩, hJx2⟩⟩
      · rw [Bool.not_eq_true] at hcl
        obtain ⟨it, hit⟩ : ∃ it : UpI l, it = ⟨(cur, false), fun h => by cases h⟩ := ⟨_, rfl⟩
        have hit1 : it.1 = (cur, false) := by rw [hit]
        have HIT := Lib.hid hit1
        clear hit hit1
        have HU2 : Hid (upL l 64 c = (pre ++ [it]).map (·.1)) := Lib.hid (by
          rw [HU.out, show 64 - k = (63 - k) + 1 from by omega, upL_not _ hcl]; simp [HIT.out])
        gi_wp2_with (gi_at_call 46; refine (callsIn_wide.2 (look_class _ cp l cap last cur _ hl (Kd.C_below HR.out HB.out))).mono ?_; rintro e w1 ⟨rfl, hb⟩; have HB1 := Lib.hid hb; have e1 := pw_cell_below hb e0; clear hb; obtain ⟨fn, tmps, assign, body, hy, hR⟩ := HY.out pre it w1 (HJ.out _ _ _ HJr.out (grown_of_calls HB1.out Bc)) (by rw [HL.out]; exact hlt); simp only [encUp, HIT.out] at hy)
        refine hR.mono ?_
        rintro e W2 (⟨rfl, hJ2, hk2⟩ | ⟨rfl, hJx2⟩)
        · gi_wp2
          refine bodyPost_ret (results_none rfl _ _ _) rfl ?_
          exact ⟨⟨_, rfl⟩, .inl ⟨pre ++ [it], HU2.out.symm, hJ2⟩⟩
        · gi_wp2
          refine bodyPost_ret (results_none rfl _ _ _) rfl ?_
          exact ⟨⟨_, rfl⟩, .inr ⟨pre ++ [it], by rw [HU2.out]; exact List.prefix_refl _, hJx2⟩⟩
    · have hk64 : k = 64 := by omega
      have HU2 : Hid (upL l 64 c = pre.map (·.1)) := Lib.hid (by rw [HU.out, hk64]; exact List.append_nil _)
      clear hk64
      gi_wp2
      go_end0
      exact ⟨⟨_, rfl⟩, .inl ⟨pre, HU2.out.symm, HJr.out⟩⟩
end Go.Proofs.Ytgdobomofdenfaa.Lk
