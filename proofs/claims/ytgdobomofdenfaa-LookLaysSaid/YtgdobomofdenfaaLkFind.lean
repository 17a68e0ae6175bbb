/- look.Find. -/
import Derived.Test.YtgdobomofdenfaaLkRound
namespace Go.Proofs.Ytgdobomofdenfaa.Lk
open Go.RowKit Go.Proofs.YtgdobomofdenfaaW.PrintWords Go.Shelf
attribute [local go_sem] Oper.semAt_some
set_option linter.unusedVariables false
set_option linter.unusedSimpArgs false

/-- What goes with the first selector of that value among pairs. -/
def lookP : List Int → Int → Option Int
  | s :: v :: r, sel => if s = sel then some v else lookP r sel
  | _, _ => none
/-- What is found among what is yielded: a method, a class, an error. -/
def findL (l : List Ob) (sel : Int) : List (Int × Bool) → Int × Int × Int
  | [] => (0, 0, 91)
  | (a, true) :: r => match lookP (pairsL l (dictI l a)) sel with
    | some v => (v, a, 0)
    | none => findL l sel r
  | (_, false) :: _ => (0, 0, 90)
def findI (h : Hp) (c sel : Int) : Int × Int × Int := if mayB h = true then findL h.objs sel (upL h.objs 64 c) else (0, 0, 1)
theorem findL_bad (l : List Ob) (sel a : Int) (r : List (Int × Bool)) : findL l sel ((a, false) :: r) = (0, 0, 90) := rfl
theorem findL_some {l : List Ob} {sel a v : Int} (r : List (Int × Bool)) (h : lookP (pairsL l (dictI l a)) sel = some v) : findL l sel ((a, true) :: r) = (v, a, 0) := by
  simp only [findL, h]
theorem findL_none {l : List Ob} {sel a : Int} (r : List (Int × Bool)) (h : lookP (pairsL l (dictI l a)) sel = none) : findL l sel ((a, true) :: r) = findL l sel r := by
  simp only [findL, h]
theorem lookP_here {xs : List Int} {sel : Int} {k : Nat} (hk : k + 1 < xs.length) (h : xs.getD k 0 = sel) : lookP (xs.drop k) sel = some (xs.getD (k + 1) 0) := by
  rw [List.drop_eq_getElem_cons (by omega), List.drop_eq_getElem_cons hk]
  rw [getD_at _ _ _ (by omega)] at h
  rw [getD_at _ _ _ hk]
  simp only [lookP, h, if_true]
theorem lookP_on {xs : List Int} {sel : Int} {k : Nat} (hk : k + 1 < xs.length) (h : xs.getD k 0 ≠ sel) : lookP (xs.drop k) sel = lookP (xs.drop (k + 2)) sel := by
  rw [List.drop_eq_getElem_cons (by omega), List.drop_eq_getElem_cons hk]
  rw [getD_at _ _ _ (by omega)] at h
  simp only [lookP, if_neg h]
theorem lookP_end {xs : List Int} {sel : Int} {k : Nat} (hk : ¬ k + 1 < xs.length) : lookP (xs.drop k) sel = none := by
  have hl : (xs.drop k).length ≤ 1 := by rw [List.length_drop]; omega
  match h : xs.drop k with
  | [] => rfl
  | [_] => rfl
  | _ :: _ :: _ => rw [h] at hl; simp at hl

theorem may_obj {h : Hp} (hm : mayB h = true) (k : Nat) (hk : k < h.objs.length) : objB h.objs.length (ob h.objs k) = true := by
  unfold mayB at hm
  rw [Bool.and_eq_true] at hm
  have := List.all_eq_true.1 hm.1 (h.objs[k]) (List.getElem_mem hk)
  unfold ob
  rwa [getD_at _ _ _ hk]
theorem obj_slots {n : Nat} {o : Ob} (h : objB n o = true) : o.slots.length ≤ 64 := by
  unfold objB restB at h
  simp only [Bool.and_eq_true, decide_eq_true_eq] at h
  omega
theorem pairs_len {h : Hp} (hm : mayB h = true) (v : Int) : (pairsL h.objs v).length ≤ 64 := by
  unfold pairsL
  split
  · simp
  · split
    · rename_i hp
      have := refI_bd h.objs.length v
      exact obj_slots (may_obj hm _ (by omega))
    · simp

theorem box5 (w : World) (o1 o2 o3 o4 o5 : Obj) : Below w.heap.size w (((((w.alloc o1).alloc o2).alloc o3).alloc o4).alloc o5) ∧ (((((w.alloc o1).alloc o2).alloc o3).alloc o4).alloc o5).heap[w.heap.size]? = some o1 ∧ (((((w.alloc o1).alloc o2).alloc o3).alloc o4).alloc o5).heap[w.heap.size + 1]? = some o2 ∧
    (((((w.alloc o1).alloc o2).alloc o3).alloc o4).alloc o5).heap[w.heap.size + 2]? = some o3 ∧ (((((w.alloc o1).alloc o2).alloc o3).alloc o4).alloc o5).heap[w.heap.size + 3]? = some o4 ∧
    (((((w.alloc o1).alloc o2).alloc o3).alloc o4).alloc o5).heap[w.heap.size + 4]? = some o5 ∧ (((((w.alloc o1).alloc o2).alloc o3).alloc o4).alloc o5).heap.size = w.heap.size + 5 := by
  obtain ⟨h1, h2, h3, h4, h5⟩ := box3 w o1 o2 o3
  obtain ⟨k1, k2, k3, k4⟩ := box2 (((w.alloc o1).alloc o2).alloc o3) o4 o5
  rw [h5] at k2 k3 k4
  refine ⟨h1.trans (k1.mono (by omega)), (k1.block _ (by omega)).trans h2, (k1.block _ (by omega)).trans h3, (k1.block _ (by omega)).trans h4, k2, k3, k4⟩
theorem beyond5 {w w1 : World} {o1 o2 o3 o4 o5 : Obj} (hb : Below (((((w.alloc o1).alloc o2).alloc o3).alloc o4).alloc o5).heap.size (((((w.alloc o1).alloc o2).alloc o3).alloc o4).alloc o5) w1) :
    w1.heap[w.heap.size]? = some o1 ∧ w1.heap[w.heap.size + 1]? = some o2 ∧ w1.heap[w.heap.size + 2]? = some o3 ∧ w1.heap[w.heap.size + 3]? = some o4 ∧ w1.heap[w.heap.size + 4]? = some o5 := by
  obtain ⟨h1, h2, h3, h4, h5, h6, h7⟩ := box5 w o1 o2 o3 o4 o5
  exact ⟨(hb.block _ (by omega)).trans h2, (hb.block _ (by omega)).trans h3, (hb.block _ (by omega)).trans h4, (hb.block _ (by omega)).trans h5, (hb.block _ (by omega)).trans h6⟩

theorem set_other {W : World} {p q : Addr} {v u : Value} (h : W.cell? q = some v) (hne : q.block ≠ p.block) : (W.setCell p u).cell? q = some v :=
  (World.cell?_of_block (Below.heap_setCell W p u q.block hne)).trans h
theorem set3 {W : World} {b : Nat} {x0 y0 z0 : Value} (x y z : Value) (hx : W.cell? ⟨b + 2, 0, none⟩ = some x0) (hy : W.cell? ⟨b + 3, 0, none⟩ = some y0) (hz : W.cell? ⟨b + 4, 0, none⟩ = some z0) :
    (((W.setCell ⟨b + 2, 0, none⟩ x).setCell ⟨b + 3, 0, none⟩ y).setCell ⟨b + 4, 0, none⟩ z).cell? ⟨b + 2, 0, none⟩ = some x ∧
    (((W.setCell ⟨b + 2, 0, none⟩ x).setCell ⟨b + 3, 0, none⟩ y).setCell ⟨b + 4, 0, none⟩ z).cell? ⟨b + 3, 0, none⟩ = some y ∧
    (((W.setCell ⟨b + 2, 0, none⟩ x).setCell ⟨b + 3, 0, none⟩ y).setCell ⟨b + 4, 0, none⟩ z).cell? ⟨b + 4, 0, none⟩ = some z := by
  have a1 : (W.setCell ⟨b + 2, 0, none⟩ x).cell? ⟨b + 2, 0, none⟩ = some x := World.cell?_setCell_same' _ _ _ (by rw [hx]; rfl)
  have a2 : (W.setCell ⟨b + 2, 0, none⟩ x).cell? ⟨b + 3, 0, none⟩ = some y0 := set_other hy (by simp)
  have a3 : (W.setCell ⟨b + 2, 0, none⟩ x).cell? ⟨b + 4, 0, none⟩ = some z0 := set_other hz (by simp)
  have b1 : ((W.setCell ⟨b + 2, 0, none⟩ x).setCell ⟨b + 3, 0, none⟩ y).cell? ⟨b + 2, 0, none⟩ = some x := set_other a1 (by simp)
  have b2 : ((W.setCell ⟨b + 2, 0, none⟩ x).setCell ⟨b + 3, 0, none⟩ y).cell? ⟨b + 3, 0, none⟩ = some y := World.cell?_setCell_same' _ _ _ (by rw [a2]; rfl)
  have b3 : ((W.setCell ⟨b + 2, 0, none⟩ x).setCell ⟨b + 3, 0, none⟩ y).cell? ⟨b + 4, 0, none⟩ = some z0 := set_other a3 (by simp)
  exact ⟨set_other b1 (by simp), set_other b2 (by simp), World.cell?_setCell_same' _ _ _ (by rw [b3]; rfl)⟩
theorem below_set3 {n : Nat} {w W : World} {b : Nat} {x y z : Value} (h : Below n w W) (hn : n ≤ b) : Below n w (((W.setCell ⟨b + 2, 0, none⟩ x).setCell ⟨b + 3, 0, none⟩ y).setCell ⟨b + 4, 0, none⟩ z) :=
  ((h.setCell (by show n ≤ b + 2; omega) _).setCell (by show n ≤ b + 3; omega) _).setCell (by show n ≤ b + 4; omega) _
theorem keeps_set3 (W : World) (b : Nat) (x y z : Value) : KeepsOthers W (((W.setCell ⟨b + 2, 0, none⟩ x).setCell ⟨b + 3, 0, none⟩ y).setCell ⟨b + 4, 0, none⟩ z) :=
  ((KeepsOthers.setCell W _ _).trans (KeepsOthers.setCell _ _ _)).trans (KeepsOthers.setCell _ _ _)
theorem keeps_below {W W1 : World} (h : Below W.heap.size W W1) : KeepsOthers W W1 := ⟨h.size, fun k o hk _ => (h.block k (Array.getElem?_eq_some_iff.1 hk).1).trans hk⟩
theorem ret3 {a b c a' b' c' : Int} (h1 : a = a') (h2 : b = b') (h3 : c = c') : Ending.returned (.tuple #[.int .i64 a, .int .i64 b, .int .i64 c]) = .returned (.tuple #[.int .i64 a', .int .i64 b', .int .i64 c']) := by rw [h1, h2, h3]

set_option maxRecDepth 100000 in
set_option maxHeartbeats 2000000 in
theorem look_Find (A : Option Addr) (cp : Nat) (h : Hp) (c sel : Int) (w : World) (hbits : bitsOk h.objs) (hl : h.objs.length ≤ cp) (hr : kOb.C w A h.objs.length h.objs) :
    Calls Try.prog 14 #[.agg #[.slice A h.objs.length cp, .int .i64 h.cap, .int .i64 h.last], .int .i64 c, .int .i64 sel] w fun e w' =>
      e = .returned (.tuple #[.int .i64 (findI h c sel).1, .int .i64 (findI h c sel).2.1, .int .i64 (findI h c sel).2.2]) ∧ Below w.heap.size w w' := by
  have hu24 := Try.underlying24
  have hu34 := Try.underlying34
  have hfn : ∀ f, Fence.wide.fn f := fun _ => trivial
  have hdp : Fence.wide.depth.isSome = false := rfl
  have hmx := Kd.C_max hr
  have HR := Lib.hid hr
  have HI := Lib.hid hbits
  clear hr hbits
  have HB1 := Lib.hid (box5 w (.cells #[.slice A h.objs.length cp, .int .i64 h.cap, .int .i64 h.last] 24) (.cells #[.int .i64 sel] 3) (.cells #[.int .i64 0] 3) (.cells #[.int .i64 0] 3) (.cells #[.int .i64 0] 27)).1
  refine (callsIn_wide (n := 3)).1 ?_
  refine callsIn_of_wp_marks Try.func14 rfl trivial ?_ rfl
  simp only [Try.ntmps14, List.size_toArray, List.length_cons, List.length_nil, Nat.reduceAdd, Nat.reduceSub, Array.replicate_succ, Array.replicate_zero, List.push_toArray, List.append_toArray, List.nil_append, List.cons_append]
  cases hm : mayB h
  · have HM := Lib.hid hm
    gi_wp2_with (gi_at_call 34; refine (callsIn_wide.2 (heap_May A cp h _ HI.out hl (Kd.C_below HR.out HB1.out))).mono ?_; rintro e w1 ⟨rfl, hb⟩; obtain ⟨k1, k2, k3, k4, k5⟩ := beyond5 hb; have HB2 := Lib.hid (below_up HB1.out HB1.out.size hb); have r0 : w1.cell? ⟨w.heap.size + 2, 0, none⟩ = some (.int .i64 0) := cellof k3 0; have r1 : w1.cell? ⟨w.heap.size + 3, 0, none⟩ = some (.int .i64 0) := cellof k4 0; have r2 : w1.cell? ⟨w.heap.size + 4, 0, none⟩ = some (.int .i64 0) := cellof k5 0; have rf := blk_frozen k3 0; have rf1 := blk_frozen k4 0; have rf2 := blk_frozen k5 0; clear hb k1 k2 k3 k4 k5)
    obtain ⟨c1, c2, c3⟩ := set3 (.int .i64 0) (.int .i64 0) (.int .i64 1) r0 r1 r2
    refine ⟨.tuple #[.int .i64 0, .int .i64 0, .int .i64 1], by simp [results, Try.f14, go_sem, c1, c2, c3], ?_⟩
    have hf : findI h c sel = (0, 0, 1) := by unfold findI; rw [if_neg (by rw [HM.out]; decide)]
    exact ⟨ret3 (by rw [hf]) (by rw [hf]) (by rw [hf]), below_set3 HB2.out (Nat.le_refl _)⟩
  · have HM := Lib.hid hm
    gi_wp2_with (first
      | (gi_at_call 34; refine (callsIn_wide.2 (heap_May A cp h _ HI.out hl (Kd.C_below HR.out HB1.out))).mono ?_; rintro e w1 ⟨rfl, hb⟩; obtain ⟨k1, k2, k3, k4, k5⟩ := beyond5 hb; have HK1 := Lib.hid k1; have HK2 := Lib.hid k2; have HK3 := Lib.hid k3; have HK4 := Lib.hid k4; have HK5 := Lib.hid k5; have HB2 := Lib.hid (below_up HB1.out HB1.out.size hb); have d0 : w1.cell? ⟨w.heap.size, 0, none⟩ = some (.slice A h.objs.length cp) := cellof k1 0; have d1 : w1.cell? ⟨w.heap.size, 1, none⟩ = some (.int .i64 h.cap) := cellof k1 1; have d2 : w1.cell? ⟨w.heap.size, 2, none⟩ = some (.int .i64 h.last) := cellof k1 2; clear hb k1 k2 k3 k4 k5)
      | (gi_at_call 35; refine (callsIn_wide.2 (look_up A h.objs.length cp h.cap h.last c _)).mono ?_; rintro e w2 ⟨rfl, rfl⟩))
    refine wpIn_box2 ?_
    intro W2 hbz hx1 hx2 hsz
    have hz1 := (Array.getElem?_eq_some_iff.1 HK5.out).1
    have HW2 := Lib.hid (below_up HB2.out HB2.out.size hbz)
    have HR1 := Lib.hid ((hbz.block _ (by omega)).trans HK1.out)
    have HR2 := Lib.hid ((hbz.block _ (by omega)).trans HK2.out)
    have HR3 := Lib.hid ((hbz.block _ (by omega)).trans HK3.out)
    have HR4 := Lib.hid ((hbz.block _ (by omega)).trans HK4.out)
    have HR5 := Lib.hid ((hbz.block _ (by omega)).trans HK5.out)
    have HX1 := Lib.hid hx1
    have HX2 := Lib.hid hx2
    clear d0 d1 d2 hx1 hx2 hbz HK1 HK2 HK3 HK4 HK5
    refine range_box (gf := 52) (lb := #[.pointer (some ⟨w1.heap.size, 0, none⟩), .pointer (some ⟨w1.heap.size + 1, 0, none⟩)]) rfl (enters_of Try.func52 (by kernel_rfl) rfl) (w1.heap.size + 1) (by omega)
      (up_iter A cp h.objs h.cap h.last c w W2 w1.heap.size (w1.heap.size + 1) hl HR.out HW2.out (by omega) (by omega) HX1.out HX2.out) (fun _ => rfl)
      (fun pre W => W2.grownBy W (some (w1.heap.size + 1)) ∧ ∀ rest, findL h.objs sel (pre.map (·.1) ++ rest) = findL h.objs sel rest)
      (fun pre W => Below w.heap.size w W ∧ ∃ r : Int × Int × Int, W.cell? ⟨w.heap.size + 2, 0, none⟩ = some (.int .i64 r.1) ∧ W.cell? ⟨w.heap.size + 3, 0, none⟩ = some (.int .i64 r.2.1) ∧ W.cell? ⟨w.heap.size + 4, 0, none⟩ = some (.int .i64 r.2.2) ∧ ∀ rest, findL h.objs sel (pre.map (·.1) ++ rest) = r)
      (fun s A B hs hg => ⟨grown_trans hs.1 hg, hs.2⟩) (fun s A l o hs hl => ⟨grown_put hs.1 hl, hs.2⟩)
      (fun s A B hs hg => by
        obtain ⟨hb, r, h1, h2, h3, h4⟩ := hs
        exact ⟨grown_below hb hg hb.size (by omega), r, grown_cell hg h1 (by simp; omega), grown_cell hg h2 (by simp; omega), grown_cell hg h3 (by simp; omega), h4⟩)
      (fun s A l o hs hl => by
        obtain ⟨hb, r, h1, h2, h3, h4⟩ := hs
        exact ⟨below_put hb (by omega), r, put_cell h1 (by simp; omega), put_cell h2 (by simp; omega), put_cell h3 (by simp; omega), h4⟩)
      ⟨⟨rfl, rfl, rfl, Nat.le_refl _, fun _ _ _ => rfl⟩, fun _ => rfl⟩
      (fun x => { tmps := #[.agg #[.slice A h.objs.length cp, .int .i64 h.cap, .int .i64 h.last], .int .i64 c, .int .i64 sel, .pointer (some ⟨w.heap.size, 0, none⟩), undef, .pointer (some ⟨w.heap.size + 1, 0, none⟩), .pointer (some ⟨w.heap.size + 2, 0, none⟩), .pointer (some ⟨w.heap.size + 3, 0, none⟩), .pointer (some ⟨w.heap.size + 4, 0, none⟩), .int .i64 x.1.1, .bool x.1.2, undef, undef, undef,
        .agg #[.slice A h.objs.length cp, .int .i64 h.cap, .int .i64 h.last], .bool true, .bool false, .agg #[.slice A h.objs.length cp, .int .i64 h.cap, .int .i64 h.last], .int .i64 c,
        .func (.func 52) #[] #[.pointer (some ⟨w1.heap.size, 0, none⟩), .pointer (some ⟨w1.heap.size + 1, 0, none⟩)], .int .i64 x.1.1, .bool x.1.2, undef, undef, undef, undef, undef, undef, undef, undef, undef, undef, undef, undef, undef, undef, undef, undef, undef, undef, undef, undef, undef, undef, undef, undef, undef, undef, undef, undef, undef, undef, undef, undef, undef, undef], defers := [] }) ?assign ?body ?done ?stop
    case assign =>
      intro l x W K hK
      simp only [encUp]
      gi_wp2
      exact hK
    case body =>
      rintro l pre x W ⟨hg, hp⟩ hlen
      have hr0 : W.cell? ⟨w.heap.size + 2, 0, none⟩ = some (.int .i64 0) := grown_cell hg (cellof HR3.out 0) (by simp; omega)
      have hr1 : W.cell? ⟨w.heap.size + 3, 0, none⟩ = some (.int .i64 0) := grown_cell hg (cellof HR4.out 0) (by simp; omega)
      have hr2 : W.cell? ⟨w.heap.size + 4, 0, none⟩ = some (.int .i64 0) := grown_cell hg (cellof HR5.out 0) (by simp; omega)
      have hf0 : W.frozen? ⟨w.heap.size + 2, 0, none⟩ = false := blk_frozen ((hg.block _ (by omega) (by simp; omega)).trans HR3.out) 0
      have hf1 : W.frozen? ⟨w.heap.size + 3, 0, none⟩ = false := blk_frozen ((hg.block _ (by omega) (by simp; omega)).trans HR4.out) 0
      have hf2 : W.frozen? ⟨w.heap.size + 4, 0, none⟩ = false := blk_frozen ((hg.block _ (by omega) (by simp; omega)).trans HR5.out) 0
      have d0 : W.cell? ⟨w.heap.size, 0, none⟩ = some (.slice A h.objs.length cp) := grown_cell hg (cellof HR1.out 0) (by simp; omega)
      have d1 : W.cell? ⟨w.heap.size, 1, none⟩ = some (.int .i64 h.cap) := grown_cell hg (cellof HR1.out 1) (by simp; omega)
      have d2 : W.cell? ⟨w.heap.size, 2, none⟩ = some (.int .i64 h.last) := grown_cell hg (cellof HR1.out 2) (by simp; omega)
      have e0 : W.cell? ⟨w.heap.size + 1, 0, none⟩ = some (.int .i64 sel) := grown_cell hg (cellof HR2.out 0) (by simp; omega)
      have HF3 := Lib.hid ((hg.block _ (by omega) (by simp; omega)).trans HR3.out)
      have HF4 := Lib.hid ((hg.block _ (by omega) (by simp; omega)).trans HR4.out)
      have HF5 := Lib.hid ((hg.block _ (by omega) (by simp; omega)).trans HR5.out)
      have HG := Lib.hid hg
      have HP := Lib.hid hp
      have HB := Lib.hid (grown_below HW2.out hg HW2.out.size (by omega))
      have HWz := Lib.hid hg.size
      clear hg hp hlen
      cases hxb : x.1.2
      · gi_wp2
        exact ⟨keeps_set3 _ _ _ _ _, below_set3 HB.out (Nat.le_refl _), (0, 0, 90), (set3 _ _ _ hr0 hr1 hr2).1, (set3 _ _ _ hr0 hr1 hr2).2.1, (set3 _ _ _ hr0 hr1 hr2).2.2, fun rest => by
          rw [List.map_append, List.append_assoc, HP.out]
          obtain ⟨⟨v, b⟩, hx⟩ := x
          dsimp only at hxb
          subst hxb
          rfl⟩
      · have hcl := x.2 hxb
        obtain ⟨f1, f2, f3⟩ := class_facts hcl
        obtain ⟨a1, a2, a3⟩ := refI_at f1
        obtain ⟨ad, A2, c2, hA, hob⟩ := obs_at HR.out (refI h.objs.length x.1.1).toNat (by omega)
        have HOB : Hid (ObAt w (ad.add ((refI h.objs.length x.1.1).toNat * 6)) (obv h.objs x.1.1) A2 c2) := hob
        obtain ⟨ad2, rfl, hs1⟩ := ints_at HOB.out.rd 1 (by omega)
        have HS1 : Hid (w.cell? ⟨ad2.block, ad2.off + 1, none⟩ = some (.int .i64 (dictI h.objs x.1.1))) := hs1
        have F1 := Lib.hid f1
        have hm2 := Kd.C_max HOB.out.rd
        have hle := HOB.out.le
        have f4 : 1 < (obv h.objs x.1.1).slots.length := by omega
        obtain ⟨A', c', hpl, hpr, hpp⟩ := look_pairs_any A cp h.objs h.cap h.last (dictI h.objs x.1.1) w hl HR.out
        have h64 := pairs_len HM.out (dictI h.objs x.1.1)
        obtain ⟨xs, hxs⟩ : ∃ xs, pairsL h.objs (dictI h.objs x.1.1) = xs := ⟨_, rfl⟩
        rw [hxs] at hpl hpr hpp h64
        have HXS := Lib.hid hxs
        clear hxs
        have HPP := Lib.hid hpp
        have HPR := Lib.hid hpr
        have hm3 := Kd.C_max hpr
        subst hA
        clear hob hs1 a1 a2 a3 f1 f2 f3 hcl hpp hpr hr0 hr1 hr2 hf0 hf1 hf2
        gi_wp2
        have x0 := fun x : Ext W => x.cell d0
        have x1 := fun x : Ext W => x.cell d1
        have x2 := fun x : Ext W => x.cell d2
        have y2 := fun y : Ext W => y.cell (HOB.out.below HB.out).c2
        have s1 := fun y : Ext W => y.cell (pw_cell_below HB.out HS1.out)
        refine wpIn_region_round (fun ⟨_, _, h⟩ => h) (by kernel_rfl) (by kernel_rfl) (by kernel_rfl) ?_
        repeat (go_big_quiet_step ((first | (go_at_call 37; exact calls_ext (look_object_some ad _ _ _ _ x.1.1 _ hmx F1.out)) | (go_at_call 36; exact calls_ext (HPP.out _ (below_up HB.out HB.out.size (Ext.below _)))))))
        refine wpQuiet_nil ?_
        rintro _ ⟨y, rfl⟩
        clear x0 x1 x2 y2 s1 d0 d1 d2
        have HY := Lib.hid y.below
        have HBy := Lib.hid (below_up HB.out HB.out.size y.below)
        have e0 := y.cell e0
        have hyz := y.below.size
        have hwz := HWz.out
        gi_wp2
        gi_loopw [13] (fun v wr => ∃ k : Nat, v = .int .i64 k ∧ k ≤ xs.length ∧ Hid (lookP (xs.drop k) sel = lookP xs sel) ∧ Hid (Below y.val.heap.size y.val wr)) (fun v _ => xs.length - (intOf v).toNat)
        case atStart => exact ⟨0, rfl, Nat.zero_le _, Lib.hid rfl, Lib.hid (Below.refl _ _)⟩
        case round =>
          obtain ⟨k, rfl, hk, HL, HBr⟩ := hrel
          have HWr := Lib.hid (HY.out.trans (HBr.out.mono hyz))
          have HBw := Lib.hid (below_up HBy.out HBy.out.size HBr.out)
          have hrz := HBr.out.size
          by_cases hlt : k + 1 < xs.length
          · obtain ⟨ad3, rfl, hs0⟩ := ints_at HPR.out k (by omega)
            obtain ⟨ad4, he4, hs1⟩ := ints_at HPR.out (k + 1) hlt
            obtain rfl : ad3 = ad4 := by injection he4
            obtain ⟨s, hsv⟩ : ∃ s, s = xs.getD k 0 := ⟨_, rfl⟩
            obtain ⟨v, hvv⟩ : ∃ v, v = xs.getD (k + 1) 0 := ⟨_, rfl⟩
            rw [← hsv] at hs0
            rw [← hvv] at hs1
            have HS0 := Lib.hid (pw_cell_below HBw.out hs0)
            have HS1' := Lib.hid (pw_cell_below HBw.out hs1)
            have HSV := Lib.hid hsv
            have HVV := Lib.hid hvv
            clear hs0 hs1 hsv hvv he4
            have e1 := pw_cell_below HBr.out e0
            by_cases hss : s = sel
            · have hss' : (s == sel) = true := beq_iff_eq.2 hss
              have HSS := Lib.hid hss
              clear hss
              gi_wp2
              have x0 := fun z : Ext wr => z.cell HS0.out
              have x1 := fun z : Ext wr => z.cell e1
              refine wpIn_region_round (fun ⟨_, _, h⟩ => h) (by kernel_rfl) (by kernel_rfl) (by kernel_rfl) ?_
              repeat (go_big_quiet_step (fail))
              refine wpQuiet_nil ?_
              rintro _ ⟨z, rfl⟩
              have HZ := Lib.hid (HWr.out.trans (z.below.mono (by omega)))
              have HBz := Lib.hid (below_up HBw.out HBw.out.size z.below)
              have t1 : z.val.cell? ⟨ad3.block, ad3.off + (k + 1), none⟩ = some (.int .i64 v) := z.cell HS1'.out
              have hr0 : z.val.cell? ⟨w.heap.size + 2, 0, none⟩ = some (.int .i64 0) := (HZ.out.cell (by simp; omega)).trans (cellof HF3.out 0)
              have hr1 : z.val.cell? ⟨w.heap.size + 3, 0, none⟩ = some (.int .i64 0) := (HZ.out.cell (by simp; omega)).trans (cellof HF4.out 0)
              have hr2 : z.val.cell? ⟨w.heap.size + 4, 0, none⟩ = some (.int .i64 0) := (HZ.out.cell (by simp; omega)).trans (cellof HF5.out 0)
              have hf0 : z.val.frozen? ⟨w.heap.size + 2, 0, none⟩ = false := blk_frozen ((HZ.out.block _ (by omega)).trans HF3.out) 0
              have hf1 : z.val.frozen? ⟨w.heap.size + 3, 0, none⟩ = false := blk_frozen ((HZ.out.block _ (by omega)).trans HF4.out) 0
              have hf2 : z.val.frozen? ⟨w.heap.size + 4, 0, none⟩ = false := blk_frozen ((HZ.out.block _ (by omega)).trans HF5.out) 0
              clear x0 x1
              gi_wp2
              refine ⟨(keeps_below HZ.out).trans (keeps_set3 _ _ _ _ _), below_set3 HBz.out (Nat.le_refl _), (v, x.1.1, 0), (set3 _ _ _ hr0 hr1 hr2).1, (set3 _ _ _ hr0 hr1 hr2).2.1, (set3 _ _ _ hr0 hr1 hr2).2.2, fun rest => ?_⟩
              rw [List.map_append, List.append_assoc, HP.out]
              have hlk : lookP (pairsL h.objs (dictI h.objs x.1.1)) sel = some v := by
                rw [HXS.out, ← HL.out, lookP_here hlt (by rw [← HSV.out]; exact HSS.out), HVV.out]
              obtain ⟨⟨v', b⟩, hx⟩ := x
              dsimp only at hxb hlk
              subst hxb
              exact findL_some _ hlk
            · have hss' : (s == sel) = false := beq_eq_false_iff_ne.2 hss
              have HSS := Lib.hid hss
              clear hss
              gi_wp2
              have x0 := fun z : Ext wr => z.cell HS0.out
              have x1 := fun z : Ext wr => z.cell e1
              refine wpIn_region_round (fun ⟨_, _, h⟩ => h) (by kernel_rfl) (by kernel_rfl) (by kernel_rfl) ?_
              repeat (go_big_quiet_step (fail))
              refine wpQuiet_nil ?_
              rintro _ ⟨z, rfl⟩
              clear x0 x1
              gi_wp2
              go_roundw
              case rel => exact ⟨k + 2, by go_num, by omega, Lib.hid (by rw [← HL.out, lookP_on hlt (by rw [← HSV.out]; exact HSS.out)]), Lib.hid (below_up HBr.out HBr.out.size z.below)⟩
              case measure => simp [intOf]; omega
          · have hge : ¬ ((k : Int) + 1 < xs.length) := by omega
            gi_wp2
            refine ⟨keeps_below HWr.out, HWr.out.mono (by omega), grown_trans HG.out (grown_of_calls HWr.out _), fun rest => ?_⟩
            rw [List.map_append, List.append_assoc, HP.out]
            have hlk : lookP (pairsL h.objs (dictI h.objs x.1.1)) sel = none := by rw [HXS.out, ← HL.out, lookP_end hlt]
            obtain ⟨⟨v', b⟩, hx⟩ := x
            dsimp only at hxb hlk
            subst hxb
            exact findL_none _ hlk
    case done =>
      rintro D xs W hD hxs ⟨hg, hp⟩ hK
      have hr0 : W.cell? ⟨w.heap.size + 2, 0, none⟩ = some (.int .i64 0) := grown_cell hg (cellof HR3.out 0) (by simp; omega)
      have hr1 : W.cell? ⟨w.heap.size + 3, 0, none⟩ = some (.int .i64 0) := grown_cell hg (cellof HR4.out 0) (by simp; omega)
      have hr2 : W.cell? ⟨w.heap.size + 4, 0, none⟩ = some (.int .i64 0) := grown_cell hg (cellof HR5.out 0) (by simp; omega)
      have hf0 : W.frozen? ⟨w.heap.size + 2, 0, none⟩ = false := blk_frozen ((hg.block _ (by omega) (by simp; omega)).trans HR3.out) 0
      have hf1 : W.frozen? ⟨w.heap.size + 3, 0, none⟩ = false := blk_frozen ((hg.block _ (by omega) (by simp; omega)).trans HR4.out) 0
      have hf2 : W.frozen? ⟨w.heap.size + 4, 0, none⟩ = false := blk_frozen ((hg.block _ (by omega) (by simp; omega)).trans HR5.out) 0
      have HB := Lib.hid (grown_below HW2.out hg HW2.out.size (by omega))
      have HP := Lib.hid hp
      have HK := Lib.hid hK
      have HXS := Lib.hid hxs
      obtain ⟨c1, c2, c3⟩ := set3 (.int .i64 0) (.int .i64 0) (.int .i64 91) hr0 hr1 hr2
      have C1 := Lib.hid c1
      have C2 := Lib.hid c2
      have C3 := Lib.hid c3
      clear hg hp hK hxs c1 c2 c3
      gi_wp2
      have hK' := (keeps_set3 W w.heap.size (.int .i64 0) (.int .i64 0) (.int .i64 91)).same D _ HK.out rfl
      refine ⟨by simp, .inl ⟨_, _, rfl, run_takeDeferred hK', ?_⟩⟩
      have e1 := put_cell (o := .deferred none) C1.out (l := D) (by show w.heap.size + 2 ≠ D; omega)
      have e2 := put_cell (o := .deferred none) C2.out (l := D) (by show w.heap.size + 3 ≠ D; omega)
      have e3 := put_cell (o := .deferred none) C3.out (l := D) (by show w.heap.size + 4 ≠ D; omega)
      refine ⟨.tuple #[.int .i64 0, .int .i64 0, .int .i64 91], by simp [results, Try.f14, go_sem, e1, e2, e3], ?_⟩
      have hf : findI h c sel = (0, 0, 91) := by
        unfold findI
        rw [if_pos HM.out, ← HXS.out]
        have := HP.out []
        rw [List.append_nil] at this
        rw [this]
        rfl
      exact ⟨ret3 (by rw [hf]) (by rw [hf]) (by rw [hf]), below_put (below_set3 HB.out (Nat.le_refl _)) (by omega)⟩
    case stop =>
      rintro D pre W hD hpre ⟨hb, r, h1, h2, h3, hp⟩ hK
      have HB := Lib.hid hb
      have HP := Lib.hid hp
      have HK := Lib.hid hK
      have H1 := Lib.hid h1
      have H2 := Lib.hid h2
      have H3 := Lib.hid h3
      clear hb hp hK h1 h2 h3
      gi_wp2
      refine ⟨by simp, .inl ⟨_, _, rfl, run_takeDeferred HK.out, ?_⟩⟩
      have e1 := put_cell (o := .deferred none) H1.out (l := D) (by show w.heap.size + 2 ≠ D; omega)
      have e2 := put_cell (o := .deferred none) H2.out (l := D) (by show w.heap.size + 3 ≠ D; omega)
      have e3 := put_cell (o := .deferred none) H3.out (l := D) (by show w.heap.size + 4 ≠ D; omega)
      refine ⟨.tuple #[.int .i64 r.1, .int .i64 r.2.1, .int .i64 r.2.2], by simp [results, Try.f14, go_sem, e1, e2, e3], ?_⟩
      have hf : findI h c sel = r := by
        unfold findI
        rw [if_pos HM.out]
        obtain ⟨rest, hr⟩ := hpre
        rw [← hr, HP.out]
      exact ⟨ret3 (by rw [hf]) (by rw [hf]) (by rw [hf]), below_put HB.out (by omega)⟩
end Go.Proofs.Ytgdobomofdenfaa.Lk
