/- look.Under. -/
import Derived.Test.YtgdobomofdenfaaLkUp
namespace Go.Proofs.Ytgdobomofdenfaa.Lk
open Go.RowKit Go.Proofs.YtgdobomofdenfaaW.PrintWords Go.Shelf
attribute [local go_sem] Oper.semAt_some
set_option linter.unusedVariables false
set_option linter.unusedSimpArgs false

def underB (h : Hp) (c d : Int) : Bool := mayB h && (upL h.objs 64 c).any (fun x => x.2 && x.1 == d)

theorem box3 (w : World) (o1 o2 o3 : Obj) : Below w.heap.size w (((w.alloc o1).alloc o2).alloc o3) ∧ (((w.alloc o1).alloc o2).alloc o3).heap[w.heap.size]? = some o1 ∧ (((w.alloc o1).alloc o2).alloc o3).heap[w.heap.size + 1]? = some o2 ∧
    (((w.alloc o1).alloc o2).alloc o3).heap[w.heap.size + 2]? = some o3 ∧ (((w.alloc o1).alloc o2).alloc o3).heap.size = w.heap.size + 3 := by
  obtain ⟨h1, h2, h3, h4⟩ := box2 w o1 o2
  refine ⟨h1.alloc (by omega) _, ?_, ?_, ?_, by simp⟩
  · rw [Below.heap_alloc _ _ _ (by omega)]; exact h2
  · rw [Below.heap_alloc _ _ _ (by omega)]; exact h3
  · have := heap_alloc_new ((w.alloc o1).alloc o2) o3; rwa [h4] at this
theorem beyond3 {w w1 : World} {o1 o2 o3 : Obj} (hb : Below (((w.alloc o1).alloc o2).alloc o3).heap.size (((w.alloc o1).alloc o2).alloc o3) w1) :
    w1.heap[w.heap.size]? = some o1 ∧ w1.heap[w.heap.size + 1]? = some o2 ∧ w1.heap[w.heap.size + 2]? = some o3 := by
  obtain ⟨h1, h2, h3, h4, h5⟩ := box3 w o1 o2 o3
  exact ⟨(hb.block _ (by omega)).trans h2, (hb.block _ (by omega)).trans h3, (hb.block _ (by omega)).trans h4⟩
theorem wpIn_box3 {F : Fence} {n : Nat} {P : Program} {c : Code} {Q : Exit → Act → World → Prop} {a : Act} {w : World} {o1 o2 o3 : Obj}
    (h : ∀ W1, Below w.heap.size w W1 → W1.heap[w.heap.size]? = some o1 → W1.heap[w.heap.size + 1]? = some o2 → W1.heap[w.heap.size + 2]? = some o3 → W1.heap.size = w.heap.size + 3 → c.wpIn F n P Q a W1) : c.wpIn F n P Q a (((w.alloc o1).alloc o2).alloc o3) :=
  let ⟨h1, h2, h3, h4, h5⟩ := box3 w o1 o2 o3
  h _ h1 h2 h3 h4 h5

theorem wpIn_box2 {F : Fence} {n : Nat} {P : Program} {c : Code} {Q : Exit → Act → World → Prop} {a : Act} {w : World} {o1 o2 : Obj}
    (h : ∀ W1, Below w.heap.size w W1 → W1.heap[w.heap.size]? = some o1 → W1.heap[w.heap.size + 1]? = some o2 → W1.heap.size = w.heap.size + 2 → c.wpIn F n P Q a W1) : c.wpIn F n P Q a ((w.alloc o1).alloc o2) :=
  let ⟨h1, h2, h3, h4⟩ := box2 w o1 o2
  h _ h1 h2 h3 h4
theorem grown_trans {A B C : World} {b : Nat} (h : A.grownBy B (some b)) (k : B.grownBy C (some b)) : A.grownBy C (some b) :=
  ⟨k.os.trans h.os, k.tape.trans h.tape, k.output.trans h.output, Nat.le_trans h.size k.size, fun i hi hne => (k.block i (Nat.lt_of_lt_of_le hi h.size) hne).trans (h.block i hi hne)⟩
theorem grown_put {A B : World} {b l : Nat} {o : Obj} (h : A.grownBy B (some b)) (hl : A.heap.size ≤ l) : A.grownBy (B.putObj l o) (some b) :=
  ⟨h.os, h.tape, h.output, by simpa using h.size, fun i hi hne => (World.putObj_heap_other (by omega)).trans (h.block i hi hne)⟩
theorem below_put {n : Nat} {A B : World} {l : Nat} {o : Obj} (h : Below n A B) (hl : n ≤ l) : Below n A (B.putObj l o) :=
  ⟨h.os, h.tape, h.output, by simpa using h.size, fun i hi => (World.putObj_heap_other (by omega)).trans (h.block i hi)⟩
theorem grown_cell {A B : World} {b : Nat} (h : A.grownBy B (some b)) {p : Addr} {v : Value} (hc : A.cell? p = some v) (hne : p.block ≠ b) : B.cell? p = some v :=
  (World.cell?_of_block (h.block p.block (World.block_lt_of_cell? A p hc) (fun e => hne (by injection e)))).trans hc
theorem put_cell {A : World} {l : Nat} {o : Obj} {p : Addr} {v : Value} (hc : A.cell? p = some v) (hne : p.block ≠ l) : (A.putObj l o).cell? p = some v :=
  (World.cell?_of_block (World.putObj_heap_other hne)).trans hc
theorem grown_below {n : Nat} {w A B : World} {b : Nat} (h : Below n w A) (k : A.grownBy B (some b)) (hn : n ≤ A.heap.size) (hb : n ≤ b) : Below n w B :=
  h.grown k hn (fun i e => by injection e with e; omega)

set_option maxRecDepth 100000 in
set_option maxHeartbeats 2000000 in
theorem look_Under (A : Option Addr) (cp : Nat) (h : Hp) (c d : Int) (w : World) (hbits : bitsOk h.objs) (hl : h.objs.length ≤ cp) (hr : kOb.C w A h.objs.length h.objs) :
    Calls Try.prog 15 #[.agg #[.slice A h.objs.length cp, .int .i64 h.cap, .int .i64 h.last], .int .i64 c, .int .i64 d] w fun e w' => e = .returned (.bool (underB h c d)) ∧ Below w.heap.size w w' := by
  have hu24 := Try.underlying24
  have hfn : ∀ f, Fence.wide.fn f := fun _ => trivial
  have hdp : Fence.wide.depth.isSome = false := rfl
  have HR := Lib.hid hr
  have HI := Lib.hid hbits
  clear hr hbits
  obtain ⟨hb1, hx1, hx2, hx3, hsz⟩ := box3 w (.cells #[.slice A h.objs.length cp, .int .i64 h.cap, .int .i64 h.last] 24) (.cells #[.int .i64 d] 3) (.cells #[.bool false] 4)
  have HB1 := Lib.hid hb1
  clear hb1 hx1 hx2 hx3 hsz
  refine (callsIn_wide (n := 3)).1 ?_
  refine callsIn_of_wp_marks Try.func15 rfl trivial ?_ rfl
  simp only [Try.ntmps15, List.size_toArray, List.length_cons, List.length_nil, Nat.reduceAdd, Nat.reduceSub, Array.replicate_succ, Array.replicate_zero, List.push_toArray, List.append_toArray, List.nil_append, List.cons_append]
  cases hm : mayB h
  · gi_wp2_with (gi_at_call 34; refine (callsIn_wide.2 (heap_May A cp h _ HI.out hl (Kd.C_below HR.out HB1.out))).mono ?_; rintro e w1 ⟨rfl, hb⟩; obtain ⟨k1, k2, k3⟩ := beyond3 hb; have HK3 := Lib.hid k3; have HB2 := Lib.hid (below_up HB1.out HB1.out.size hb); have r0 : w1.cell? ⟨w.heap.size + 2, 0, none⟩ = some (.bool false) := cellof k3 0; have rf := blk_frozen k3 0; clear hb k1 k2 k3)
    have hc5 : (w1.setCell ⟨w.heap.size + 2, 0, none⟩ (.bool false)).cell? ⟨w.heap.size + 2, 0, none⟩ = some (.bool false) := World.cell?_setCell_same' _ _ _ (by rw [r0]; rfl)
    refine ⟨.bool false, by simp [results, Try.f15, go_sem, hc5], ?_⟩
    exact ⟨ret_b (by unfold underB; rw [hm]; rfl), HB2.out.setCell (by show w.heap.size ≤ w.heap.size + 2; omega) _⟩
  · gi_wp2_with (first
      | (gi_at_call 34; refine (callsIn_wide.2 (heap_May A cp h _ HI.out hl (Kd.C_below HR.out HB1.out))).mono ?_; rintro e w1 ⟨rfl, hb⟩; obtain ⟨k1, k2, k3⟩ := beyond3 hb; have HK1 := Lib.hid k1; have HK2 := Lib.hid k2; have HK3 := Lib.hid k3; have HB2 := Lib.hid (below_up HB1.out HB1.out.size hb); have d0 : w1.cell? ⟨w.heap.size, 0, none⟩ = some (.slice A h.objs.length cp) := cellof k1 0; have d1 : w1.cell? ⟨w.heap.size, 1, none⟩ = some (.int .i64 h.cap) := cellof k1 1; have d2 : w1.cell? ⟨w.heap.size, 2, none⟩ = some (.int .i64 h.last) := cellof k1 2; clear hb k1 k2 k3)
      | (gi_at_call 35; refine (callsIn_wide.2 (look_up A h.objs.length cp h.cap h.last c _)).mono ?_; rintro e w2 ⟨rfl, rfl⟩))
    refine wpIn_box2 ?_
    intro W2 hbz hx1 hx2 hsz
    have hz1 := (Array.getElem?_eq_some_iff.1 HK3.out).1
    have HW2 := Lib.hid (below_up HB2.out HB2.out.size hbz)
    have hr2 : W2.cell? ⟨w.heap.size + 2, 0, none⟩ = some (.bool false) := pw_cell_below hbz (cellof HK3.out 0)
    have hd2 : W2.cell? ⟨w.heap.size + 1, 0, none⟩ = some (.int .i64 d) := pw_cell_below hbz (cellof HK2.out 0)
    have HR3 := Lib.hid ((hbz.block _ hz1).trans HK3.out)
    have HR2 := Lib.hid hr2
    have HD2 := Lib.hid hd2
    have HX1 := Lib.hid hx1
    have HX2 := Lib.hid hx2
    clear hr2 hd2 d0 d1 d2 hx1 hx2 hbz
    refine range_box (gf := 52) (lb := #[.pointer (some ⟨w1.heap.size, 0, none⟩), .pointer (some ⟨w1.heap.size + 1, 0, none⟩)]) rfl (enters_of Try.func52 (by kernel_rfl) rfl) (w1.heap.size + 1) (by omega)
      (up_iter A cp h.objs h.cap h.last c w W2 w1.heap.size (w1.heap.size + 1) hl HR.out HW2.out (by omega) (by omega) HX1.out HX2.out) (fun _ => rfl)
      (fun pre W => W2.grownBy W (some (w1.heap.size + 1)) ∧ pre.any (fun x => x.1.2 && x.1.1 == d) = false)
      (fun pre W => Below w.heap.size w W ∧ W.cell? ⟨w.heap.size + 2, 0, none⟩ = some (.bool true) ∧ pre.any (fun x => x.1.2 && x.1.1 == d) = true)
      (fun s A B hs hg => ⟨grown_trans hs.1 hg, hs.2⟩) (fun s A l o hs hl => ⟨grown_put hs.1 hl, hs.2⟩)
      (fun s A B hs hg => ⟨grown_below hs.1 hg hs.1.size (by omega), grown_cell hg hs.2.1 (by simp; omega), hs.2.2⟩)
      (fun s A l o hs hl => ⟨below_put hs.1 (by omega), put_cell hs.2.1 (by simp; omega), hs.2.2⟩)
      ⟨⟨rfl, rfl, rfl, Nat.le_refl _, fun _ _ _ => rfl⟩, rfl⟩
      (fun x => { tmps := #[.agg #[.slice A h.objs.length cp, .int .i64 h.cap, .int .i64 h.last], .int .i64 c, .int .i64 d, .pointer (some ⟨w.heap.size, 0, none⟩), undef, .pointer (some ⟨w.heap.size + 1, 0, none⟩), .pointer (some ⟨w.heap.size + 2, 0, none⟩), .int .i64 x.1.1, .bool x.1.2,
        .agg #[.slice A h.objs.length cp, .int .i64 h.cap, .int .i64 h.last], .bool true, .bool false, .agg #[.slice A h.objs.length cp, .int .i64 h.cap, .int .i64 h.last], .int .i64 c,
        .func (.func 52) #[] #[.pointer (some ⟨w1.heap.size, 0, none⟩), .pointer (some ⟨w1.heap.size + 1, 0, none⟩)], .int .i64 x.1.1, .bool x.1.2, undef, undef, undef, undef, undef, undef], defers := [] }) ?assign ?body ?done ?stop
    case assign =>
      intro l x W K hK
      simp only [encUp]
      gi_wp2
      exact hK
    case body =>
      rintro l pre x W ⟨hg, hp⟩ hlen
      have hd := grown_cell hg HD2.out (by simp; omega)
      have hr := grown_cell hg HR2.out (by simp; omega)
      have hf : W.frozen? ⟨w.heap.size + 2, 0, none⟩ = false := blk_frozen ((hg.block _ (by omega) (by simp; omega)).trans HR3.out) 0
      have HG := Lib.hid hg
      have HP := Lib.hid hp
      clear hg hp hlen
      cases hb : x.1.2
      · gi_wp2
        exact ⟨⟨Nat.le_refl _, fun _ _ h _ => h⟩, Below.refl _ _, HG.out, by simp [HP.out, hb]⟩
      · by_cases hv : x.1.1 = d
        · have hv' : (x.1.1 == d) = true := beq_iff_eq.2 hv
          have HV := Lib.hid hv
          clear hv
          gi_wp2
          exact ⟨KeepsOthers.setCell _ _ _, (grown_below HW2.out HG.out HW2.out.size (by omega)).setCell (by show w.heap.size ≤ w.heap.size + 2; omega) _, World.cell?_setCell_same' _ _ _ (by rw [hr]; rfl), by simp [HP.out, HV.out, hb]⟩
        · have hv' : (x.1.1 == d) = false := beq_eq_false_iff_ne.2 hv
          have HV := Lib.hid hv
          clear hv
          gi_wp2
          exact ⟨⟨Nat.le_refl _, fun _ _ h _ => h⟩, Below.refl _ _, HG.out, by simp [HP.out, HV.out, hb]⟩
    case done =>
      rintro D xs W hD hxs ⟨hg, hp⟩ hK
      have HXS := Lib.hid hxs
      clear hxs
      have hr := grown_cell hg HR2.out (by simp; omega)
      have hf : W.frozen? ⟨w.heap.size + 2, 0, none⟩ = false := blk_frozen ((hg.block _ (by omega) (by simp; omega)).trans HR3.out) 0
      have HG := Lib.hid hg
      have HP := Lib.hid hp
      have HK := Lib.hid hK
      clear hg hp hK
      gi_wp2
      have hK' := (KeepsOthers.setCell W ⟨w.heap.size + 2, 0, none⟩ (.bool false)).same D _ HK.out rfl
      refine ⟨by simp, .inl ⟨_, _, rfl, run_takeDeferred hK', ?_⟩⟩
      have hc5 : ((W.setCell ⟨w.heap.size + 2, 0, none⟩ (.bool false)).putObj D (.deferred none)).cell? ⟨w.heap.size + 2, 0, none⟩ = some (.bool false) :=
        put_cell (World.cell?_setCell_same' _ _ _ (by rw [hr]; rfl)) (by show w.heap.size + 2 ≠ D; omega)
      refine ⟨.bool false, by simp [results, Try.f15, go_sem, hc5], ?_⟩
      exact ⟨ret_b (by unfold underB; rw [hm, ← HXS.out, List.any_map]; exact HP.out.symm), below_put ((grown_below HW2.out HG.out HW2.out.size (by omega)).setCell (by show w.heap.size ≤ w.heap.size + 2; omega) _) (by omega)⟩
    case stop =>
      rintro D pre W hD hpre ⟨hb, hc, hp⟩ hK
      have HB := Lib.hid hb
      have HP := Lib.hid hp
      have HK := Lib.hid hK
      clear hb hp hK
      gi_wp2
      refine ⟨by simp, .inl ⟨_, _, rfl, run_takeDeferred HK.out, ?_⟩⟩
      have hc5 : (W.putObj D (.deferred none)).cell? ⟨w.heap.size + 2, 0, none⟩ = some (.bool true) := put_cell hc (by show w.heap.size + 2 ≠ D; omega)
      refine ⟨.bool true, by simp [results, Try.f15, go_sem, hc5], ?_⟩
      refine ⟨ret_b ?_, below_put HB.out (by omega)⟩
      unfold underB
      rw [hm]
      obtain ⟨r, hr⟩ := hpre
      rw [← hr, List.any_append, List.any_map]
      have := HP.out
      rw [show ((fun x : Int × Bool => x.2 && x.1 == d) ∘ fun x : UpI h.objs => x.1) = fun x => x.1.2 && x.1.1 == d from rfl, this]
      rfl
end Go.Proofs.Ytgdobomofdenfaa.Lk
