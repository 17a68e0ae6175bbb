/- The first law's walk: the plain ways. -/
import Derived.Test.YtgdobomofdenfaaLkFixed
import Derived.Deep.LoopGhost
import Derived.Deep.CutRange
import Derived.Deep.DeepCutAuto
import Derived.Deep.RegionWith
namespace Go.Proofs.Ytgdobomofdenfaa.Lk
open Go.RowKit Go.Proofs.YtgdobomofdenfaaW.PrintWords Go.Shelf
set_option linter.unusedVariables false
set_option linter.unusedSimpArgs false

/-- What Find can tell. -/
theorem findL_ways (l : List Ob) (sel : Int) (r : List (Int × Bool)) : findL l sel r = (0, 0, 91) ∨ findL l sel r = (0, 0, 90) ∨ ∃ v a, findL l sel r = (v, a, 0) ∧ (a, true) ∈ r ∧ lookP (pairsL l (dictI l a)) sel = some v := by
  induction r with
  | nil => exact .inl rfl
  | cons x r ih =>
    obtain ⟨a, b⟩ := x
    cases b
    · exact .inr (.inl rfl)
    · cases hp : lookP (pairsL l (dictI l a)) sel with
      | some v => exact .inr (.inr ⟨v, a, findL_some r hp, List.mem_cons_self, hp⟩)
      | none =>
        rw [findL_none r hp]
        rcases ih with h | h | ⟨v, c, h, hm, hl⟩
        · exact .inl h
        · exact .inr (.inl h)
        · exact .inr (.inr ⟨v, c, h, List.mem_cons_of_mem _ hm, hl⟩)

theorem pairsL_zero (l : List Ob) : pairsL l 0 = [] := by
  unfold pairsL
  have h0 : refI l.length 0 = 0 ∨ refI l.length 0 = -1 := by
    unfold refI
    split
    · exact .inl rfl
    · exact .inr rfl
  rcases h0 with h0 | h0
  · rw [if_pos h0]
  · rw [if_neg (by omega), if_neg (by omega)]
theorem pairsL_more {l : List Ob} {d : Int} (hd : d ≠ 0) (h : 0 ≤ refI l.length d) (hb : pairsB l d = true) : pairsL l d = (ob l (refI l.length d).toNat).slots := by
  have h1 := of_decide_eq_true hb
  have h2 : refI l.length d ≠ 0 := by
    intro h0
    unfold refI at h0
    split at h0
    · rename_i hc
      have := of_decide_eq_true hc.1
      unfold atI at h0
      rw [if_pos (by omega)] at h0
      omega
    · omega
  unfold pairsL
  rw [if_neg h2, if_pos (by omega)]
  rfl
/-- A heap's box, in worlds beyond. -/
structure HpAt (w0 : World) (A : Option Addr) (cp g : Nat) (h : Hp) (W : World) : Prop where
  row0 : kOb.C w0 A h.objs.length h.objs
  lt : w0.heap.size ≤ g
  blk : W.heap[g]? = some (.cells #[.slice A h.objs.length cp, .int .i64 h.cap, .int .i64 h.last] 24 (0, 0))
  below : Below w0.heap.size w0 W
section
variable {w0 : World} {A : Option Addr} {cp g : Nat} {h : Hp} {W W1 : World}
theorem HpAt.row (k : HpAt w0 A cp g h W) : kOb.C W A h.objs.length h.objs := Kd.C_below k.row0 k.below
theorem HpAt.c0 (k : HpAt w0 A cp g h W) : W.cell? ⟨g, 0, none⟩ = some (.slice A h.objs.length cp) := cellof k.blk 0
theorem HpAt.c1 (k : HpAt w0 A cp g h W) : W.cell? ⟨g, 1, none⟩ = some (.int .i64 h.cap) := cellof k.blk 1
theorem HpAt.c2 (k : HpAt w0 A cp g h W) : W.cell? ⟨g, 2, none⟩ = some (.int .i64 h.last) := cellof k.blk 2
theorem HpAt.in_ (k : HpAt w0 A cp g h W) : g < W.heap.size := (Array.getElem?_eq_some_iff.1 k.blk).1
theorem HpAt.next (k : HpAt w0 A cp g h W) (hb : Below W.heap.size W W1) : HpAt w0 A cp g h W1 :=
  ⟨k.row0, k.lt, (hb.block g k.in_).trans k.blk, below_up k.below k.below.size hb⟩
theorem HpAt.first (hr : kOb.C w0 A h.objs.length h.objs) : HpAt w0 A cp w0.heap.size h (w0.alloc (.cells #[.slice A h.objs.length cp, .int .i64 h.cap, .int .i64 h.last] 24)) := by
  obtain ⟨h1, h2, h3⟩ := box1 w0 (.cells #[.slice A h.objs.length cp, .int .i64 h.cap, .int .i64 h.last] 24)
  exact ⟨hr, Nat.le_refl _, h2, h1⟩
/-- A store into another block, made by the call. -/
theorem HpAt.far (k : HpAt w0 A cp g h W) {b : Nat} (hb : w0.heap.size ≤ b) (hne : g ≠ b) (i : Nat) (u : Value) : HpAt w0 A cp g h (W.setCell ⟨b, i, none⟩ u) :=
  ⟨k.row0, k.lt, blk_far k.blk hne u, k.below.setCell hb u⟩
end
/-- A heap, and an object's cells, in worlds beyond. -/
structure RdAt (w0 : World) (A : Option Addr) (cp g : Nat) (h : Hp) (p : Addr) (x : Ob) (A2 : Option Addr) (c2 : Nat) (W : World) : Prop where
  hp : HpAt w0 A cp g h W
  ob0 : ObAt w0 p x A2 c2
section
variable {w0 : World} {A : Option Addr} {cp g : Nat} {h : Hp} {W W1 : World} {p : Addr} {x : Ob} {A2 : Option Addr} {c2 : Nat}
theorem RdAt.ob (k : RdAt w0 A cp g h p x A2 c2 W) : ObAt W p x A2 c2 := k.ob0.below k.hp.below
theorem RdAt.next (k : RdAt w0 A cp g h p x A2 c2 W) (hb : Below W.heap.size W W1) : RdAt w0 A cp g h p x A2 c2 W1 := ⟨k.hp.next hb, k.ob0⟩
theorem cell_on {p : Addr} {v : Value} (h : W.cell? p = some v) (o : Obj) : (W.alloc o).cell? p = some v := pw_cell_below ((Below.refl _ _).alloc (Nat.le_refl _) o) h
theorem six_set {b : Nat} {t : TypeId} {z0 z1 z2 z3 z4 z5 : Value} (hz : W.heap[b]? = some (.cells #[z0, z1, z2, z3, z4, z5] t (0, 0))) (v0 v1 v2 v3 v4 v5 : Value) :
    ((((((W.setCell ⟨b, 0, none⟩ v0).setCell ⟨b, 1, none⟩ v1).setCell ⟨b, 2, none⟩ v2).setCell ⟨b, 3, none⟩ v3).setCell ⟨b, 4, none⟩ v4).setCell ⟨b, 5, none⟩ v5).heap[b]? = some (.cells #[v0, v1, v2, v3, v4, v5] t (0, 0)) :=
  blk_set (blk_set (blk_set (blk_set (blk_set (blk_set hz 0 v0) 1 v1) 2 v2) 3 v3) 4 v4) 5 v5
/-- An object's copy in a new block. -/
def HasOb (w0 : World) (A : Option Addr) (cp g : Nat) (h : Hp) (b : Nat) (x : Ob) (A2 : Option Addr) (c2 : Nat) (W : World) : Prop := HpAt w0 A cp g h W ∧ ObAt W ⟨b, 0, none⟩ x A2 c2 ∧ w0.heap.size ≤ b
theorem HasOb.next {b : Nat} (k : HasOb w0 A cp g h b x A2 c2 W) (hb : Below W.heap.size W W1) : HasOb w0 A cp g h b x A2 c2 W1 := ⟨k.1.next hb, k.2.1.below hb, k.2.2⟩
theorem has_new (k : RdAt w0 A cp g h p x A2 c2 W) : HasOb w0 A cp g h W.heap.size x A2 c2 (W.alloc (.cells #[.int .i64 x.cls, .int .i64 x.kind, .slice A2 x.slots.length c2, .string x.text, .int .i64 x.bits, .int .i64 x.hash] 34)) := by
  obtain ⟨h1, h2, h3⟩ := box1 W (.cells #[.int .i64 x.cls, .int .i64 x.kind, .slice A2 x.slots.length c2, .string x.text, .int .i64 x.bits, .int .i64 x.hash] 34)
  exact ⟨k.hp.next h1, ⟨cellof h2 0, cellof h2 1, cellof h2 2, cellof h2 3, cellof h2 4, cellof h2 5, k.ob.le, Kd.C_below k.ob.rd h1⟩, k.hp.below.size⟩
theorem has_set {b : Nat} (k : RdAt w0 A cp g h p x A2 c2 W) {z0 z1 z2 z3 z4 z5 : Value} (hz : W.heap[b]? = some (.cells #[z0, z1, z2, z3, z4, z5] 34 (0, 0))) (hb : w0.heap.size ≤ b) (hne : g ≠ b) :
    HasOb w0 A cp g h b x A2 c2 ((((((W.setCell ⟨b, 0, none⟩ (.int .i64 x.cls)).setCell ⟨b, 1, none⟩ (.int .i64 x.kind)).setCell ⟨b, 2, none⟩ (.slice A2 x.slots.length c2)).setCell ⟨b, 3, none⟩ (.string x.text)).setCell ⟨b, 4, none⟩ (.int .i64 x.bits)).setCell ⟨b, 5, none⟩ (.int .i64 x.hash)) := by
  have h6 := six_set hz (.int .i64 x.cls) (.int .i64 x.kind) (.slice A2 x.slots.length c2) (.string x.text) (.int .i64 x.bits) (.int .i64 x.hash)
  have hp6 := (((((k.hp.far hb hne 0 (.int .i64 x.cls)).far hb hne 1 (.int .i64 x.kind)).far hb hne 2 (.slice A2 x.slots.length c2)).far hb hne 3 (.string x.text)).far hb hne 4 (.int .i64 x.bits)).far hb hne 5 (.int .i64 x.hash)
  exact ⟨hp6, ⟨cellof h6 0, cellof h6 1, cellof h6 2, cellof h6 3, cellof h6 4, cellof h6 5, k.ob.le, Kd.C_below k.ob0.rd hp6.below⟩, hb⟩
end

set_option maxRecDepth 100000 in
set_option maxHeartbeats 4000000 in
theorem hides_a (A : Option Addr) (cp : Nat) (h : Hp) (c sel : Int) (w : World) (hl : h.objs.length ≤ cp) (hr : kOb.C w A h.objs.length h.objs) (hm : mayB h = false) :
    Calls Try.prog 3 #[.agg #[.slice A h.objs.length cp, .int .i64 h.cap, .int .i64 h.last], .int .i64 c, .int .i64 sel] w fun e w' => e = .returned (.bool true) ∧ Below w.heap.size w w' := by
  have hu24 := Try.underlying24
  have hu34 := Try.underlying34
  have hmx := Kd.C_max hr
  have HM := Lib.hid hm
  have HT := Lib.hid (HpAt.first (cp := cp) hr)
  clear hr
  go_enter Try.func3, Try.ntmps3
  go_wp2_with (first
    | (go_at_call 11; refine (law_fixed _).mono ?_; rintro e w2 ⟨rfl, hb⟩; replace HT := Lib.hid (HT.out.next hb); clear hb; have d0 := HT.out.c0; have d1 := HT.out.c1; have d2 := HT.out.c2)
    | (go_at_call 12; refine (r3_Small A cp h _ hl HT.out.row).mono ?_; rintro e w2 ⟨⟨b, rfl⟩, hb⟩; replace HT := Lib.hid (HT.out.next hb); clear hb; have d0 := HT.out.c0; have d1 := HT.out.c1; have d2 := HT.out.c2; cases b)
    | (go_at_call 13; refine (r3_May A cp h _ hl HT.out.row).mono ?_; rintro e w2 ⟨he, hb⟩; rw [HM.out] at he; subst he; replace HT := Lib.hid (HT.out.next hb); clear hb; have d0 := HT.out.c0; have d1 := HT.out.c1; have d2 := HT.out.c2))
  all_goals
    go_ret
    exact ⟨rfl, HT.out.below⟩

set_option maxRecDepth 100000 in
set_option maxHeartbeats 4000000 in
theorem hides_b (A : Option Addr) (cp : Nat) (h : Hp) (c sel : Int) (w : World) (hbits : bitsOk h.objs) (hl : h.objs.length ≤ cp) (hr : kOb.C w A h.objs.length h.objs) (hm : mayB h = true) (hn : (40 : Int) < (h.objs.length : Int)) :
    Calls Try.prog 3 #[.agg #[.slice A h.objs.length cp, .int .i64 h.cap, .int .i64 h.last], .int .i64 c, .int .i64 sel] w fun e w' => e = .returned (.bool true) ∧ Below w.heap.size w w' := by
  have hu24 := Try.underlying24
  have hu34 := Try.underlying34
  have hmx := Kd.C_max hr
  have HM := Lib.hid hm
  have HI := Lib.hid hbits
  have HT := Lib.hid (HpAt.first (cp := cp) hr)
  clear hr hbits
  go_enter Try.func3, Try.ntmps3
  go_wp2_with (first
    | (go_at_call 11; refine (law_fixed _).mono ?_; rintro e w2 ⟨rfl, hb⟩; replace HT := Lib.hid (HT.out.next hb); clear hb; have d0 := HT.out.c0; have d1 := HT.out.c1; have d2 := HT.out.c2)
    | (go_at_call 12; refine (r3_Small A cp h _ hl HT.out.row).mono ?_; rintro e w2 ⟨⟨b, rfl⟩, hb⟩; replace HT := Lib.hid (HT.out.next hb); clear hb; have d0 := HT.out.c0; have d1 := HT.out.c1; have d2 := HT.out.c2; cases b)
    | (go_at_call 13; refine (r3_May A cp h _ hl HT.out.row).mono ?_; rintro e w2 ⟨he, hb⟩; rw [HM.out] at he; subst he; replace HT := Lib.hid (HT.out.next hb); clear hb; have d0 := HT.out.c0; have d1 := HT.out.c1; have d2 := HT.out.c2))
  all_goals
    go_ret
    exact ⟨rfl, HT.out.below⟩

set_option maxRecDepth 100000 in
set_option maxHeartbeats 4000000 in
theorem hides_c (A : Option Addr) (cp : Nat) (h : Hp) (c sel : Int) (w : World) (hbits : bitsOk h.objs) (hl : h.objs.length ≤ cp) (hr : kOb.C w A h.objs.length h.objs) (hm : mayB h = true) (hn : ¬ (40 : Int) < (h.objs.length : Int)) (x : Int) (hx : x = 91 ∨ x = 90) (hf : findI h c sel = (0, 0, x)) :
    Calls Try.prog 3 #[.agg #[.slice A h.objs.length cp, .int .i64 h.cap, .int .i64 h.last], .int .i64 c, .int .i64 sel] w fun e w' => e = .returned (.bool true) ∧ Below w.heap.size w w' := by
  have hu24 := Try.underlying24
  have hu34 := Try.underlying34
  have hmx := Kd.C_max hr
  have HM := Lib.hid hm
  have HI := Lib.hid hbits
  have HT := Lib.hid (HpAt.first (cp := cp) hr)
  clear hr hbits
  have HF := Lib.hid hf
  clear hf
  rcases hx with rfl | rfl
  all_goals
   go_enter Try.func3, Try.ntmps3
   go_wp2_with (first
    | (go_at_call 11; refine (law_fixed _).mono ?_; rintro e w2 ⟨rfl, hb⟩; replace HT := Lib.hid (HT.out.next hb); clear hb; have d0 := HT.out.c0; have d1 := HT.out.c1; have d2 := HT.out.c2)
    | (go_at_call 12; refine (r3_Small A cp h _ hl HT.out.row).mono ?_; rintro e w2 ⟨⟨b, rfl⟩, hb⟩; replace HT := Lib.hid (HT.out.next hb); clear hb; have d0 := HT.out.c0; have d1 := HT.out.c1; have d2 := HT.out.c2; cases b)
    | (go_at_call 13; refine (r3_May A cp h _ hl HT.out.row).mono ?_; rintro e w2 ⟨he, hb⟩; rw [HM.out] at he; subst he; replace HT := Lib.hid (HT.out.next hb); clear hb; have d0 := HT.out.c0; have d1 := HT.out.c1; have d2 := HT.out.c2)
    | (go_at_call 14; refine (look_Find A cp h c sel _ HI.out hl HT.out.row).mono ?_; rintro e w2 ⟨he, hb⟩; rw [HF.out] at he; subst he; replace HT := Lib.hid (HT.out.next hb); clear hb; have d0 := HT.out.c0; have d1 := HT.out.c1; have d2 := HT.out.c2))
   all_goals
    go_ret
    exact ⟨rfl, HT.out.below⟩
end Go.Proofs.Ytgdobomofdenfaa.Lk
