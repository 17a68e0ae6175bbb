/- A frame of boxes: what stays, whatever becomes of some blocks. -/
import Derived.Test.YtgdobomofdenfaaLkHidesA
namespace Go.Proofs.Ytgdobomofdenfaa.Lk
open Go.RowKit Go.Proofs.YtgdobomofdenfaaW.PrintWords Go.Shelf
set_option linter.unusedVariables false
set_option linter.unusedSimpArgs false

/-- Nothing but two blocks has changed, of what there was. -/
structure Keep2 (a b : Nat) (W W' : World) : Prop where
  os : W'.os = W.os
  tape : W'.tape = W.tape
  output : W'.output = W.output
  size : W.heap.size ≤ W'.heap.size
  block : ∀ k, k < W.heap.size → k ≠ a → k ≠ b → W'.heap[k]? = W.heap[k]?
theorem Keep2.refl (a b : Nat) (W : World) : Keep2 a b W W := ⟨rfl, rfl, rfl, Nat.le_refl _, fun _ _ _ _ => rfl⟩
theorem Keep2.trans {a b : Nat} {W W1 W2 : World} (h : Keep2 a b W W1) (k : Keep2 a b W1 W2) : Keep2 a b W W2 :=
  ⟨k.os.trans h.os, k.tape.trans h.tape, k.output.trans h.output, Nat.le_trans h.size k.size, fun i hi h1 h2 => (k.block i (Nat.lt_of_lt_of_le hi h.size) h1 h2).trans (h.block i hi h1 h2)⟩
theorem Keep2.of_below {a b : Nat} {W W1 : World} (h : Below W.heap.size W W1) : Keep2 a b W W1 := ⟨h.os, h.tape, h.output, h.size, fun k hk _ _ => h.block k hk⟩
theorem Keep2.set_a {a b : Nat} (W : World) (i : Nat) (v : Value) : Keep2 a b W (W.setCell ⟨a, i, none⟩ v) :=
  have h := (Below.refl 0 W).setCell (p := ⟨a, i, none⟩) (Nat.zero_le _) v
  ⟨h.os, h.tape, h.output, h.size, fun k _ h1 _ => Below.heap_setCell W ⟨a, i, none⟩ v k h1⟩
theorem Keep2.set_b {a b : Nat} (W : World) (i : Nat) (v : Value) : Keep2 a b W (W.setCell ⟨b, i, none⟩ v) :=
  have h := (Below.refl 0 W).setCell (p := ⟨b, i, none⟩) (Nat.zero_le _) v
  ⟨h.os, h.tape, h.output, h.size, fun k _ _ h2 => Below.heap_setCell W ⟨b, i, none⟩ v k h2⟩
theorem Keep2.below {a b n : Nat} {w W W1 : World} (h : Keep2 a b W W1) (hb : Below n w W) (ha : n ≤ a) (hb' : n ≤ b) (hn : n ≤ W.heap.size) : Below n w W1 :=
  ⟨h.os.trans hb.os, h.tape.trans hb.tape, h.output.trans hb.output, Nat.le_trans hb.size h.size, fun k hk => (h.block k (by omega) (by omega) (by omega)).trans (hb.block k hk)⟩

/-- Boxes that stay, whatever becomes of some blocks; what there was stays too. -/
structure Frm (w0 : World) (ws : List Nat) (bx : List (Nat × Obj)) (W : World) : Prop where
  below : Below w0.heap.size w0 W
  lo : ∀ k ∈ ws, w0.heap.size ≤ k
  bx : ∀ b ∈ bx, W.heap[b.1]? = some b.2 ∧ b.1 ∉ ws
section
variable {w0 : World} {ws : List Nat} {bx : List (Nat × Obj)} {W W1 : World}
theorem Frm.later (k : Frm w0 ws bx W) (hb : Below W.heap.size W W1) : Frm w0 ws bx W1 :=
  ⟨below_up k.below k.below.size hb, k.lo, fun b h => ⟨(hb.block _ (Array.getElem?_eq_some_iff.1 (k.bx b h).1).1).trans (k.bx b h).1, (k.bx b h).2⟩⟩
theorem Frm.keep {a b : Nat} (k : Frm w0 ws bx W) (q : Keep2 a b W W1) (ha : a ∈ ws) (hb : b ∈ ws) : Frm w0 ws bx W1 :=
  ⟨q.below k.below (k.lo a ha) (k.lo b hb) k.below.size, k.lo, fun x h => ⟨(q.block _ (Array.getElem?_eq_some_iff.1 (k.bx x h).1).1 (fun e => (k.bx x h).2 (e ▸ ha)) (fun e => (k.bx x h).2 (e ▸ hb))).trans (k.bx x h).1, (k.bx x h).2⟩⟩
theorem Frm.row {A : Option Addr} {n : Nat} {l : List Ob} (k : Frm w0 ws bx W) (hr : kOb.C w0 A n l) : kOb.C W A n l := Kd.C_below hr k.below
theorem Frm.rows {A : Option Addr} {n : Nat} {l : List Ob} {a b : Nat} (k : Frm w0 ws bx W) (hr : kOb.C w0 A n l) (ha : a ∈ ws) (hb : b ∈ ws) : ∀ W', Keep2 a b W W' → kOb.C W' A n l := fun W' q => (k.keep q ha hb).row hr
theorem Frm.cell {g : Nat} {cs : Array Value} {t : TypeId} (k : Frm w0 ws bx W) (h : (g, Obj.cells cs t (0, 0)) ∈ bx) (i : Nat) : W.cell? ⟨g, i, none⟩ = cs[i]? := cellof (k.bx _ h).1 i
theorem Frm.more (k : Frm w0 ws bx W) (ns : List Nat) (h : ∀ n ∈ ns, W.heap.size ≤ n) (hb : Below W.heap.size W W1) : Frm w0 (ns ++ ws) bx W1 := by
  have k1 := k.later hb
  refine ⟨k1.below, fun n hn => ?_, fun b h2 => ⟨(k1.bx b h2).1, fun hm => ?_⟩⟩
  · rcases List.mem_append.1 hn with hn | hn
    · exact Nat.le_trans k.below.size (h n hn)
    · exact k.lo n hn
  · have hlt := (Array.getElem?_eq_some_iff.1 (k.bx b h2).1).1
    rcases List.mem_append.1 hm with hm | hm
    · have := h _ hm; omega
    · exact (k.bx b h2).2 hm
end
def hObj (A : Option Addr) (cp : Nat) (h : Hp) : Obj := .cells #[.slice A h.objs.length cp, .int .i64 h.cap, .int .i64 h.last] 24 (0, 0)
section
variable {w0 : World} {ws : List Nat} {bx : List (Nat × Obj)} {W W1 : World} {g : Nat}
theorem Frm.h0 {A : Option Addr} {cp : Nat} {h : Hp} (k : Frm w0 ws bx W) (m : (g, hObj A cp h) ∈ bx) : W.cell? ⟨g, 0, none⟩ = some (.slice A h.objs.length cp) := cellof (k.bx _ m).1 0
theorem Frm.h1 {A : Option Addr} {cp : Nat} {h : Hp} (k : Frm w0 ws bx W) (m : (g, hObj A cp h) ∈ bx) : W.cell? ⟨g, 1, none⟩ = some (.int .i64 h.cap) := cellof (k.bx _ m).1 1
theorem Frm.h2 {A : Option Addr} {cp : Nat} {h : Hp} (k : Frm w0 ws bx W) (m : (g, hObj A cp h) ∈ bx) : W.cell? ⟨g, 2, none⟩ = some (.int .i64 h.last) := cellof (k.bx _ m).1 2
end
theorem frm_first2 {w W1 : World} {o1 o2 : Obj} (hb : Below w.heap.size w W1) (h1 : W1.heap[w.heap.size]? = some o1) (h2 : W1.heap[w.heap.size + 1]? = some o2) : Frm w [] [(w.heap.size, o1), (w.heap.size + 1, o2)] W1 := by
  refine ⟨hb, (fun k h => by cases h), fun b h => ⟨?_, (fun h => by cases h)⟩⟩
  rcases List.mem_cons.1 h with rfl | h
  · exact h1
  · rcases List.mem_cons.1 h with rfl | h
    · exact h2
    · cases h
end Go.Proofs.Ytgdobomofdenfaa.Lk
