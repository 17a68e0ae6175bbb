/- A cache's memory: entries of five cells, and a box of three. -/
import Derived.Test.YtgdobomofdenfaaLkRFind
import Derived.Laws.MakeOwn
namespace Go.Proofs.Ytgdobomofdenfaa.Lk
open Go.RowKit Go.Proofs.YtgdobomofdenfaaW.PrintWords Go.Shelf
set_option linter.unusedVariables false
set_option linter.unusedSimpArgs false

/-- An entry: a class, a selector, a method, where, is there one. -/
structure En where
  cls : Int
  sel : Int
  meth : Int
  at_ : Int
  full : Bool
def eZ : En := ⟨0, 0, 0, 0, false⟩
def eCells (x : En) : List Value := [.int .i64 x.cls, .int .i64 x.sel, .int .i64 x.meth, .int .i64 x.at_, .bool x.full]
def esCells : List En → List Value
  | [] => []
  | x :: r => eCells x ++ esCells r
theorem es_len (l : List En) : (esCells l).length = l.length * 5 := by
  induction l with
  | nil => rfl
  | cons x r ih => show (eCells x ++ esCells r).length = _; rw [List.length_append, ih, List.length_cons]; show 5 + _ = _; omega
theorem es_get {l : List En} {p j : Nat} (hp : p < l.length) (hj : j < 5) : (esCells l)[p * 5 + j]? = (eCells (l.getD p eZ))[j]? := by
  induction l generalizing p with
  | nil => exact absurd hp (Nat.not_lt_zero _)
  | cons x r ih =>
    show (eCells x ++ esCells r)[p * 5 + j]? = _
    cases p with
    | zero => rw [List.getElem?_append_left (by show 0 * 5 + j < 5; omega)]; simp
    | succ p =>
      rw [List.getElem?_append_right (by show 5 ≤ (p + 1) * 5 + j; omega), show (p + 1) * 5 + j - (eCells x).length = p * 5 + j by show (p + 1) * 5 + j - 5 = _; omega]
      rw [ih (by simpa using hp)]
      simp
theorem es_set {l : List En} {p j : Nat} (x : En) (hp : p < l.length) (hj : j < 5) : (esCells (l.set p x))[p * 5 + j]? = (eCells x)[j]? := by
  rw [es_get (by simpa using hp) hj]
  congr 1
  rw [List.getD_eq_getElem?_getD, List.getElem?_set_self hp]
  rfl
theorem es_set_other {l : List En} {p q j : Nat} (x : En) (hq : q < l.length) (hne : q ≠ p) (hj : j < 5) : (esCells (l.set p x))[q * 5 + j]? = (esCells l)[q * 5 + j]? := by
  rw [es_get (by simpa using hq) hj, es_get hq hj]
  congr 2
  rw [List.getD_eq_getElem?_getD, List.getD_eq_getElem?_getD, List.getElem?_set_ne (Ne.symm hne)]
/-- Five cells written. -/
theorem es_write {l : List En} {p : Nat} (x : En) (hp : p < l.length) :
    ((((((esCells l).toArray.setIfInBounds (p * 5) (.int .i64 x.cls)).setIfInBounds (p * 5 + 1) (.int .i64 x.sel)).setIfInBounds (p * 5 + 2) (.int .i64 x.meth)).setIfInBounds (p * 5 + 3) (.int .i64 x.at_)).setIfInBounds (p * 5 + 4) (.bool x.full)) = (esCells (l.set p x)).toArray := by
  apply Array.ext_getElem?
  intro i
  have hlen : (esCells l).length = l.length * 5 := es_len l
  have hlen' : (esCells (l.set p x)).length = l.length * 5 := by rw [es_len]; simp
  have hpb : p * 5 + 4 < l.length * 5 := by omega
  by_cases hi : i < l.length * 5
  · obtain ⟨q, j, hj, rfl⟩ : ∃ q j, j < 5 ∧ i = q * 5 + j := ⟨i / 5, i % 5, Nat.mod_lt _ (by omega), by omega⟩
    have hq : q < l.length := by omega
    simp only [Array.getElem?_setIfInBounds, List.size_toArray, Array.size_setIfInBounds, List.getElem?_toArray, hlen]
    by_cases hqp : q = p
    · subst hqp
      rw [es_set x hq hj]
      have : j = 0 ∨ j = 1 ∨ j = 2 ∨ j = 3 ∨ j = 4 := by omega
      rcases this with rfl | rfl | rfl | rfl | rfl <;> simp [eCells] <;> omega
    · rw [es_set_other x hq hqp hj]
      rw [if_neg (by omega), if_neg (by omega), if_neg (by omega), if_neg (by omega), if_neg (by omega)]
  · rw [Array.getElem?_eq_none (by simp [hlen]; omega), Array.getElem?_eq_none (by simp [hlen']; omega)]
theorem es_zero (n : Nat) : (esCells (List.replicate n eZ)).toArray = madeCells #[.int .i64 0, .int .i64 0, .int .i64 0, .int .i64 0, .bool false] (n * 5) := by
  apply Array.ext_getElem?
  intro i
  have hlen : (esCells (List.replicate n eZ)).length = n * 5 := by rw [es_len]; simp
  by_cases hi : i < n * 5
  · obtain ⟨q, j, hj, rfl⟩ : ∃ q j, j < 5 ∧ i = q * 5 + j := ⟨i / 5, i % 5, Nat.mod_lt _ (by omega), by omega⟩
    have hq : q < n := by omega
    rw [List.getElem?_toArray, es_get (by simpa using hq) hj]
    have hm : (q * 5 + j) % 5 = j := by omega
    have hg : (List.replicate n eZ).getD q eZ = eZ := by
      rw [List.getD_eq_getElem?_getD, List.getElem?_eq_getElem (by simpa using hq)]; simp
    rw [hg]
    unfold madeCells
    simp only [Array.getElem?_map, Array.getElem?_range]
    rw [if_pos hi, Option.map_some]
    have hs5 : (#[Value.int .i64 0, Value.int .i64 0, Value.int .i64 0, Value.int .i64 0, Value.bool false] : Array Value).size = 5 := rfl
    rw [hs5, hm]
    have : j = 0 ∨ j = 1 ∨ j = 2 ∨ j = 3 ∨ j = 4 := by omega
    rcases this with rfl | rfl | rfl | rfl | rfl <;> simp [eCells, eZ, hm]
  · rw [Array.getElem?_eq_none (by simp [hlen]; omega), Array.getElem?_eq_none (by simp [madeCells]; omega)]

/-- Nothing but two blocks has changed, of what there was. -/
structure Keep2 (a b : Nat) (W W' : World) : Prop where
  os : W'.os = W.os
  tape : W'.tape = W.tape
  output : W'.output = W.output
  size : W.heap.size ≤ W'.heap.size
  block : ∀ k, k < W.heap.size → k ≠ a → k ≠ b → W'.heap[k]? = W.heap[k]?
theorem Keep2.refl (a b : Nat) (W : World) : Keep2 a b W W := ⟨rfl, rfl, rfl, Nat.le_refl _, fun _ _ _ _ => rfl⟩
theorem Keep2.trans {a b : Nat} {W W1 W2 : World} (h : Keep2 a b W W1) (k : Keep2 a b W1 W2) : Keep2 a b W W2 :=
  ⟨k.os.trans h.os, k.tape.trans h.tape, k.output.trans h.output, Nat.le_trans h.size k.size, fun i hi h1 h2 => (k.block i (Nat.lt_of_lt_of_le hi h.size) h1 h2).trans (h.block i hi h1 h2)⟩
theorem Keep2.of_below {a b : Nat} {W W1 : World} (h : Below W.heap.size W W1) : Keep2 a b W W1 := ⟨h.os, h.tape, h.output, h.size, fun k hk _ _ => h.block k hk⟩
theorem Keep2.set_a {a b : Nat} (W : World) (i : Nat) (v : Value) : Keep2 a b W (W.setCell ⟨a, i, none⟩ v) :=
  have h := (Below.refl 0 W).setCell (p := ⟨a, i, none⟩) (Nat.zero_le _) v
  ⟨h.os, h.tape, h.output, h.size, fun k _ h1 _ => Below.heap_setCell W ⟨a, i, none⟩ v k h1⟩
theorem Keep2.set_b {a b : Nat} (W : World) (i : Nat) (v : Value) : Keep2 a b W (W.setCell ⟨b, i, none⟩ v) :=
  have h := (Below.refl 0 W).setCell (p := ⟨b, i, none⟩) (Nat.zero_le _) v
  ⟨h.os, h.tape, h.output, h.size, fun k _ _ h2 => Below.heap_setCell W ⟨b, i, none⟩ v k h2⟩
theorem Keep2.below {a b n : Nat} {w W W1 : World} (h : Keep2 a b W W1) (hb : Below n w W) (ha : n ≤ a) (hb' : n ≤ b) (hn : n ≤ W.heap.size) : Below n w W1 :=
  ⟨h.os.trans hb.os, h.tape.trans hb.tape, h.output.trans hb.output, Nat.le_trans hb.size h.size, fun k hk => (h.block k (by omega) (by omega) (by omega)).trans (hb.block k hk)⟩

/-- A cache in memory: its box's block, its entries' block. -/
structure CaAt (tc te gc ge : Nat) (l : List En) (hits misses : Int) (W : World) : Prop where
  box : W.heap[gc]? = some (.cells #[.slice (some ⟨ge, 0, none⟩) l.length l.length, .int .i64 hits, .int .i64 misses] tc (0, 0))
  ents : W.heap[ge]? = some (.cells (esCells l).toArray te (0, 0))
  ne : gc ≠ ge
section
variable {tc te gc ge : Nat} {l : List En} {hits misses : Int} {W W1 : World}
theorem CaAt.in_ (k : CaAt tc te gc ge l hits misses W) : gc < W.heap.size ∧ ge < W.heap.size := ⟨(Array.getElem?_eq_some_iff.1 k.box).1, (Array.getElem?_eq_some_iff.1 k.ents).1⟩
theorem CaAt.next (k : CaAt tc te gc ge l hits misses W) (hb : Below W.heap.size W W1) : CaAt tc te gc ge l hits misses W1 := ⟨(hb.block _ k.in_.1).trans k.box, (hb.block _ k.in_.2).trans k.ents, k.ne⟩
theorem CaAt.keep {a b : Nat} (k : CaAt tc te gc ge l hits misses W) (hb : Keep2 a b W W1) (h1 : gc ≠ a) (h2 : gc ≠ b) (h3 : ge ≠ a) (h4 : ge ≠ b) : CaAt tc te gc ge l hits misses W1 :=
  ⟨(hb.block _ k.in_.1 h1 h2).trans k.box, (hb.block _ k.in_.2 h3 h4).trans k.ents, k.ne⟩
theorem CaAt.b0 (k : CaAt tc te gc ge l hits misses W) : W.cell? ⟨gc, 0, none⟩ = some (.slice (some ⟨ge, 0, none⟩) l.length l.length) := cellof k.box 0
theorem CaAt.b1 (k : CaAt tc te gc ge l hits misses W) : W.cell? ⟨gc, 1, none⟩ = some (.int .i64 hits) := cellof k.box 1
theorem CaAt.b2 (k : CaAt tc te gc ge l hits misses W) : W.cell? ⟨gc, 2, none⟩ = some (.int .i64 misses) := cellof k.box 2
theorem CaAt.en (k : CaAt tc te gc ge l hits misses W) {p : Nat} (hp : p < l.length) (j : Nat) (hj : j < 5) : W.cell? ⟨ge, p * 5 + j, none⟩ = (eCells (l.getD p eZ))[j]? := by
  rw [cellof k.ents, List.getElem?_toArray, es_get hp hj]
theorem CaAt.hit (k : CaAt tc te gc ge l hits misses W) (v : Int) : CaAt tc te gc ge l v misses (W.setCell ⟨gc, 1, none⟩ (.int .i64 v)) := ⟨blk_set k.box 1 _, blk_far k.ents (Ne.symm k.ne) _, k.ne⟩
theorem CaAt.miss (k : CaAt tc te gc ge l hits misses W) (v : Int) : CaAt tc te gc ge l hits v (W.setCell ⟨gc, 2, none⟩ (.int .i64 v)) := ⟨blk_set k.box 2 _, blk_far k.ents (Ne.symm k.ne) _, k.ne⟩
theorem CaAt.put (k : CaAt tc te gc ge l hits misses W) {p : Nat} (hp : p < l.length) (x : En) :
    CaAt tc te gc ge (l.set p x) hits misses (((((W.setCell ⟨ge, p * 5, none⟩ (.int .i64 x.cls)).setCell ⟨ge, p * 5 + 1, none⟩ (.int .i64 x.sel)).setCell ⟨ge, p * 5 + 2, none⟩ (.int .i64 x.meth)).setCell ⟨ge, p * 5 + 3, none⟩ (.int .i64 x.at_)).setCell ⟨ge, p * 5 + 4, none⟩ (.bool x.full)) := by
  refine ⟨?_, ?_, k.ne⟩
  · have := blk_far (blk_far (blk_far (blk_far (blk_far k.box (p := ⟨ge, p * 5, none⟩) k.ne (.int .i64 x.cls)) (p := ⟨ge, p * 5 + 1, none⟩) k.ne (.int .i64 x.sel)) (p := ⟨ge, p * 5 + 2, none⟩) k.ne (.int .i64 x.meth)) (p := ⟨ge, p * 5 + 3, none⟩) k.ne (.int .i64 x.at_)) (p := ⟨ge, p * 5 + 4, none⟩) k.ne (.bool x.full)
    rw [List.length_set]
    exact this
  · have := blk_set (blk_set (blk_set (blk_set (blk_set k.ents (p * 5) (.int .i64 x.cls)) (p * 5 + 1) (.int .i64 x.sel)) (p * 5 + 2) (.int .i64 x.meth)) (p * 5 + 3) (.int .i64 x.at_)) (p * 5 + 4) (.bool x.full)
    rw [es_write x hp] at this
    exact this
end
end Go.Proofs.Ytgdobomofdenfaa.Lk
