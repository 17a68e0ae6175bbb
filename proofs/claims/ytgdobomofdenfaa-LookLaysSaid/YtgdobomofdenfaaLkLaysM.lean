/- A heap copied, and a pair laid first into an object's slots: memory. -/
import Derived.Test.YtgdobomofdenfaaPLookLaysx5
import Derived.Test.YtgdobomofdenfaaLkLaysP
import Derived.Deep.AppendSrc
namespace Go.Proofs.Ytgdobomofdenfaa.Lk
open Go.RowKit Go.Proofs.YtgdobomofdenfaaW.PrintWords Go.Shelf
set_option linter.unusedVariables false
set_option linter.unusedSimpArgs false

theorem below_of_grown {W W1 : World} (h : W.grownBy W1 none) : Below W.heap.size W W1 := ⟨h.os, h.tape, h.output, h.size, fun k hk => h.block k hk (by simp)⟩
theorem intInfo : (Try.prog.info? 3).map (fun i => (i.zero, i.size, i.bytes)) = some (some (.int .i64 0), 1, 8) := by kernel_rfl
theorem int_cells {W : World} {A : Option Addr} {ys : List Int} (h : (Kd.int .i64).C W A ys.length ys) (hn : 0 < ys.length) : ∃ a, A = some a ∧ ∀ j u, (encs (Value.int .i64) ys)[j]? = some u → W.cell? (a.add j) = some u := by
  obtain ⟨a, e, hc⟩ := h.2.2 hn
  refine ⟨a, e, fun j u hu => ?_⟩
  unfold encs at hu
  rw [List.getElem?_map, Option.map_eq_some_iff] at hu
  obtain ⟨y, hy, rfl⟩ := hu
  obtain ⟨c, hs, hr, hcell⟩ := hc j y hy
  have : W.cell? (a.add (j * 1 + 0)) = _ := hcell 0 (.int .i64 y) (by rw [show c = [.int .i64 y] from hr]; rfl)
  rwa [Nat.mul_one, Nat.add_zero] at this
/-- Two numbers, and whatever a slice holds, behind them. -/
theorem app_run (W : World) (ty : TypeId) (b : Nat) (x0 x1 : Int) (A : Option Addr) (c : Nat) (ys : List Int) (hb : W.heap[b]? = some (.cells #[.int .i64 x0, .int .i64 x1] 3 (0, 0))) (hC : (Kd.int .i64).C W A ys.length ys) (h60 : ys.length ≤ 64) (hc : A = none → c = 0 ∨ True) :
    ∃ gg cap W', (Builtin.append_ #[32, 32] ty #[.slice (some ⟨b, 0, none⟩) 2 2, .slice A ys.length c]).run Try.prog W = .ok (.slice (some ⟨gg, 0, none⟩) (2 + ys.length) cap) W' ∧ (Kd.int .i64).C W' (some ⟨gg, 0, none⟩) (2 + ys.length) (x0 :: x1 :: ys) ∧ Below W.heap.size W W' ∧ 2 + ys.length ≤ cap ∧ (gg = b ∨ W.heap.size ≤ gg) ∧ gg < W'.heap.size := by
  obtain ⟨i0, hi, hzz⟩ := Option.map_eq_some_iff.1 intInfo
  simp only [Prod.mk.injEq] at hzz
  obtain ⟨hz0, hz1, hz2⟩ := hzz
  have hlt : b < W.heap.size := (Array.getElem?_eq_some_iff.1 hb).1
  by_cases hn : 0 < ys.length
  · obtain ⟨a, rfl, hcell⟩ := int_cells hC hn
    obtain ⟨v', w', hrun, r1, r2⟩ := run_append_arg_grows (P := Try.prog) W 32 ty 3 i0 (.int .i64 0) 1 8 Try.underlying32 hi hz0 hz1 hz2 rfl (by decide) ⟨b, 0, none⟩ 2 2 [.int .i64 x0, .int .i64 x1] rfl (World.news_of_block (cs := #[.int .i64 x0, .int .i64 x1]) hb) a ys.length c (encs (Value.int .i64) ys) (by simp [encs]) hcell (by omega) (by unfold maxLen; omega) (by omega)
    have hrow : OwnRow (fun (x : Int) cs => cs = [Value.int .i64 x]) 3 1 w' W.heap.size v' (x0 :: x1 :: ys) := by
      refine ⟨[.int .i64 x0, .int .i64 x1] ++ encs (Value.int .i64) ys, ?_, ?_⟩
      · have : (x0 :: x1 :: ys).length = 2 + ys.length := by simp; omega
        rw [this]; exact r1
      · refine ⟨by simp [encs], fun j p hj => ?_⟩
        have e : [Value.int .i64 x0, .int .i64 x1] ++ encs (Value.int .i64) ys = (x0 :: x1 :: ys).map (Value.int .i64) := rfl
        obtain ⟨h1, h2⟩ := List.getElem?_eq_some_iff.1 hj
        rw [e, Nat.mul_one, List.take_one, List.head?_drop, List.getElem?_map, hj]
        rfl
    obtain ⟨A2, c2, e2, hl2, hr2⟩ := hrow.reads
    have hlen : (x0 :: x1 :: ys).length = 2 + ys.length := by simp; omega
    obtain ⟨g, rfl⟩ : ∃ g, A2 = some ⟨g, 0, none⟩ := by
      rcases r1.2 with ⟨h1, h2⟩ | ⟨g, cap, cur, h1, _⟩
      · omega
      · rw [e2] at h1; injection h1 with h1; exact ⟨g, h1⟩
    subst e2
    rw [hlen] at hr2 hl2
    refine ⟨g, c2, w', by rw [hrun, hlen], hr2, below_of_grown r2, hl2, .inr ?_, ?_⟩
    · exact (r1.lt g rfl).1
    · exact (r1.lt g rfl).2
  · obtain rfl : ys = [] := List.eq_nil_of_length_eq_zero (by omega)
    have hsrc : Src Try.prog i0.size 32 (.slice A 0 c) 0 [] W := by
      cases A with
      | none => exact Src.ofNil W Try.underlying32 c
      | some a => exact Src.ofSlice W Try.underlying32 a 0 c [] (by simp) (by simp) (by simp)
    have hrun := run_append_room_src (P := Try.prog) W 32 32 ty 3 i0 Try.underlying32 hi b 0 2 2 (.slice A 0 c) 0 [] hsrc (by omega) (by simp) (by simp)
    refine ⟨b, 2, W, hrun, ?_, Below.refl _ _, by simp, .inl rfl, hlt⟩
    exact ints_block (xs := [x0, x1]) hb rfl (by simp)
theorem step_app {ops : Array Oper} {o : Oper} {a : Act} {w : World} {K : Act → World → Prop} {Q : Exit → Act → World → Prop} {E : Prop} (hg : o.guard = none) (s x : Operand)
    (hop : o.op = Op.call { callee := Callee.builtin Builtin.append, args := #[s, x], argTypes := #[32, 32] }) (b : Nat) (x0 x1 : Int) (A : Option Addr) (c : Nat) (ys : List Int)
    (hs : a.eval s = .slice (some ⟨b, 0, none⟩) 2 2) (hx : a.eval x = .slice A ys.length c) (hb : w.heap[b]? = some (.cells #[.int .i64 x0, .int .i64 x1] 3 (0, 0))) (hC : (Kd.int .i64).C w A ys.length ys) (h60 : ys.length ≤ 64)
    (hK : ∀ gg cap W', (Kd.int .i64).C W' (some ⟨gg, 0, none⟩) (2 + ys.length) (x0 :: x1 :: ys) → Below w.heap.size w W' → 2 + ys.length ≤ cap → (gg = b ∨ w.heap.size ≤ gg) → gg < W'.heap.size → K (a.put o.dst (.slice (some ⟨gg, 0, none⟩) (2 + ys.length) cap)) W') :
    if Region.wanted o (yielded ops a.tmps) = true then Oper.wp Try.prog o a w K Q else E := by
  have hw : Region.wanted o (yielded ops a.tmps) = true := by simp [Region.wanted, hg]
  rw [if_pos hw]
  obtain ⟨gg, cap, W', hrun, h1, h2, h3, h4, h5⟩ := app_run w o.type b x0 x1 A c ys hb hC h60 (fun _ => .inr trivial)
  unfold Oper.wp
  simp [execOp, hop, resolve, invoke, builtin, hs, hx, hrun, Result.andThen]
  exact hK gg cap W' h1 h2 h3 h4 h5

/-- A heap's objects in memory of their own: a block of rows; whatever becomes of that block alone, the rows' own slots stay. -/
structure OwnH (B cap : Nat) (l : List Ob) (W : World) : Prop where
  rows : ∃ (cur : Array Value) (row : Nat → List Value), W.heap[B]? = some (.cells cur 34 (0, 0)) ∧ ∀ j, j < l.length → (row j).length = 6 ∧ (∀ q u, (row j)[q]? = some u → cur[j * 6 + q]? = some u) ∧ (∀ W', (∀ k, k ≠ B → k < W.heap.size → W'.heap[k]? = W.heap[k]?) → kOb.K W' (ob l j) (row j))
  le : l.length ≤ cap
  max : l.length ≤ 9223372036854775807
section
variable {B cap : Nat} {l : List Ob} {W W1 : World}
theorem OwnH.lt (k : OwnH B cap l W) : B < W.heap.size := by
  obtain ⟨cur, row, h, _⟩ := k.rows
  exact (Array.getElem?_eq_some_iff.1 h).1
theorem OwnH.later (k : OwnH B cap l W) (hb : Below W.heap.size W W1) : OwnH B cap l W1 := by
  have hl := k.lt
  obtain ⟨cur, row, h, hr⟩ := k.rows
  refine ⟨⟨cur, row, (hb.block _ hl).trans h, fun j hj => ⟨(hr j hj).1, (hr j hj).2.1, fun W' hW => (hr j hj).2.2 W' (fun q h1 h2 => (hW q h1 (Nat.lt_of_lt_of_le h2 hb.size)).trans (hb.block q h2))⟩⟩, k.le, k.max⟩
theorem OwnH.C (k : OwnH B cap l W) : kOb.C W (some ⟨B, 0, none⟩) l.length l := by
  obtain ⟨cur, row, h, hr⟩ := k.rows
  refine ⟨rfl, k.max, fun _ => ⟨_, rfl, fun j p hj => ?_⟩⟩
  obtain ⟨h1, h2⟩ := List.getElem?_eq_some_iff.1 hj
  obtain ⟨r1, r2, r3⟩ := hr j h1
  have hp : ob l j = p := by unfold ob; rw [List.getD_eq_getElem?_getD, hj]; rfl
  refine ⟨row j, r1, hp ▸ r3 W (fun _ _ _ => rfl), fun q u hu => ?_⟩
  have : ((⟨B, 0, none⟩ : Addr).add (j * 6 + q)) = ⟨B, j * 6 + q, none⟩ := by unfold Addr.add; split <;> simp_all
  show W.cell? ((⟨B, 0, none⟩ : Addr).add (j * 6 + q)) = some u
  rw [this, cellof h]
  exact r2 q u hu
theorem OwnH.set (k : OwnH B cap l W) {i gg c2 : Nat} {x y : Int} (hi : i < l.length) (hlen : (ob l i).slots.length + 2 ≤ c2) (hgg : gg ≠ B) (hgl : gg < W.heap.size) (hC : (Kd.int .i64).C W (some ⟨gg, 0, none⟩) (2 + (ob l i).slots.length) (x :: y :: (ob l i).slots)) :
    OwnH B cap (laid l i x y) (W.setCell ⟨B, i * 6 + 2, none⟩ (.slice (some ⟨gg, 0, none⟩) (2 + (ob l i).slots.length) c2)) := by
  obtain ⟨cur, row, h, hr⟩ := k.rows
  obtain ⟨q1, q2, q3⟩ := hr i hi
  have hsz : (W.setCell ⟨B, i * 6 + 2, none⟩ (.slice (some ⟨gg, 0, none⟩) (2 + (ob l i).slots.length) c2)).heap.size = W.heap.size := by simp
  have hbound : i * 6 + 2 < cur.size := by
    have := q2 2 ((row i)[2]'(by omega)) (List.getElem?_eq_getElem (by omega))
    exact (Array.getElem?_eq_some_iff.1 this).1
  refine ⟨⟨_, fun j => if j = i then (row i).set 2 (.slice (some ⟨gg, 0, none⟩) (2 + (ob l i).slots.length) c2) else row j, blk_set h _ _, fun j hj => ?_⟩, by rw [laid_len]; exact k.le, by rw [laid_len]; exact k.max⟩
  rw [laid_len] at hj
  obtain ⟨r1, r2, r3⟩ := hr j hj
  have far : ∀ W' : World, (∀ k, k ≠ B → k < (W.setCell ⟨B, i * 6 + 2, none⟩ (.slice (some ⟨gg, 0, none⟩) (2 + (ob l i).slots.length) c2)).heap.size → W'.heap[k]? = (W.setCell ⟨B, i * 6 + 2, none⟩ (.slice (some ⟨gg, 0, none⟩) (2 + (ob l i).slots.length) c2)).heap[k]?) → ∀ k, k ≠ B → k < W.heap.size → W'.heap[k]? = W.heap[k]? := by
    intro W' hW k h1 h2
    rw [hW k h1 (by rw [hsz]; exact h2)]
    exact Below.heap_setCell W ⟨B, i * 6 + 2, none⟩ _ k h1
  dsimp only
  by_cases hji : j = i
  · subst hji
    rw [if_pos rfl]
    refine ⟨by rw [List.length_set]; exact r1, fun q u hu => ?_, fun W' hW => ?_⟩
    · rw [List.getElem?_set] at hu
      rw [Array.getElem?_setIfInBounds]
      by_cases hq : 2 = q
      · subst hq
        rw [if_pos rfl] at hu
        rw [if_pos rfl, if_pos hbound]
        split at hu
        · exact hu
        · cases hu
      · rw [if_neg hq] at hu
        rw [if_neg (by omega)]
        exact r2 q u hu
    · have hK := r3 W' (far W' hW)
      obtain ⟨A2, c3, hcs, hl3, hC3⟩ := kOb_open hK
      rw [laid_at hi, hcs]
      have hl2 : ({ ob l j with slots := x :: y :: (ob l j).slots } : Ob).slots.length = 2 + (ob l j).slots.length := by simp only [List.length_cons]; omega
      have hC2 : (Kd.int .i64).C W' (some ⟨gg, 0, none⟩) (2 + (ob l j).slots.length) (x :: y :: (ob l j).slots) := by
        obtain ⟨e1, e2, e3⟩ := hC
        refine ⟨e1, e2, fun hn => ?_⟩
        obtain ⟨ad, ea, hc⟩ := e3 hn
        injection ea with ea
        subst ea
        refine ⟨_, rfl, fun n p hp => ?_⟩
        obtain ⟨cs, s1, s2, s3⟩ := hc n p hp
        refine ⟨cs, s1, s2, fun m u hu => ?_⟩
        have := s3 m u hu
        have hadd : ((⟨gg, 0, none⟩ : Addr).add (n * (Kd.int .i64).sz + m)) = ⟨gg, n * (Kd.int .i64).sz + m, none⟩ := by unfold Addr.add; split <;> simp_all
        rw [hadd] at this ⊢
        obtain ⟨o, ho⟩ : ∃ o, W.heap[gg]? = some o := ⟨_, Array.getElem?_eq_getElem hgl⟩
        have ho' : W'.heap[gg]? = some o := (far W' hW gg hgg hgl).trans ho
        unfold World.cell? at this ⊢
        simp only [ho] at this
        simp only [ho']
        exact this
      have z := kOb_mk W' { ob l j with slots := x :: y :: (ob l j).slots } (A2 := some ⟨gg, 0, none⟩) (c2 := c2) (by rw [hl2]; omega) (by rw [hl2]; exact hC2)
      rw [hl2] at z
      exact z
  · rw [if_neg hji]
    refine ⟨r1, fun q u hu => ?_, fun W' hW => ?_⟩
    · rw [Array.getElem?_setIfInBounds]
      have hq : q < 6 := by have := (List.getElem?_eq_some_iff.1 hu).1; omega
      rw [if_neg (by omega)]
      exact r2 q u hu
    · rw [laid_far hji]
      exact r3 W' (far W' hW)
end
end Go.Proofs.Ytgdobomofdenfaa.Lk
