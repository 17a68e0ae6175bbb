/- A cache's contracts: made, told, flushed. -/
import Derived.Test.YtgdobomofdenfaaLkCaB
import Derived.Lib.SliceRun
namespace Go.Proofs.Ytgdobomofdenfaa.Lk
open Go.RowKit Go.Proofs.YtgdobomofdenfaaW.PrintWords Go.Shelf
set_option linter.unusedVariables false
set_option linter.unusedSimpArgs false

theorem make_en (t e : TypeId) (ht : Try.prog.underlying t = some (.slice e)) (hinfo : (Try.prog.info? e).map (fun i => (i.zero, i.size, i.bytes)) = some (some (.agg #[.int .i64 0, .int .i64 0, .int .i64 0, .int .i64 0, .bool false]), 5, 40)) (n : Nat) (hn : n ≤ 64) :
    ∀ W : World, (Instr.makeSlice t (.int .i64 (n : Int)) (.int .i64 (n : Int))).run Try.prog W = .ok (.slice (some ⟨W.heap.size, 0, none⟩) n n) (W.alloc (.cells (esCells (List.replicate n eZ)).toArray e)) := by
  intro W
  obtain ⟨i0, hi, hzz⟩ := Option.map_eq_some_iff.1 hinfo
  simp only [Prod.mk.injEq] at hzz
  obtain ⟨hz0, hz1, hz2⟩ := hzz
  have hr := run_make (P := Try.prog) W t e i0 _ ht hi hz0 .i64 .i64 (n : Int) (n : Int) (by omega) (by omega) (by rw [hz2]; omega) (by omega)
  simp only [Int.toNat_natCast] at hr
  rw [hr, hz1, es_zero]
  rfl

set_option maxRecDepth 100000 in
set_option maxHeartbeats 1000000 in
theorem ca_New (n : Nat) (w : World) (h1 : 1 ≤ n) (h2 : n ≤ 64) :
    Calls Try.prog 21 #[.int .i64 n] w fun e w' => e = .returned (.pointer (some ⟨w.heap.size + 1, 0, none⟩)) ∧ CaAt 73 81 (w.heap.size + 1) w.heap.size (List.replicate n eZ) 0 0 w' ∧ Below w.heap.size w w' := by
  have hmk := make_en 71 81 Try.underlying71 (by kernel_rfl) n h2
  have hB := Lib.hid (box2 w (.cells (esCells (List.replicate n eZ)).toArray 81) (.cells #[.slice (some ⟨w.heap.size, 0, none⟩) n n, .int .i64 0, .int .i64 0] 73))
  have hu73 := Try.underlying73
  go_enter Try.func21, Try.ntmps21
  go_wp2
  go_ret
  refine ⟨rfl, ⟨?_, hB.out.2.1, by omega⟩, hB.out.1⟩
  have := hB.out.2.2.1
  rw [List.length_replicate]
  exact this
set_option maxRecDepth 100000 in
set_option maxHeartbeats 1000000 in
theorem ca_New_bad (n : Int) (w : World) (h : n < 1 ∨ 64 < n) :
    Calls Try.prog 21 #[.int .i64 n] w fun e w' => e = .returned (.pointer none) ∧ w = w' := by
  rcases h with h | h
  · have h1 : n < 1 := h
    go_enter Try.func21, Try.ntmps21
    go_wp2
    go_ret
    exact ⟨rfl, rfl⟩
  · have h1 : ¬ n < 1 := by omega
    go_enter Try.func21, Try.ntmps21
    go_wp2
    go_ret
    exact ⟨rfl, rfl⟩

set_option maxRecDepth 100000 in
set_option maxHeartbeats 1000000 in
theorem ca_Hits {gc ge : Nat} {l : List En} {hits misses : Int} (w : World) (k : CaAt 73 81 gc ge l hits misses w) :
    Calls Try.prog 27 #[.pointer (some ⟨gc, 0, none⟩)] w fun e w' => e = .returned (.tuple #[.int .i64 hits, .int .i64 misses]) ∧ Below w.heap.size w w' := by
  have hu73 := Try.underlying73
  have K := Lib.hid k
  clear k
  go_enter Try.func27, Try.ntmps27
  go_wp2
  have x0 := fun x : Ext w => x.cell K.out.b1
  have x1 := fun x : Ext w => x.cell K.out.b2
  refine wp_region_ext (by kernel_rfl) (by kernel_rfl) ?_
  repeat (go_big_quiet_step (fail))
  refine wpQuiet_nil ?_
  rintro _ ⟨x, rfl⟩
  clear x0 x1
  go_wp2
  go_ret2
  exact ⟨rfl, x.below⟩

/-- Cells written one behind the other. -/
def wrC (cs : Array Value) : Nat → List Value → Array Value
  | _, [] => cs
  | o, v :: r => wrC (cs.setIfInBounds o v) (o + 1) r
theorem wrC_get : ∀ (vs : List Value) (cs : Array Value) (o i : Nat), o + vs.length ≤ cs.size → (wrC cs o vs)[i]? = if o ≤ i ∧ i < o + vs.length then vs[i - o]? else cs[i]?
  | [], cs, o, i, _ => by rw [if_neg (by simp only [List.length_nil]; omega)]; rfl
  | v :: r, cs, o, i, h => by
    have h1 : o + 1 + r.length ≤ (cs.setIfInBounds o v).size := by simp at h ⊢; omega
    show (wrC (cs.setIfInBounds o v) (o + 1) r)[i]? = _
    rw [wrC_get r _ _ i h1, Array.getElem?_setIfInBounds]
    simp only [List.length_cons] at h ⊢
    by_cases h2 : i = o
    · subst h2
      rw [if_neg (by omega), if_pos rfl, if_pos (by omega), if_pos (by omega)]
      simp
    · by_cases h3 : o ≤ i ∧ i < o + (r.length + 1)
      · rw [if_pos (by omega), if_pos h3, show i - o = (i - (o + 1)) + 1 by omega, List.getElem?_cons_succ]
      · rw [if_neg (by omega), if_neg (Ne.symm h2), if_neg h3]
theorem wrC_all (cs : Array Value) (vs : List Value) (h : vs.length = cs.size) : wrC cs 0 vs = vs.toArray := by
  apply Array.ext_getElem?
  intro i
  rw [wrC_get vs cs 0 i (by omega)]
  by_cases hi : i < vs.length
  · rw [if_pos (by omega)]; simp
  · rw [if_neg (by omega), Array.getElem?_eq_none (by omega), Array.getElem?_eq_none (by simp; omega)]
theorem blk_setCells {g : Nat} {t : TypeId} : ∀ (vs : List Value) (o : Nat) (W : World) (cs : Array Value), W.heap[g]? = some (.cells cs t (0, 0)) → (W.setCells g o vs).heap[g]? = some (.cells (wrC cs o vs) t (0, 0))
  | [], _, _, _, h => h
  | v :: r, o, W, cs, h => blk_setCells r (o + 1) _ _ (blk_set h o v)
theorem keep_setCells {a b : Nat} : ∀ (vs : List Value) (o : Nat) (W : World), Keep2 a b W (W.setCells b o vs)
  | [], _, W => Keep2.refl a b W
  | v :: r, o, W => (Keep2.set_b W o v).trans (keep_setCells r (o + 1) _)
theorem blk_far_cells {a b : Nat} : ∀ (vs : List Value) (o : Nat) (W : World), a ≠ b → (W.setCells b o vs).heap[a]? = W.heap[a]?
  | [], _, _, _ => rfl
  | v :: r, o, W, h => (blk_far_cells r (o + 1) _ h).trans (Below.heap_setCell W ⟨b, o, none⟩ v a h)
theorem es_one (l : List En) : ∀ v ∈ esCells l, v.oneCell' = true := by
  induction l with
  | nil => intro v h; cases h
  | cons x r ih =>
    intro v h
    rcases List.mem_append.1 h with h | h
    · simp only [eCells, List.mem_cons, List.not_mem_nil, or_false] at h
      rcases h with rfl | rfl | rfl | rfl | rfl <;> rfl
    · exact ih v h

theorem clear_en (t e ty : TypeId) (ht : Try.prog.underlying t = some (.slice e)) (hv : ∀ w, (zeroValue e).run Try.prog w = .ok (.agg #[.int .i64 0, .int .i64 0, .int .i64 0, .int .i64 0, .bool false]) w) (W : World) (ge : Nat) (l : List En) (hn : 0 < l.length)
    (hb : W.heap[ge]? = some (.cells (esCells l).toArray e (0, 0))) :
    (Builtin.clear_ #[t] ty #[.slice (some ⟨ge, 0, none⟩) l.length l.length]).run Try.prog W = .ok (.tuple #[]) (W.setCells ge 0 (esCells (List.replicate l.length eZ))) := by
  have hzc : (Builtin.zeroCells (Value.agg #[.int .i64 0, .int .i64 0, .int .i64 0, .int .i64 0, .bool false]).cells l.length).toList = esCells (List.replicate l.length eZ) := by
    have h1 := es_zero l.length
    have h2 : Builtin.zeroCells (Value.agg #[.int .i64 0, .int .i64 0, .int .i64 0, .int .i64 0, .bool false]).cells l.length = (esCells (List.replicate l.length eZ)).toArray := by
      rw [h1]
      rfl
    rw [h2]
  have hlen : (esCells (List.replicate l.length eZ)).length = l.length * 5 := by rw [es_len]; simp
  have hlen' : (esCells l).length = l.length * 5 := es_len l
  have hst := run_storeCells_cells (P := Try.prog) ge 0 (esCells (List.replicate l.length eZ)) 0 W (fun j hj => by
      rw [show 0 + 0 + j = j by omega, cellof hb, List.getElem?_toArray, List.getElem?_eq_getElem (by omega)]; rfl) (fun j hj => blk_frozen hb _) (es_one _)
  simp only [Nat.add_zero] at hst
  obtain ⟨m, hm⟩ : ∃ m, l.length = m + 1 := ⟨l.length - 1, by omega⟩
  rw [hm] at hzc hst ⊢
  simp [Builtin.clear_, run_underlying ht, hv, hzc, hst]

set_option maxRecDepth 100000 in
set_option maxHeartbeats 1000000 in
theorem ca_Flush {gc ge : Nat} {l : List En} {hits misses : Int} (w : World) (hn : 0 < l.length) (k : CaAt 73 81 gc ge l hits misses w) :
    Calls Try.prog 23 #[.pointer (some ⟨gc, 0, none⟩)] w fun e w' => e = .returned (.tuple #[]) ∧ CaAt 73 81 gc ge (List.replicate l.length eZ) hits misses w' ∧ Keep2 gc ge w w' := by
  have hu73 := Try.underlying73
  have hcl := fun ty => clear_en 71 81 ty Try.underlying71 (fun w => by kernel_rfl) w ge l hn k.ents
  have d0 := k.b0
  have K := Lib.hid k
  clear k
  go_enter Try.func23, Try.ntmps23
  go_wp2
  go_end0
  have h1 := keep_setCells (a := gc) (b := ge) (esCells (List.replicate l.length eZ)) 0 w
  refine ⟨rfl, ⟨?_, ?_, K.out.ne⟩, h1⟩
  · rw [List.length_replicate]
    have := K.out.box
    rw [← this]
    exact blk_far_cells _ _ _ K.out.ne
  · have h2 := blk_setCells (esCells (List.replicate l.length eZ)) 0 w _ K.out.ents
    rw [wrC_all _ _ (by rw [es_len]; simp [es_len])] at h2
    exact h2
end Go.Proofs.Ytgdobomofdenfaa.Lk
