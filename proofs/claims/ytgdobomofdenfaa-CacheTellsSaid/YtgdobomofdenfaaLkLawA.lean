/- What the statements on caches need: a frame of boxes, and plain facts of entries. -/
import Derived.Test.YtgdobomofdenfaaLkCaH
import Derived.Test.YtgdobomofdenfaaLkCaG
import Derived.Test.YtgdobomofdenfaaLkAsks
namespace Go.Proofs.Ytgdobomofdenfaa.Lk
open Go.RowKit Go.Proofs.YtgdobomofdenfaaW.PrintWords Go.Shelf
set_option linter.unusedVariables false
set_option linter.unusedSimpArgs false

/-- Boxes that stay, whatever becomes of some blocks; what there was stays too. -/
structure Frm (w0 : World) (ws : List Nat) (bx : List (Nat × Obj)) (W : World) : Prop where
  below : Below w0.heap.size w0 W
  lo : ∀ k ∈ ws, w0.heap.size ≤ k
  bx : ∀ b ∈ bx, W.heap[b.1]? = some b.2 ∧ b.1 ∉ ws
section
variable {w0 : World} {ws : List Nat} {bx : List (Nat × Obj)} {W W1 : World}
theorem Frm.later (k : Frm w0 ws bx W) (hb : Below W.heap.size W W1) : Frm w0 ws bx W1 :=
  ⟨below_up k.below k.below.size hb, k.lo, fun b h => ⟨(hb.block _ (Array.getElem?_eq_some_iff.1 (k.bx b h).1).1).trans (k.bx b h).1, (k.bx b h).2⟩⟩
theorem Frm.keep {a b : Nat} (k : Frm w0 ws bx W) (q : Keep2 a b W W1) (ha : a ∈ ws) (hb : b ∈ ws) : Frm w0 ws bx W1 :=
  ⟨q.below k.below (k.lo a ha) (k.lo b hb) k.below.size, k.lo, fun x h => ⟨(q.block _ (Array.getElem?_eq_some_iff.1 (k.bx x h).1).1 (fun e => (k.bx x h).2 (e ▸ ha)) (fun e => (k.bx x h).2 (e ▸ hb))).trans (k.bx x h).1, (k.bx x h).2⟩⟩
theorem Frm.row {A : Option Addr} {n : Nat} {l : List Ob} (k : Frm w0 ws bx W) (hr : kOb.C w0 A n l) : kOb.C W A n l := Kd.C_below hr k.below
theorem Frm.rows {A : Option Addr} {n : Nat} {l : List Ob} {a b : Nat} (k : Frm w0 ws bx W) (hr : kOb.C w0 A n l) (ha : a ∈ ws) (hb : b ∈ ws) : ∀ W', Keep2 a b W W' → kOb.C W' A n l := fun W' q => (k.keep q ha hb).row hr
theorem Frm.cell {g : Nat} {cs : Array Value} {t : TypeId} (k : Frm w0 ws bx W) (h : (g, Obj.cells cs t (0, 0)) ∈ bx) (i : Nat) : W.cell? ⟨g, i, none⟩ = cs[i]? := cellof (k.bx _ h).1 i
theorem Frm.more (k : Frm w0 ws bx W) (ns : List Nat) (h : ∀ n ∈ ns, W.heap.size ≤ n) (hb : Below W.heap.size W W1) : Frm w0 (ns ++ ws) bx W1 := by
  have k1 := k.later hb
  refine ⟨k1.below, fun n hn => ?_, fun b h2 => ⟨(k1.bx b h2).1, fun hm => ?_⟩⟩
  · rcases List.mem_append.1 hn with hn | hn
    · exact Nat.le_trans k.below.size (h n hn)
    · exact k.lo n hn
  · have hlt := (Array.getElem?_eq_some_iff.1 (k.bx b h2).1).1
    rcases List.mem_append.1 hm with hm | hm
    · have := h _ hm; omega
    · exact (k.bx b h2).2 hm
end
theorem wp_box3 {P : Program} {c : Code} {Q : Exit → Act → World → Prop} {a : Act} {w : World} {o1 o2 o3 : Obj}
    (h : ∀ W1, Below w.heap.size w W1 → W1.heap[w.heap.size]? = some o1 → W1.heap[w.heap.size + 1]? = some o2 → W1.heap[w.heap.size + 2]? = some o3 → W1.heap.size = w.heap.size + 3 → c.wp P Q a W1) : c.wp P Q a (((w.alloc o1).alloc o2).alloc o3) :=
  h _ (box3 w o1 o2 o3).1 (box3 w o1 o2 o3).2.1 (box3 w o1 o2 o3).2.2.1 (box3 w o1 o2 o3).2.2.2.1 (box3 w o1 o2 o3).2.2.2.2

/-! Entries, and what is found. -/
def Valid (h : Hp) (l : List En) : Prop := ∀ p, p < l.length → (l.getD p eZ).full = true → findI h (l.getD p eZ).cls (l.getD p eZ).sel = ((l.getD p eZ).meth, (l.getD p eZ).at_, 0)
theorem getD_rep (n p : Nat) : (List.replicate n eZ).getD p eZ = eZ := by
  rw [List.getD_eq_getElem?_getD, List.getElem?_replicate]
  split <;> rfl
theorem valid_zero (h : Hp) (n : Nat) : Valid h (List.replicate n eZ) := by
  intro p _ hf
  rw [getD_rep] at hf
  cases hf
theorem place_lt {l : List En} (hn : 0 < l.length) (c s : Int) : (placeI l.length c s).toNat < l.length := by
  have := place_bd l.length c s hn
  omega
theorem hit_facts {l : List En} {c s : Int} (h : hitB l c s = true) : (enF l c s).full = true ∧ (enF l c s).cls = c ∧ (enF l c s).sel = s := by
  unfold hitB at h
  simp only [Bool.and_eq_true, beq_iff_eq] at h
  exact ⟨h.1, h.2.1, h.2.2⟩
theorem hit_zero (n : Nat) (c s : Int) : hitB (List.replicate n eZ) c s = false := by
  unfold hitB enF
  rw [getD_rep]
  rfl
theorem valid_res {h : Hp} {l : List En} (v : Valid h l) (hn : 0 < l.length) (c s : Int) : resF h c s l = findI h c s := by
  unfold resF
  split
  · rename_i hh
    obtain ⟨h1, h2, h3⟩ := hit_facts hh
    have := v _ (place_lt hn c s) h1
    change findI h (enF l c s).cls (enF l c s).sel = _ at this
    rw [h2, h3] at this
    rw [this]
    rfl
  · rfl
theorem valid_ent {h : Hp} {l : List En} (v : Valid h l) (c s : Int) : Valid h (entF h c s l) := by
  unfold entF
  split
  · exact v
  · split
    · rename_i hf
      intro p hp hfull
      rw [List.length_set] at hp
      by_cases hq : (placeI l.length c s).toNat = p
      · subst hq
        have e : (l.set (placeI l.length c s).toNat ⟨c, s, (findI h c s).1, (findI h c s).2.1, true⟩).getD (placeI l.length c s).toNat eZ = ⟨c, s, (findI h c s).1, (findI h c s).2.1, true⟩ := by
          rw [List.getD_eq_getElem?_getD, List.getElem?_set_self hp]; rfl
        rw [e]
        show findI h c s = ((findI h c s).1, (findI h c s).2.1, 0)
        rw [← hf]
      · have e : (l.set (placeI l.length c s).toNat ⟨c, s, (findI h c s).1, (findI h c s).2.1, true⟩).getD p eZ = l.getD p eZ := by
          rw [List.getD_eq_getElem?_getD, List.getElem?_set_ne hq, ← List.getD_eq_getElem?_getD]
        rw [e] at hfull ⊢
        exact v p hp hfull
    · exact v
theorem hit_set {l : List En} (hn : 0 < l.length) (c s m a : Int) : hitB (l.set (placeI l.length c s).toNat ⟨c, s, m, a, true⟩) c s = true := by
  unfold hitB enF
  rw [List.length_set]
  have e : (l.set (placeI l.length c s).toNat ⟨c, s, m, a, true⟩).getD (placeI l.length c s).toNat eZ = ⟨c, s, m, a, true⟩ := by
    rw [List.getD_eq_getElem?_getD, List.getElem?_set_self (place_lt hn c s)]; rfl
  rw [e]
  simp
theorem hit_yes {h : Hp} {l : List En} {c s : Int} (hn : 0 < l.length) (hr : (resF h c s l).2.2 = 0) : hitB (entF h c s l) c s = true := by
  unfold resF at hr
  unfold entF
  split
  · assumption
  · rename_i hh
    rw [if_neg hh] at hr
    rw [if_pos hr]
    exact hit_set hn c s _ _
theorem hit_no {h : Hp} {l : List En} {c s : Int} (hr : (resF h c s l).2.2 ≠ 0) : hitB l c s = false ∧ hitB (entF h c s l) c s = false := by
  unfold resF at hr
  unfold entF
  by_cases hh : hitB l c s = true
  · rw [if_pos hh] at hr
    exact absurd rfl hr
  · rw [if_neg hh] at hr
    rw [if_neg hh, if_neg hr]
    exact ⟨by simpa using hh, by simpa using hh⟩
theorem hit_one (c s : Int) (l : List En) (n m : Int) : (hitF c s l n = n + 1 ∧ misF c s l m = m ∧ hitB l c s = true) ∨ (hitF c s l n = n ∧ misF c s l m = m + 1 ∧ hitB l c s = false) := by
  unfold hitF misF
  cases hh : hitB l c s <;> simp
end Go.Proofs.Ytgdobomofdenfaa.Lk
