/- The law's own tower of classes, and what is fixed of it. -/
import Derived.Test.YtgdobomofdenfaaLkFind
namespace Go.Proofs.Ytgdobomofdenfaa.Lk
open Go.RowKit Go.Proofs.YtgdobomofdenfaaW.PrintWords Go.Shelf
set_option linter.unusedVariables false
set_option linter.unusedSimpArgs false

def sOb (l : List Int) : Ob := ⟨0, 0, l, ⟨#[]⟩, 0, 0⟩
def towerH : Hp := ⟨[z0, sOb [4, 6, 1], sOb [0, 8, 5], sOb [0, 21], sOb [0, 31, 2, 41, 2]], 9, 0⟩
/-- What is handed back reads as a heap. -/
def GivesHp (h : Hp) (w : World) (e : Ending) (w' : World) : Prop := (∃ A cp, e = .returned (.agg #[.slice A h.objs.length cp, .int .i64 h.cap, .int .i64 h.last]) ∧ h.objs.length ≤ cp ∧ kOb.C w' A h.objs.length h.objs) ∧ Below w.heap.size w w'
theorem row_of_block {α : Type} {R : α → List Value → Prop} {size : Nat} {w : World} {b : Nat} {e : TypeId} {inner : List Value} {ps : List α} (hr : Reps R size ps inner) (hb : w.heap[b]? = some (.cells inner.toArray e (0, 0))) (hl : ps.length ≤ 9223372036854775807) :
    ReadsRow R size w (some ⟨b, 0, none⟩) ps.length ps := by
  refine ⟨rfl, hl, fun _ => ⟨⟨b, 0, none⟩, rfl, fun j p hj => ?_⟩⟩
  obtain ⟨hlt, _⟩ := List.getElem?_eq_some_iff.1 hj
  have hlen := hr.1
  have h1 : j * size + size ≤ inner.length := by rw [hlen, ← Nat.succ_mul]; exact Nat.mul_le_mul_right _ hlt
  refine ⟨(inner.drop (j * size)).take size, by rw [List.length_take, List.length_drop]; omega, hr.2 j p hj, fun i u hu => ?_⟩
  have hi : i < size := by
    have := (List.getElem?_eq_some_iff.1 hu).1
    rw [List.length_take] at this; omega
  rw [List.getElem?_take, if_pos hi, List.getElem?_drop] at hu
  have h2 := cellof hb (j * size + i)
  have h3 : (⟨b, 0, none⟩ : Addr).add (j * size + i) = ⟨b, j * size + i, none⟩ := by
    unfold Addr.add
    split
    · rename_i h0; simp [h0]
    · simp
  rw [h3, h2]
  simpa using hu
theorem ints_block {w : World} {b : Nat} {e : TypeId} {cs : Array Value} {xs : List Int} (hb : w.heap[b]? = some (.cells cs e (0, 0))) (hc : cs.toList = encs (Value.int .i64) xs) (hl : xs.length ≤ 9223372036854775807) : (Kd.int .i64).C w (some ⟨b, 0, none⟩) xs.length xs := by
  refine row_of_block (e := e) (R := (Kd.int .i64).K w) (size := 1) (inner := encs (Value.int .i64) xs) (Kd.reps_scalar xs) ?_ hl
  rw [hb, ← hc]
theorem ob_nil (w : World) : kOb.K w z0 [.int .i64 0, .int .i64 0, .slice none 0 0, .string ⟨#[]⟩, .int .i64 0, .int .i64 0] :=
  kOb_mk w z0 (Nat.le_refl _) ⟨rfl, Nat.zero_le _, fun h => absurd h (Nat.lt_irrefl _)⟩
theorem ob_ints {w : World} {b : Nat} {e : TypeId} {cs : Array Value} {xs : List Int} (hb : w.heap[b]? = some (.cells cs e (0, 0))) (hc : cs.toList = encs (Value.int .i64) xs) (hl : xs.length ≤ 9223372036854775807) :
    kOb.K w (sOb xs) [.int .i64 0, .int .i64 0, .slice (some ⟨b, 0, none⟩) xs.length xs.length, .string ⟨#[]⟩, .int .i64 0, .int .i64 0] :=
  kOb_mk w (sOb xs) (Nat.le_refl _) (ints_block hb hc hl)

theorem box6 (w : World) (o0 o1 o2 o3 o4 o5 : Obj) : let W := ((((((w.alloc o0).alloc o1).alloc o2).alloc o3).alloc o4).alloc o5); Below w.heap.size w W ∧ W.heap[w.heap.size + 1]? = some o1 ∧ W.heap[w.heap.size + 1 + 1]? = some o2 ∧ W.heap[w.heap.size + 1 + 1 + 1]? = some o3 ∧ W.heap[w.heap.size + 1 + 1 + 1 + 1]? = some o4 ∧
    W.heap[w.heap.size + 1 + 1 + 1 + 1 + 1]? = some o5 ∧ W.heap.size = w.heap.size + 6 := by
  intro W
  obtain ⟨h1, h2, h3, h4, h5, h6, h7⟩ := box5 (w.alloc o0) o1 o2 o3 o4 o5
  obtain ⟨k1, k2, k3⟩ := box1 w o0
  rw [k3] at h1 h2 h3 h4 h5 h6 h7
  exact ⟨k1.trans (h1.mono (by omega)), h2, h3, h4, h5, h6, h7⟩

set_option maxRecDepth 100000 in
set_option maxHeartbeats 2000000 in
theorem law_tower (w : World) : Calls Try.prog 29 #[] w fun e w' => GivesHp towerH w e w' := by
  have hu24 := Try.underlying24
  have hu34 := Try.underlying34
  go_enter Try.func29, Try.ntmps29
  go_wp2
  obtain ⟨hb, h1, h2, h3, h4, h5, hs⟩ := box6 w (.cells #[.slice (some ⟨w.heap.size + 1 + 1 + 1 + 1 + 1, 0, none⟩) 5 5, .int .i64 9, .int .i64 0] 24) (.cells #[.int .i64 4, .int .i64 6, .int .i64 1] 3) (.cells #[.int .i64 0, .int .i64 8, .int .i64 5] 3) (.cells #[.int .i64 0, .int .i64 21] 3) (.cells #[.int .i64 0, .int .i64 31, .int .i64 2, .int .i64 41, .int .i64 2] 3)
    (.cells #[.int .i64 0, .int .i64 0, .slice none 0 0, .string ⟨#[]⟩, .int .i64 0, .int .i64 0, .int .i64 0, .int .i64 0, .slice (some ⟨w.heap.size + 1, 0, none⟩) 3 3, .string ⟨#[]⟩, .int .i64 0, .int .i64 0, .int .i64 0, .int .i64 0, .slice (some ⟨w.heap.size + 1 + 1, 0, none⟩) 3 3, .string ⟨#[]⟩, .int .i64 0, .int .i64 0,
      .int .i64 0, .int .i64 0, .slice (some ⟨w.heap.size + 1 + 1 + 1, 0, none⟩) 2 2, .string ⟨#[]⟩, .int .i64 0, .int .i64 0, .int .i64 0, .int .i64 0, .slice (some ⟨w.heap.size + 1 + 1 + 1 + 1, 0, none⟩) 5 5, .string ⟨#[]⟩, .int .i64 0, .int .i64 0] 34)
  refine ⟨rfl, .agg #[.slice (some ⟨w.heap.size + 1 + 1 + 1 + 1 + 1, 0, none⟩) 5 5, .int .i64 9, .int .i64 0], by simp [results, Try.f29, go_sem], ?_⟩
  refine ⟨⟨some ⟨w.heap.size + 1 + 1 + 1 + 1 + 1, 0, none⟩, 5, rfl, Nat.le_refl _, ?_⟩, hb⟩
  exact row_of_block (((((Reps.none (kOb.K _) 6).snoc (ob_nil _) rfl).snoc (ob_ints (xs := [4, 6, 1]) h1 rfl (by decide)) rfl).snoc (ob_ints (xs := [0, 8, 5]) h2 rfl (by decide)) rfl).snoc (ob_ints (xs := [0, 21]) h3 rfl (by decide)) rfl |>.snoc (ob_ints (xs := [0, 31, 2, 41, 2]) h4 rfl (by decide)) rfl) h5 (by decide)
end Go.Proofs.Ytgdobomofdenfaa.Lk
