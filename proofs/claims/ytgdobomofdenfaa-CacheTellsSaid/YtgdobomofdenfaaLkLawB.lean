/- The state of a statement on caches: boxes, and one cache, or two. -/
import Derived.Test.YtgdobomofdenfaaLkLawA
namespace Go.Proofs.Ytgdobomofdenfaa.Lk
open Go.RowKit Go.Proofs.YtgdobomofdenfaaW.PrintWords Go.Shelf
set_option linter.unusedVariables false
set_option linter.unusedSimpArgs false

def hObj (A : Option Addr) (cp : Nat) (h : Hp) : Obj := .cells #[.slice A h.objs.length cp, .int .i64 h.cap, .int .i64 h.last] 24 (0, 0)
def aObj (A : Option Addr) (cp n : Nat) (sz : Int) : Obj := .cells #[.int .i64 sz, .slice A n cp] 42 (0, 0)
section
variable {w0 : World} {ws : List Nat} {bx : List (Nat × Obj)} {W W1 : World} {g : Nat}
theorem Frm.h0 {A : Option Addr} {cp : Nat} {h : Hp} (k : Frm w0 ws bx W) (m : (g, hObj A cp h) ∈ bx) : W.cell? ⟨g, 0, none⟩ = some (.slice A h.objs.length cp) := cellof (k.bx _ m).1 0
theorem Frm.h1 {A : Option Addr} {cp : Nat} {h : Hp} (k : Frm w0 ws bx W) (m : (g, hObj A cp h) ∈ bx) : W.cell? ⟨g, 1, none⟩ = some (.int .i64 h.cap) := cellof (k.bx _ m).1 1
theorem Frm.h2 {A : Option Addr} {cp : Nat} {h : Hp} (k : Frm w0 ws bx W) (m : (g, hObj A cp h) ∈ bx) : W.cell? ⟨g, 2, none⟩ = some (.int .i64 h.last) := cellof (k.bx _ m).1 2
theorem Frm.a0 {A : Option Addr} {cp n : Nat} {sz : Int} (k : Frm w0 ws bx W) (m : (g, aObj A cp n sz) ∈ bx) : W.cell? ⟨g, 0, none⟩ = some (.int .i64 sz) := cellof (k.bx _ m).1 0
theorem Frm.a1 {A : Option Addr} {cp n : Nat} {sz : Int} (k : Frm w0 ws bx W) (m : (g, aObj A cp n sz) ∈ bx) : W.cell? ⟨g, 1, none⟩ = some (.slice A n cp) := cellof (k.bx _ m).1 1
end

/-- One cache. -/
structure S1 (w0 : World) (bx : List (Nat × Obj)) (gc ge : Nat) (l : List En) (hits misses : Int) (W : World) : Prop where
  frm : Frm w0 [gc, ge] bx W
  ca : CaAt 73 81 gc ge l hits misses W
section
variable {w0 : World} {bx : List (Nat × Obj)} {gc ge : Nat} {l l1 : List En} {hits misses h1 m1 : Int} {W W1 : World}
theorem S1.later (k : S1 w0 bx gc ge l hits misses W) (hb : Below W.heap.size W W1) : S1 w0 bx gc ge l hits misses W1 := ⟨k.frm.later hb, k.ca.next hb⟩
theorem S1.keep (k : S1 w0 bx gc ge l hits misses W) (c : CaAt 73 81 gc ge l1 h1 m1 W1) (q : Keep2 gc ge W W1) : S1 w0 bx gc ge l1 h1 m1 W1 := ⟨k.frm.keep q (.head _) (.tail _ (.head _)), c⟩
theorem S1.rows {A : Option Addr} {n : Nat} {x : List Ob} (k : S1 w0 bx gc ge l hits misses W) (hr : kOb.C w0 A n x) : ∀ W', Keep2 gc ge W W' → kOb.C W' A n x := k.frm.rows hr (.head _) (.tail _ (.head _))
end
theorem s1_New (sz : Int) {w0 : World} {bx : List (Nat × Obj)} {W : World} (F : Frm w0 [] bx W) (h1 : 1 ≤ sz) (h2 : sz ≤ 64) :
    Calls Try.prog 21 #[.int .i64 sz] W fun e W1 => ∃ gc ge, e = .returned (.pointer (some ⟨gc, 0, none⟩)) ∧ S1 w0 bx gc ge (List.replicate sz.toNat eZ) 0 0 W1 := by
  obtain ⟨n, rfl⟩ : ∃ n : Nat, sz = n := ⟨sz.toNat, by omega⟩
  refine (ca_New n W (by omega) (by omega)).mono ?_
  rintro e W1 ⟨rfl, k, hb⟩
  exact ⟨_, _, rfl, F.more [W.heap.size + 1, W.heap.size] (by simp) hb, k⟩
section
variable {w0 : World} {bx : List (Nat × Obj)} {gc ge : Nat} {l : List En} {hits misses : Int} {W : World}
theorem s1_Find (c s : Int) (A : Option Addr) (cp : Nat) (h : Hp) (hbits : bitsOk h.objs) (hl : h.objs.length ≤ cp) (hr : kOb.C w0 A h.objs.length h.objs) (hn : 0 < l.length) (hm : l.length ≤ 64) (k : S1 w0 bx gc ge l hits misses W) (hh : 0 ≤ hits ∧ hits ≤ 1000000) (hh' : 0 ≤ misses ∧ misses ≤ 1000000) :
    Calls Try.prog 25 #[.pointer (some ⟨gc, 0, none⟩), .agg #[.slice A h.objs.length cp, .int .i64 h.cap, .int .i64 h.last], .int .i64 c, .int .i64 s] W fun e W1 =>
      e = .returned (.tuple #[.int .i64 (resF h c s l).1, .int .i64 (resF h c s l).2.1, .int .i64 (resF h c s l).2.2]) ∧ S1 w0 bx gc ge (entF h c s l) (hitF c s l hits) (misF c s l misses) W1 :=
  (ca_Find W A cp h c s hbits hl (k.rows hr) hn hm k.ca hh hh').mono fun e W1 ⟨h1, h2, h3⟩ => ⟨h1, k.keep h2 h3⟩
theorem s1_Hits (k : S1 w0 bx gc ge l hits misses W) :
    Calls Try.prog 27 #[.pointer (some ⟨gc, 0, none⟩)] W fun e W1 => e = .returned (.tuple #[.int .i64 hits, .int .i64 misses]) ∧ S1 w0 bx gc ge l hits misses W1 :=
  (ca_Hits W k.ca).mono fun e W1 ⟨h1, h2⟩ => ⟨h1, k.later h2⟩
theorem s1_Flush (hn : 0 < l.length) (k : S1 w0 bx gc ge l hits misses W) :
    Calls Try.prog 23 #[.pointer (some ⟨gc, 0, none⟩)] W fun e W1 => e = .returned (.tuple #[]) ∧ S1 w0 bx gc ge (List.replicate l.length eZ) hits misses W1 :=
  (ca_Flush W hn k.ca).mono fun e W1 ⟨h1, h2, h3⟩ => ⟨h1, k.keep h2 h3⟩
end
theorem frm_first2 {w W1 : World} {o1 o2 : Obj} (hb : Below w.heap.size w W1) (h1 : W1.heap[w.heap.size]? = some o1) (h2 : W1.heap[w.heap.size + 1]? = some o2) : Frm w [] [(w.heap.size, o1), (w.heap.size + 1, o2)] W1 := by
  refine ⟨hb, (fun k h => by cases h), fun b h => ⟨?_, (fun h => by cases h)⟩⟩
  rcases List.mem_cons.1 h with rfl | h
  · exact h1
  · rcases List.mem_cons.1 h with rfl | h
    · exact h2
    · cases h
theorem frm_first3 {w W1 : World} {o1 o2 o3 : Obj} (hb : Below w.heap.size w W1) (h1 : W1.heap[w.heap.size]? = some o1) (h2 : W1.heap[w.heap.size + 1]? = some o2) (h3 : W1.heap[w.heap.size + 2]? = some o3) : Frm w [] [(w.heap.size, o1), (w.heap.size + 1, o2), (w.heap.size + 2, o3)] W1 := by
  refine ⟨hb, (fun k h => by cases h), fun b h => ⟨?_, (fun h => by cases h)⟩⟩
  rcases List.mem_cons.1 h with rfl | h
  · exact h1
  · rcases List.mem_cons.1 h with rfl | h
    · exact h2
    · rcases List.mem_cons.1 h with rfl | h
      · exact h3
      · cases h
end Go.Proofs.Ytgdobomofdenfaa.Lk
