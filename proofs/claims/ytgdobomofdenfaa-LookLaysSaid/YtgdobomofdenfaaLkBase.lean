/- The walk's base: how objects read, and small words. Plain theorems. -/
import Derived.Test.YtgdobomofdenfaaProg
import Derived.Test.YtgdobomofdenfaaWWords
import Derived.WalkKit
import Derived.WalkLawsBesides
import Derived.WalkSpells
import Derived.Lib.Hide
import Derived.Outline
import Derived.Deep.QuietTactic
import Derived.BigQuiet
import Derived.Deep.LoopGhost
import Derived.LoopTactic
namespace Go.Proofs.Ytgdobomofdenfaa.Lk
open Go.RowKit Go.Proofs.YtgdobomofdenfaaW.PrintWords
set_option linter.unusedVariables false
set_option linter.unusedSimpArgs false

/-- An object. -/
structure Ob where
  cls : Int
  kind : Int
  slots : List Int
  text : ByteArray
  bits : Int
  hash : Int
def z0 : Ob := ⟨0, 0, [], ⟨#[]⟩, 0, 0⟩
def kOb : Kd Ob := Kd.iso (Kd.pair (Kd.int .i64) (Kd.pair (Kd.int .i64) (Kd.pair (Kd.slice 3 (Kd.int .i64)) (Kd.pair Kd.string (Kd.pair (Kd.int .i64) (Kd.int .i64)))))) (fun x : Ob => (x.cls, x.kind, x.slots, x.text, x.bits, x.hash))
theorem kOb_open {w : World} {x : Ob} {cs : List Value} (h : kOb.K w x cs) : ∃ A2 c2, cs = [.int .i64 x.cls, .int .i64 x.kind, .slice A2 x.slots.length c2, .string x.text, .int .i64 x.bits, .int .i64 x.hash] ∧ x.slots.length ≤ c2 ∧ (Kd.int .i64).C w A2 x.slots.length x.slots := by
  obtain ⟨_, _, rfl, rfl, ⟨_, _, rfl, rfl, ⟨_, _, rfl, ⟨A2, c2, rfl, l2, g2⟩, ⟨_, _, rfl, rfl, ⟨_, _, rfl, rfl, rfl⟩⟩⟩⟩⟩ := h
  exact ⟨A2, c2, rfl, l2, g2⟩
theorem kOb_mk (w : World) (x : Ob) {A2 : Option Addr} {c2 : Nat} (l2 : x.slots.length ≤ c2) (g2 : (Kd.int .i64).C w A2 x.slots.length x.slots) : kOb.K w x [.int .i64 x.cls, .int .i64 x.kind, .slice A2 x.slots.length c2, .string x.text, .int .i64 x.bits, .int .i64 x.hash] := ⟨[.int .i64 x.cls], [.int .i64 x.kind, .slice A2 x.slots.length c2, .string x.text, .int .i64 x.bits, .int .i64 x.hash], rfl, rfl, ⟨[.int .i64 x.kind], [.slice A2 x.slots.length c2, .string x.text, .int .i64 x.bits, .int .i64 x.hash], rfl, rfl, ⟨[.slice A2 x.slots.length c2], [.string x.text, .int .i64 x.bits, .int .i64 x.hash], rfl, ⟨A2, c2, rfl, l2, g2⟩, ⟨[.string x.text], [.int .i64 x.bits, .int .i64 x.hash], rfl, rfl, ⟨[.int .i64 x.bits], [.int .i64 x.hash], rfl, rfl, rfl⟩⟩⟩⟩⟩

/-- The object at a place, by a natural number. -/
def ob (l : List Ob) (i : Nat) : Ob := l.getD i z0

/-- The cells of the object at a place. -/
structure ObAt (w : World) (p : Addr) (x : Ob) (A : Option Addr) (c : Nat) : Prop where
  c0 : w.cell? p = some (.int .i64 x.cls)
  c1 : w.cell? ⟨p.block, p.off + 1, none⟩ = some (.int .i64 x.kind)
  c2 : w.cell? ⟨p.block, p.off + 2, none⟩ = some (.slice A x.slots.length c)
  c3 : w.cell? ⟨p.block, p.off + 3, none⟩ = some (.string x.text)
  c4 : w.cell? ⟨p.block, p.off + 4, none⟩ = some (.int .i64 x.bits)
  c5 : w.cell? ⟨p.block, p.off + 5, none⟩ = some (.int .i64 x.hash)
  le : x.slots.length ≤ c
  rd : (Kd.int .i64).C w A x.slots.length x.slots
theorem ObAt.below {w w1 : World} {p : Addr} {x : Ob} {A : Option Addr} {c : Nat} (h : ObAt w p x A c) (hb : Below w.heap.size w w1) : ObAt w1 p x A c :=
  ⟨pw_cell_below hb h.c0, pw_cell_below hb h.c1, pw_cell_below hb h.c2, pw_cell_below hb h.c3, pw_cell_below hb h.c4, pw_cell_below hb h.c5, h.le, Kd.C_below h.rd hb⟩
theorem obs_at {w : World} {A : Option Addr} {n : Nat} {l : List Ob} (h : kOb.C w A n l) (i : Nat) (hi : i < n) : ∃ ad A2 c2, A = some ad ∧ ObAt w (ad.add (i * 6)) (ob l i) A2 c2 := by
  obtain ⟨ad, c, e, _, hK, hc0⟩ := Kd.C_get h z0 (i : Int) (by omega) (by omega)
  have hc : ∀ j u, c[j]? = some u → w.cell? (ad.add (i * 6 + j)) = some u := hc0
  obtain ⟨A2, c2, rfl, l2, g2⟩ := kOb_open hK
  exact ⟨ad, A2, c2, e, hc 0 _ rfl, by rw [← add_field _ _ 1 (by omega)]; exact hc 1 _ rfl, by rw [← add_field _ _ 2 (by omega)]; exact hc 2 _ rfl, by rw [← add_field _ _ 3 (by omega)]; exact hc 3 _ rfl, by rw [← add_field _ _ 4 (by omega)]; exact hc 4 _ rfl, by rw [← add_field _ _ 5 (by omega)]; exact hc 5 _ rfl, l2, g2⟩
/-- A number of a slice of numbers, by a natural number. -/
theorem ints_at {w : World} {A : Option Addr} {n : Nat} {xs : List Int} (h : (Kd.int .i64).C w A n xs) (i : Nat) (hi : i < n) : ∃ ad, A = some ad ∧ w.cell? (ad.add i) = some (.int .i64 (xs.getD i 0)) := by
  obtain ⟨ad, e, hc⟩ := Kd.at_int h (i : Int) (by omega) (by omega)
  exact ⟨ad, e, by simpa [rd] using hc⟩

/-- A heap, by its cells. -/
structure Hp where
  objs : List Ob
  cap : Int
  last : Int
/-- A value reads as a heap. -/
def RHp (w : World) (v : Value) (h : Hp) : Prop := ∃ A c, v = .agg #[.slice A h.objs.length c, .int .i64 h.cap, .int .i64 h.last] ∧ h.objs.length ≤ c ∧ kOb.C w A h.objs.length h.objs
theorem RHp.below {w w1 : World} {v : Value} {h : Hp} (hr : RHp w v h) (hb : Below w.heap.size w w1) : RHp w1 v h := by
  obtain ⟨A, c, e, hl, hC⟩ := hr
  exact ⟨A, c, e, hl, Kd.C_below hC hb⟩

theorem below_alloc' {B : Nat} {w W : World} (h : Below B w W) (hB : B ≤ W.heap.size) (o : Obj) : Below B w (W.alloc o) := h.alloc hB o
theorem bcell {W w1 : World} (hb : Below W.heap.size W w1) : (∀ b o, b < W.heap.size → w1.cell? ⟨b, o, none⟩ = W.cell? ⟨b, o, none⟩) ∧ (∀ b o, b < W.heap.size → w1.frozen? ⟨b, o, none⟩ = W.frozen? ⟨b, o, none⟩) :=
  ⟨fun b o h => hb.cell (p := ⟨b, o, none⟩) h, fun b o h => hb.frozen (p := ⟨b, o, none⟩) h⟩

/-! Regions that draw their order, whose calls make memory: one walk in the text's order, in whatever world lies beyond. -/
structure Ext (w : World) where
  val : World
  below : Below w.heap.size w val
def Ext.here (w : World) : Ext w := ⟨w, Below.refl _ w⟩
instance (w : World) : Nonempty (Ext w) := ⟨Ext.here w⟩
theorem wp_region_ext {P : Program} {id : Nat} {Q : Exit → Act → World → Prop} {a : Act} {w : World} {l : List Oper} (hm : P.follows .mixedOrders = true) (hB : Region.lexB .any l.toArray = true)
    (h : wpQuiet P l.toArray (fun w' => ∃ x : Ext w, w' = x.val) (fun a' => ∀ w', (∃ x : Ext w, w' = x.val) → Q .normal a' w') l a) : (Code.region id l.toArray true).wp P Q a w :=
  wp_region_quiet (C := fun w' => ∃ x : Ext w, w' = x.val) hm hB ⟨⟨_, (Below.refl _ w).drew⟩, rfl⟩ (by simpa using h)
theorem calls_ext {P : Program} {f : FuncId} {args : Array Value} {w : World} {x : Ext w} {v : Value}
    (h : Calls P f args x.val fun e w' => e = .returned v ∧ Below x.val.heap.size x.val w') : Calls P f args x.val fun e w'' => e = .returned v ∧ ∃ y : Ext w, w'' = y.val :=
  h.mono fun _ w' ⟨he, hb⟩ => ⟨he, ⟨w', x.below.trans (hb.mono x.below.size)⟩, rfl⟩
theorem calls_ext_same {P : Program} {f : FuncId} {args : Array Value} {w : World} {x : Ext w} {v : Value}
    (h : Calls P f args x.val fun e w' => e = .returned v ∧ x.val = w') : Calls P f args x.val fun e w'' => e = .returned v ∧ ∃ y : Ext w, w'' = y.val :=
  h.mono fun _ w' ⟨he, hb⟩ => ⟨he, x, hb.symm⟩
/-- A cell, in whatever world lies beyond. -/
theorem Ext.cell {w : World} {p : Addr} {v : Value} (h : w.cell? p = some v) (x : Ext w) : x.val.cell? p = some v := pw_cell_below x.below h
theorem below_up {B : Nat} {w W W1 : World} (h : Below B w W) (hB : B ≤ W.heap.size) (k : Below W.heap.size W W1) : Below B w W1 := h.trans (k.mono hB)
theorem box1 (w : World) (o1 : Obj) : Below w.heap.size w (w.alloc o1) ∧ (w.alloc o1).heap[w.heap.size]? = some o1 ∧ (w.alloc o1).heap.size = w.heap.size + 1 :=
  ⟨(Below.refl _ _).alloc (Nat.le_refl _) _, heap_alloc_new w o1, by simp⟩
theorem box2 (w : World) (o1 o2 : Obj) : Below w.heap.size w ((w.alloc o1).alloc o2) ∧ ((w.alloc o1).alloc o2).heap[w.heap.size]? = some o1 ∧ ((w.alloc o1).alloc o2).heap[w.heap.size + 1]? = some o2 ∧ ((w.alloc o1).alloc o2).heap.size = w.heap.size + 2 := by
  refine ⟨((Below.refl _ _).alloc (Nat.le_refl _) _).alloc (by simp) _, ?_, ?_, by simp⟩
  · rw [Below.heap_alloc _ _ _ (by simp)]; exact heap_alloc_new w o1
  · have := heap_alloc_new (w.alloc o1) o2; rwa [World.size_alloc] at this
/-- What was laid, behind a letter for the world. -/
theorem wp_box1 {P : Program} {c : Code} {Q : Exit → Act → World → Prop} {a : Act} {w : World} {o1 : Obj}
    (h : ∀ W1, Below w.heap.size w W1 → W1.heap[w.heap.size]? = some o1 → W1.heap.size = w.heap.size + 1 → c.wp P Q a W1) : c.wp P Q a (w.alloc o1) :=
  h _ (box1 w o1).1 (box1 w o1).2.1 (box1 w o1).2.2
theorem wp_box2 {P : Program} {c : Code} {Q : Exit → Act → World → Prop} {a : Act} {w : World} {o1 o2 : Obj}
    (h : ∀ W1, Below w.heap.size w W1 → W1.heap[w.heap.size]? = some o1 → W1.heap[w.heap.size + 1]? = some o2 → W1.heap.size = w.heap.size + 2 → c.wp P Q a W1) : c.wp P Q a ((w.alloc o1).alloc o2) :=
  h _ (box2 w o1 o2).1 (box2 w o1 o2).2.1 (box2 w o1 o2).2.2.1 (box2 w o1 o2).2.2.2
theorem cellof {W : World} {g : Nat} {cs : Array Value} {t : TypeId} (h : W.heap[g]? = some (.cells cs t (0, 0))) (i : Nat) : W.cell? ⟨g, i, none⟩ = cs[i]? := blk_cell h i
/-- A box of three cells, in a world beyond. -/
theorem hbox3 {w w' : World} {v0 v1 v2 : Value} {t : TypeId} (hb : Below (w.alloc (.cells #[v0, v1, v2] t)).heap.size (w.alloc (.cells #[v0, v1, v2] t)) w') :
    w'.cell? ⟨w.heap.size, 0, none⟩ = some v0 ∧ w'.cell? ⟨w.heap.size, 1, none⟩ = some v1 ∧ w'.cell? ⟨w.heap.size, 2, none⟩ = some v2 :=
  ⟨pw_cell_below hb (cellof (box1 w _).2.1 0), pw_cell_below hb (cellof (box1 w _).2.1 1), pw_cell_below hb (cellof (box1 w _).2.1 2)⟩
end Go.Proofs.Ytgdobomofdenfaa.Lk
