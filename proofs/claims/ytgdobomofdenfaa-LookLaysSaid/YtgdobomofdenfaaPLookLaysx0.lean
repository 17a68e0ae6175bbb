-- PRINTED BY print.sh 35421559b90ae4d0a3588c463048766b98c2df88dd9212a6774a882060cdf62d: not written by this session
import Derived.Test.YtgdobomofdenfaaProg
import Derived.Below
import Derived.Deep.Draws
import Derived.Deep.AppendLies
import Derived.Maps.AppendAt
import Derived.OwnWalk
import Derived.Laws.BytesArg
import Derived.Laws.MakeOwn
import Derived.Laws.OwnMore
import Derived.Deep.OwnRows
import Derived.Tactics
import Derived.Lib.ConvBytes
import Derived.Laws.Slices
import Derived.WalkKit
import Derived.KernelRfl
import Derived.RowKit3
import Derived.Deep.LoopGhost
import Derived.Deep.QuietTactic
import Derived.BigQuiet
import Derived.WideLaws
import Derived.Deep.DeepCutAuto
import Derived.Deep.CutBlock
import Derived.Deep.RegionHeld3
import Derived.Laws.Rows
import Derived.Lib.AppendStr
import Derived.ArgAppend
import Derived.Laws.IdiomCopy
import Derived.OrdersHeld
import Derived.Laws.BitsLemmas
import Derived.RowKit
import Derived.Test.YtgdobomofdenfaaWWords
import Derived.Test.YtgdobomofdenfaaWLast
import Derived.Test.YtgdobomofdenfaaWTab
import Derived.Test.YtgdobomofdenfaaWFour
import Derived.Test.YtgdobomofdenfaaWQPut
import Derived.Test.YtgdobomofdenfaaWApart
import Derived.Test.YtgdobomofdenfaaWArr
import Derived.Test.YtgdobomofdenfaaWZeros
import Derived.Test.YtgdobomofdenfaaWFoot
import Derived.Test.YtgdobomofdenfaaWKept
import Derived.Test.YtgdobomofdenfaaWShare
import Derived.Test.YtgdobomofdenfaaWN
import Derived.Test.YtgdobomofdenfaaWFootNe
import Derived.Test.YtgdobomofdenfaaWAt
import Derived.Test.YtgdobomofdenfaaWEqStruct
import Derived.Test.YtgdobomofdenfaaWRepsOne
import Derived.Test.YtgdobomofdenfaaWInv
import Derived.Test.YtgdobomofdenfaaWInvWords
import Derived.Test.YtgdobomofdenfaaWGuard
import Derived.Test.YtgdobomofdenfaaWNEv
import Derived.Test.YtgdobomofdenfaaWMore
namespace Go.Proofs.Ytgdobomofdenfaa.PLookLays
open Go.RowKit Go.Proofs.YtgdobomofdenfaaW.PrintWords Go.Proofs.YtgdobomofdenfaaW.PrintLast Go.Proofs.YtgdobomofdenfaaW.PrintMore
attribute [local go_sem] max2_int min2_int max_two min_two max_three min_three max_four min_four   -- for this text's walks alone
set_option linter.unusedVariables false
set_option linter.unusedSimpArgs false



def errW : Option Int → Value
  | none => .nilIface
  | some c => .iface 0 (.int .i64 c)
theorem errW_none : errW none = .nilIface := rfl
theorem errW_some (c : Int) : errW (some c) = .iface 0 (.int .i64 c) := rfl

theorem info3 : (Try.prog.info? 3).map (fun i => (i.zero, i.size, i.bytes)) = some (some (.int .i64 0), 1, 8) := by kernel_rfl
theorem info34 : (Try.prog.info? 34).map (fun i => (i.zero, i.size, i.bytes)) = some (some (.agg #[(.int .i64 0), (.int .i64 0), (.slice none 0 0), (.string ⟨#[]⟩), (.int .i64 0), (.int .i64 0)]), 6, 72) := by kernel_rfl
-- the values' own types
def rd_L1 (xs : List (List Int)) (i : Int) : (List Int) := xs.getD i.toNat ([] : List Int)
theorem at_L1 {w : World} {A : Option Addr} {n : Nat} {xs : List (List Int)} (h : Kd.C (Kd.slice 3 (Kd.int .i64)) w A n xs) (i : Int) (h0 : 0 ≤ i) (h1 : i < n) : ∃ ad A0 c0, A = some ad ∧ w.cell? (ad.add i.toNat) = some (.slice A0 (rd_L1 xs i).length c0) ∧ (rd_L1 xs i).length ≤ c0 ∧ (Kd.int .i64).C w A0 (rd_L1 xs i).length (rd_L1 xs i) := by
  obtain ⟨ad, c, e, _, hK, hc0⟩ := Kd.C_get h ([] : List Int) i h0 h1
  have hc : ∀ j u, c[j]? = some u → w.cell? (ad.add (i.toNat * 1 + j)) = some u := hc0
  obtain ⟨A0, c0, rfl, l0, g0⟩ := hK
  exact ⟨ad, A0, c0, e, by have hq := hc 0 _ rfl; rwa [Nat.mul_one, Nat.add_zero] at hq, l0, g0⟩

/-! #### struct type 34 -/
structure S34 where
  f0 : Int
  f1 : Int
  f2 : (List Int)
  f3 : ByteArray
  f4 : Int
  f5 : Int
def z34 : S34 := ⟨(0 : Int), (0 : Int), ([] : List Int), (⟨#[]⟩ : ByteArray), (0 : Int), (0 : Int)⟩
def k34 : Kd S34 := Kd.iso (Kd.pair (Kd.int .i64) (Kd.pair (Kd.int .i64) (Kd.pair (Kd.slice 3 (Kd.int .i64)) (Kd.pair Kd.string (Kd.pair (Kd.int .i64) (Kd.int .i64)))))) (fun x : S34 => (x.f0, x.f1, x.f2, x.f3, x.f4, x.f5))
theorem k34_heap : Kd.Heap k34 := Kd.heap_iso _ (Kd.heap_pair (Kd.heap_int .i64) (Kd.heap_pair (Kd.heap_int .i64) (Kd.heap_pair (Kd.heap_slice 3 (Kd.heap_int .i64)) (Kd.heap_pair Kd.heap_string (Kd.heap_pair (Kd.heap_int .i64) (Kd.heap_int .i64))))))
theorem k34_open {w : World} {x : S34} {cs : List Value} (h : k34.K w x cs) : ∃ A2 c2, cs = [.int .i64 x.f0, .int .i64 x.f1, .slice A2 x.f2.length c2, .string x.f3, .int .i64 x.f4, .int .i64 x.f5] ∧ x.f2.length ≤ c2 ∧ (Kd.int .i64).C w A2 x.f2.length x.f2 := by
  obtain ⟨_, _, rfl, rfl, ⟨_, _, rfl, rfl, ⟨_, _, rfl, ⟨A2, c2, rfl, l2, g2⟩, ⟨_, _, rfl, rfl, ⟨_, _, rfl, rfl, rfl⟩⟩⟩⟩⟩ := h
  exact ⟨A2, c2, rfl, l2, g2⟩
theorem k34_openM {w : World} {base : Nat} {ok : Nat → Prop} {x : S34} {cs : List Value} (h : k34.M w base ok x cs) : ∃ v2, cs = [.int .i64 x.f0, .int .i64 x.f1, v2, .string x.f3, .int .i64 x.f4, .int .i64 x.f5] ∧ (Kd.int .i64).R 3 w base ok v2 x.f2 := by
  obtain ⟨_, _, rfl, rfl, ⟨_, _, rfl, rfl, ⟨_, _, rfl, ⟨v2, rfl, g2⟩, ⟨_, _, rfl, rfl, ⟨_, _, rfl, rfl, rfl⟩⟩⟩⟩⟩ := h
  exact ⟨v2, rfl, g2⟩
theorem k34_mk (w : World) (x : S34) {A2 : Option Addr} {c2 : Nat} (l2 : x.f2.length ≤ c2) (g2 : (Kd.int .i64).C w A2 x.f2.length x.f2) : k34.K w x [.int .i64 x.f0, .int .i64 x.f1, .slice A2 x.f2.length c2, .string x.f3, .int .i64 x.f4, .int .i64 x.f5] := ⟨[.int .i64 x.f0], [.int .i64 x.f1, .slice A2 x.f2.length c2, .string x.f3, .int .i64 x.f4, .int .i64 x.f5], rfl, rfl, ⟨[.int .i64 x.f1], [.slice A2 x.f2.length c2, .string x.f3, .int .i64 x.f4, .int .i64 x.f5], rfl, rfl, ⟨[.slice A2 x.f2.length c2], [.string x.f3, .int .i64 x.f4, .int .i64 x.f5], rfl, ⟨A2, c2, rfl, l2, g2⟩, ⟨[.string x.f3], [.int .i64 x.f4, .int .i64 x.f5], rfl, rfl, ⟨[.int .i64 x.f4], [.int .i64 x.f5], rfl, rfl, rfl⟩⟩⟩⟩⟩
theorem k34_mkM (w : World) (base : Nat) (ok : Nat → Prop) (x : S34) {v2 : Value} (g2 : (Kd.int .i64).R 3 w base ok v2 x.f2) : k34.M w base ok x [.int .i64 x.f0, .int .i64 x.f1, v2, .string x.f3, .int .i64 x.f4, .int .i64 x.f5] := ⟨[.int .i64 x.f0], [.int .i64 x.f1, v2, .string x.f3, .int .i64 x.f4, .int .i64 x.f5], rfl, rfl, ⟨[.int .i64 x.f1], [v2, .string x.f3, .int .i64 x.f4, .int .i64 x.f5], rfl, rfl, ⟨[v2], [.string x.f3, .int .i64 x.f4, .int .i64 x.f5], rfl, ⟨v2, rfl, g2⟩, ⟨[.string x.f3], [.int .i64 x.f4, .int .i64 x.f5], rfl, rfl, ⟨[.int .i64 x.f4], [.int .i64 x.f5], rfl, rfl, rfl⟩⟩⟩⟩⟩
theorem k34_openF {W : World} {ok : Nat → Prop} {x : S34} {cs : List Value} (h : Kd.FK k34 W ok x cs) : ∃ A2 c2, cs = [.int .i64 x.f0, .int .i64 x.f1, .slice A2 x.f2.length c2, .string x.f3, .int .i64 x.f4, .int .i64 x.f5] ∧ x.f2.length ≤ c2 ∧ Kd.F (Kd.int .i64) W ok A2 x.f2.length x.f2 := by
  obtain ⟨A2, c2, rfl, l2, _⟩ := k34_open (Kd.FK_now h)
  exact ⟨A2, c2, rfl, l2, (fun W' hW => by obtain ⟨A2_, c2_, he, l2_, g2_⟩ := k34_open (h W' hW); injection (Option.some.inj (show some (Value.slice A2 x.f2.length c2) = some (Value.slice A2_ x.f2.length c2_) from congrArg (fun l => l[2]?) he)) with ha_ _ _; rw [ha_]; exact g2_)⟩
theorem k34_mkF (W : World) (ok : Nat → Prop) (x : S34) {A2 : Option Addr} {c2 : Nat} (l2 : x.f2.length ≤ c2) (g2 : Kd.F (Kd.int .i64) W ok A2 x.f2.length x.f2) : Kd.FK k34 W ok x [.int .i64 x.f0, .int .i64 x.f1, .slice A2 x.f2.length c2, .string x.f3, .int .i64 x.f4, .int .i64 x.f5] := fun W2 hW => k34_mk W2 x l2 (g2 W2 hW)
def rd_T34 (xs : List S34) (i : Int) : S34 := xs.getD i.toNat z34
theorem at_T34 {w : World} {A : Option Addr} {n : Nat} {xs : List S34} (h : Kd.C k34 w A n xs) (i : Int) (h0 : 0 ≤ i) (h1 : i < n) : ∃ ad A2 c2, A = some ad ∧ w.cell? (ad.add (i.toNat * 6)) = some (.int .i64 (rd_T34 xs i).f0) ∧ w.cell? ⟨(ad.add (i.toNat * 6)).block, (ad.add (i.toNat * 6)).off + 1, none⟩ = some (.int .i64 (rd_T34 xs i).f1) ∧ w.cell? ⟨(ad.add (i.toNat * 6)).block, (ad.add (i.toNat * 6)).off + 2, none⟩ = some (.slice A2 (rd_T34 xs i).f2.length c2) ∧ w.cell? ⟨(ad.add (i.toNat * 6)).block, (ad.add (i.toNat * 6)).off + 3, none⟩ = some (.string (rd_T34 xs i).f3) ∧ w.cell? ⟨(ad.add (i.toNat * 6)).block, (ad.add (i.toNat * 6)).off + 4, none⟩ = some (.int .i64 (rd_T34 xs i).f4) ∧ w.cell? ⟨(ad.add (i.toNat * 6)).block, (ad.add (i.toNat * 6)).off + 5, none⟩ = some (.int .i64 (rd_T34 xs i).f5) ∧ (rd_T34 xs i).f2.length ≤ c2 ∧ (Kd.int .i64).C w A2 (rd_T34 xs i).f2.length (rd_T34 xs i).f2 := by
  obtain ⟨ad, c, e, _, hK, hc0⟩ := Kd.C_get h z34 i h0 h1
  have hc : ∀ j u, c[j]? = some u → w.cell? (ad.add (i.toNat * 6 + j)) = some u := hc0
  obtain ⟨A2, c2, rfl, l2, g2⟩ := k34_open hK
  exact ⟨ad, A2, c2, e, hc 0 _ rfl, by rw [← add_field _ _ 1 (by omega)]; exact hc 1 _ rfl, by rw [← add_field _ _ 2 (by omega)]; exact hc 2 _ rfl, by rw [← add_field _ _ 3 (by omega)]; exact hc 3 _ rfl, by rw [← add_field _ _ 4 (by omega)]; exact hc 4 _ rfl, by rw [← add_field _ _ 5 (by omega)]; exact hc 5 _ rfl, l2, g2⟩

end Go.Proofs.Ytgdobomofdenfaa.PLookLays
