/- The document's copy of a heap: its contract. -/
import Derived.Test.YtgdobomofdenfaaLkLaysM
namespace Go.Proofs.Ytgdobomofdenfaa.Lk
open Go.RowKit Go.Proofs.YtgdobomofdenfaaW.PrintWords Go.Shelf PLookLays
set_option linter.unusedVariables false
set_option linter.unusedSimpArgs false

def toS (o : Ob) : S34 := ⟨o.cls, o.kind, o.slots, o.text, o.bits, o.hash⟩
theorem toS_K {w : World} {o : Ob} {cs : List Value} : k34.K w (toS o) cs ↔ kOb.K w o cs := Iff.rfl
theorem toS_C {w : World} {A : Option Addr} {n : Nat} {l : List Ob} (h : kOb.C w A n l) : k34.C w A n (l.map toS) := by
  obtain ⟨h1, h2, h3⟩ := h
  refine ⟨by rw [List.length_map]; exact h1, h2, fun hn => ?_⟩
  obtain ⟨ad, e, hc⟩ := h3 hn
  refine ⟨ad, e, fun j p hj => ?_⟩
  rw [List.getElem?_map, Option.map_eq_some_iff] at hj
  obtain ⟨o, ho, rfl⟩ := hj
  exact hc j o ho
theorem copy_l0 (l : List S34) (a b c d : Int) (h64 : ∀ x ∈ l, x.f2.length ≤ 64) (hn : l.length ≤ 1000) : ∀ (m i k : Nat) (acc : List S34), l.length - i = m → m < k → acc.length = i → i ≤ l.length → anamnesisref03_Copy.l0 k i l a b acc c d = some (acc ++ l.drop i, c, d)
  | 0, i, k, acc, hm, hk, ha, hi => by
    obtain ⟨k, rfl⟩ : ∃ m, k = m + 1 := ⟨k - 1, by omega⟩
    simp only [anamnesisref03_Copy.l0]
    rw [if_neg (by omega), List.drop_of_length_le (by omega), List.append_nil]
  | m + 1, i, k, acc, hm, hk, ha, hi => by
    obtain ⟨k, rfl⟩ : ∃ m, k = m + 1 := ⟨k - 1, by omega⟩
    have hlt : i < l.length := by omega
    have hx := h64 _ (List.getElem_mem hlt)
    have hrd : rd_T34 l (i : Int) = l[i] := by
      unfold rd_T34
      rw [Int.toNat_natCast, List.getD_eq_getElem?_getD, List.getElem?_eq_getElem hlt]
      rfl
    simp only [anamnesisref03_Copy.l0]
    rw [if_pos (by omega), if_pos (by omega), Option.bind_some, hrd, if_pos (by simp only [List.length_nil]; omega), if_pos (by omega)]
    have hw : wrap64 ((i : Int) + 1) = ((i + 1 : Nat) : Int) := by unfold wrap64; omega
    rw [hw, copy_l0 l a b c d h64 hn m (i + 1) k _ (by omega) (by omega) (by simp [ha]) (by omega), List.append_assoc, List.drop_eq_getElem_cons hlt]
    rfl
theorem ob_lens {h : Hp} (hm : mayB h = true) : ∀ x ∈ h.objs.map toS, x.f2.length ≤ 64 := by
  intro x hx
  obtain ⟨o, ho, rfl⟩ := List.mem_map.1 hx
  obtain ⟨j, hj, rfl⟩ := List.getElem_of_mem ho
  have := obj_slots (may_obj hm j hj)
  unfold ob at this
  rw [List.getD_eq_getElem?_getD, List.getElem?_eq_getElem hj] at this
  exact this
theorem r3_Copy (A : Option Addr) (cp : Nat) (h : Hp) (w : World) (hm : mayB h = true) (hn : h.objs.length ≤ 1000) (h0 : 0 < h.objs.length) (hl : h.objs.length ≤ cp) (hr : kOb.C w A h.objs.length h.objs) :
    Calls Try.prog 19 #[.agg #[.slice A h.objs.length cp, .int .i64 h.cap, .int .i64 h.last]] w fun e w' => ∃ B cap, e = .returned (.agg #[.slice (some ⟨B, 0, none⟩) h.objs.length cap, .int .i64 h.cap, .int .i64 h.last]) ∧ OwnH B cap h.objs w' ∧ w.heap.size ≤ B ∧ Below w.heap.size w w' := by
  have hlen : (h.objs.map toS).length = h.objs.length := List.length_map ..
  have hf : anamnesisref03_Copy.f (h.objs.length + 1) (h.objs.map toS) h.cap h.last = some (h.objs.map toS, h.cap, h.last) := by
    unfold anamnesisref03_Copy.f
    have := copy_l0 (h.objs.map toS) h.cap h.last h.cap h.last (ob_lens hm) (by omega) h.objs.length 0 (h.objs.length + 1) [] (by omega) (by omega) rfl (by omega)
    simpa using this
  have hcall := anamnesisref03_Copy.calls (h.objs.length + 1) A cp (h.objs.map toS) h.cap h.last _ _ _ w (by rw [hlen]; exact toS_C hr) (by omega) hf
  rw [hlen] at hcall
  refine hcall.mono ?_
  rintro e w' ⟨v, rfl, hS, hb⟩
  obtain ⟨g, cap, rfl, hg, hgl, _⟩ := Kd.S_form hS (by omega)
  rw [hlen] at hS ⊢
  obtain ⟨_, inner, ho, hreps⟩ := Kd.S_R hS
  rw [hlen] at ho
  rcases ho.2 with ⟨e1, _⟩ | ⟨g', cap', cur, e1, _, hcur, hle, _, _, htake⟩
  · cases e1
  · injection e1 with e1 _ e2
    injection e1 with e1
    injection e1 with e1
    subst e1
    subst e2
    refine ⟨g, cap, rfl, ⟨⟨cur, fun j => (inner.drop (j * 6)).take 6, hcur, fun j hj => ?_⟩, hle, by omega⟩, hg, hb⟩
    have hoj : (h.objs.map toS)[j]? = some (toS (ob h.objs j)) := by
      rw [List.getElem?_map, List.getElem?_eq_getElem hj]
      unfold ob
      rw [List.getD_eq_getElem?_getD, List.getElem?_eq_getElem hj]
      rfl
    have hM := hreps.2 j _ hoj
    refine ⟨?_, fun q u hu => ?_, fun W' hW => ?_⟩
    · have := ho.1
      have hsz : k34.sz = 6 := rfl
      rw [hsz] at this
      rw [List.length_take, List.length_drop]
      omega
    · have h6 : q < 6 := by have := (List.getElem?_eq_some_iff.1 hu).1; rw [List.length_take] at this; omega
      rw [List.getElem?_take, if_pos h6, List.getElem?_drop, ← htake, List.getElem?_take] at hu
      split at hu
      · simpa using hu
      · cases hu
    · exact toS_K.1 (k34.K_of_M (Kd.M_step hM (fun k hk hlt => hW k (fun e => hk.2 (by rw [e]; rfl)) hlt)))
end Go.Proofs.Ytgdobomofdenfaa.Lk
