/- The document's cache: made, flushed, asked. -/
import Derived.Test.YtgdobomofdenfaaLkCaF
namespace Go.Proofs.Ytgdobomofdenfaa.Lk
open Go.RowKit Go.Proofs.YtgdobomofdenfaaW.PrintWords Go.Shelf
set_option linter.unusedVariables false
set_option linter.unusedSimpArgs false

theorem place_mod' (n : Nat) (c s : Int) (hn : 0 < n) : ((keyI c s).tmod n + n) % n = placeI n c s := by
  have := tmod_bd (keyI c s) n hn
  unfold placeI
  generalize (keyI c s).tmod n = x at *
  split
  · rw [Int.emod_eq_of_lt (by omega) (by omega)]
  · rw [Int.add_emod_right, Int.emod_eq_of_lt (by omega) (by omega)]
theorem place_mod (n : Nat) (c s : Int) (hn : 0 < n) : ((keyI c s).tmod n + n).tmod n = placeI n c s := by
  have := tmod_bd (keyI c s) n hn
  rw [← place_mod' n c s hn]
  generalize (keyI c s).tmod n = x at *
  rw [Int.tmod_eq_emod_of_nonneg (by omega)]

set_option maxRecDepth 100000 in
set_option maxHeartbeats 1000000 in
theorem ra_New (n : Nat) (w : World) (h1 : 1 ≤ n) (h2 : n ≤ 64) :
    Calls Try.prog 22 #[.int .i64 n] w fun e w' => e = .returned (.pointer (some ⟨w.heap.size + 1, 0, none⟩)) ∧ CaAt 53 75 (w.heap.size + 1) w.heap.size (List.replicate n eZ) 0 0 w' ∧ Below w.heap.size w w' := by
  have hmk := make_en 51 75 Try.underlying51 (by kernel_rfl) n h2
  have hB := Lib.hid (box2 w (.cells (esCells (List.replicate n eZ)).toArray 75) (.cells #[.slice (some ⟨w.heap.size, 0, none⟩) n n, .int .i64 0, .int .i64 0] 53))
  have hu73 := Try.underlying53
  go_enter Try.func22, Try.ntmps22
  go_wp2
  go_ret
  refine ⟨rfl, ⟨?_, hB.out.2.1, by omega⟩, hB.out.1⟩
  have := hB.out.2.2.1
  rw [List.length_replicate]
  exact this

theorem flush_set {l : List En} {k : Nat} (hk : k < l.length) : (List.replicate k eZ ++ l.drop k).set k eZ = List.replicate (k + 1) eZ ++ l.drop (k + 1) := by
  rw [List.set_append_right _ _ (by simp)]
  simp only [List.length_replicate, Nat.sub_self]
  rw [List.replicate_succ', List.append_assoc, List.drop_eq_getElem_cons hk]
  rfl
set_option maxRecDepth 100000 in
set_option maxHeartbeats 2000000 in
theorem ra_Flush {gc ge : Nat} {l : List En} {hits misses : Int} (w : World) (hm : l.length ≤ 64) (k : CaAt 53 75 gc ge l hits misses w) :
    Calls Try.prog 24 #[.pointer (some ⟨gc, 0, none⟩)] w fun e w' => e = .returned (.tuple #[]) ∧ CaAt 53 75 gc ge (List.replicate l.length eZ) hits misses w' ∧ Keep2 gc ge w w' := by
  have hu73 := Try.underlying53
  have hu81 := Try.underlying75
  have K := Lib.hid k
  clear k
  go_enter Try.func24, Try.ntmps24
  go_wp2
  go_loopw [2] (fun u wr => ∃ (k : Nat) (l' : List En), u = .int .i64 k ∧ k ≤ l.length ∧ Hid (l'.length = l.length ∧ l' = List.replicate k eZ ++ l.drop k) ∧ Hid (CaAt 53 75 gc ge l' hits misses wr) ∧ Hid (Keep2 gc ge w wr)) (fun u _ => l.length - (intOf u).toNat)
  case atStart => exact ⟨0, l, rfl, Nat.zero_le _, Lib.hid ⟨rfl, rfl⟩, K, Lib.hid (Keep2.refl _ _ _)⟩
  case round =>
    obtain ⟨k, l', rfl, hk, HL, HC, HK⟩ := hrel
    have b0 := HC.out.b0
    rw [HL.out.1] at b0
    by_cases hlt : k < l.length
    · have hlt' : k < l'.length := by rw [HL.out.1]; exact hlt
      have HLT := Lib.hid hlt'
      have t0 : wr.cell? ⟨ge, k * 5, none⟩ = some (.int .i64 (l'.getD k eZ).cls) := HC.out.en hlt' 0 (by omega)
      have t1 : wr.cell? ⟨ge, k * 5 + 1, none⟩ = some (.int .i64 (l'.getD k eZ).sel) := HC.out.en hlt' 1 (by omega)
      have t2 : wr.cell? ⟨ge, k * 5 + 2, none⟩ = some (.int .i64 (l'.getD k eZ).meth) := HC.out.en hlt' 2 (by omega)
      have t3 : wr.cell? ⟨ge, k * 5 + 3, none⟩ = some (.int .i64 (l'.getD k eZ).at_) := HC.out.en hlt' 3 (by omega)
      have t4 : wr.cell? ⟨ge, k * 5 + 4, none⟩ = some (.bool (l'.getD k eZ).full) := HC.out.en hlt' 4 (by omega)
      have r0 := blk_frozen HC.out.ents (k * 5)
      have r1 := blk_frozen HC.out.ents (k * 5 + 1)
      have r2 := blk_frozen HC.out.ents (k * 5 + 2)
      have r3 := blk_frozen HC.out.ents (k * 5 + 3)
      have r4 := blk_frozen HC.out.ents (k * 5 + 4)
      clear hlt'
      go_wp2
      go_roundw
      case rel => exact ⟨k + 1, l'.set k eZ, by go_num, by omega, Lib.hid ⟨by rw [List.length_set]; exact HL.out.1, by rw [HL.out.2]; exact flush_set hlt⟩, Lib.hid (HC.out.put HLT.out eZ), Lib.hid ((((((HK.out).trans (Keep2.set_b _ _ _)).trans (Keep2.set_b _ _ _)).trans (Keep2.set_b _ _ _)).trans (Keep2.set_b _ _ _)).trans (Keep2.set_b _ _ _))⟩
      case measure => simp [intOf]; omega
    · go_wp2
      go_end0
      have hkk : k = l.length := by omega
      have := HL.out.2
      rw [hkk, List.drop_length, List.append_nil] at this
      rw [← this]
      exact ⟨rfl, HC.out, HK.out⟩

set_option maxRecDepth 100000 in
set_option maxHeartbeats 4000000 in
theorem ra_Find_hit {gc ge : Nat} {l : List En} {hits misses : Int} (w : World) (A : Option Addr) (cp : Nat) (h : Hp) (c s m a : Int) (hl : h.objs.length ≤ cp) (hr : ∀ W', Keep2 gc ge w W' → kOb.C W' A h.objs.length h.objs) (hn : 0 < l.length) (hm : l.length ≤ 64) (k : CaAt 53 75 gc ge l hits misses w)
    (hh : 0 ≤ hits ∧ hits ≤ 1000000) (hx : l.getD (placeI l.length c s).toNat eZ = ⟨c, s, m, a, true⟩) :
    Calls Try.prog 26 #[.pointer (some ⟨gc, 0, none⟩), .agg #[.slice A h.objs.length cp, .int .i64 h.cap, .int .i64 h.last], .int .i64 c, .int .i64 s] w fun e w' =>
      e = .returned (.tuple #[.int .i64 m, .int .i64 a, .int .i64 0]) ∧ CaAt 53 75 gc ge l (hits + 1) misses w' ∧ Keep2 gc ge w w' := by
  have hu24 := Try.underlying24
  have hu73 := Try.underlying53
  have hu81 := Try.underlying75
  have hz : ((l.length : Int) == 0) = false := beq_eq_false_iff_ne.2 (by omega)
  have hb : -(l.length : Int) < (wrap64 (wrap64 (31 * c) + s)).tmod l.length ∧ (wrap64 (wrap64 (31 * c) + s)).tmod l.length < l.length := tmod_bd _ _ hn
  obtain ⟨hb1, hb2⟩ := hb
  have hw : wrap64 ((wrap64 (wrap64 (31 * c) + s)).tmod l.length + l.length) = (wrap64 (wrap64 (31 * c) + s)).tmod l.length + l.length := w64_in (by omega)
  have hpb := place_bd l.length c s hn
  obtain ⟨p, hp⟩ : ∃ p, p = (placeI l.length c s).toNat := ⟨_, rfl⟩
  have hpp : ((wrap64 (wrap64 (31 * c) + s)).tmod l.length + l.length).tmod l.length = (p : Int) := by have := place_mod l.length c s hn; unfold keyI at this; rw [this]; omega
  have hpq : ((wrap64 (wrap64 (31 * c) + s)).tmod l.length + l.length) % l.length = (p : Int) := by have := place_mod' l.length c s hn; unfold keyI at this; rw [this]; omega
  have hpl : p < l.length := by omega
  have HP := Lib.hid hp
  rw [← hp] at hx
  have HX := Lib.hid hx
  have hbe := fun W => (box2 W (.cells #[.slice A h.objs.length cp, .int .i64 h.cap, .int .i64 h.last] 24) (.cells #[.int .i64 c, .int .i64 s, .int .i64 m, .int .i64 a, .bool true] 75))
  have HBE := Lib.hid (hbe w)
  have K := Lib.hid k
  have HR := Lib.hid hr
  have d0 := cell_on k.b0
  have en := fun j hj => (k.en hpl j hj)
  rw [hx] at en
  have t0 : w.cell? ⟨ge, p * 5, none⟩ = some (.int .i64 c) := en 0 (by omega)
  have t1 : w.cell? ⟨ge, p * 5 + 1, none⟩ = some (.int .i64 s) := en 1 (by omega)
  have t2 : w.cell? ⟨ge, p * 5 + 2, none⟩ = some (.int .i64 m) := en 2 (by omega)
  have t3 : w.cell? ⟨ge, p * 5 + 3, none⟩ = some (.int .i64 a) := en 3 (by omega)
  have t4 : w.cell? ⟨ge, p * 5 + 4, none⟩ = some (.bool true) := en 4 (by omega)
  have s0 := cell_on t0
  have s1 := cell_on t1
  have s2 := cell_on t2
  have s3 := cell_on t3
  have s4 := cell_on t4
  have HKI := Lib.hid k.in_
  clear k hx hp hpb hr hb1 hb2 hbe t0 t1 t2 t3 t4 en
  go_enter Try.func26, Try.ntmps26
  go_upto_region 4 with (fail)
  refine wp_box2 (fun w2 hb hx1 hx2 hsz => ?_)
  clear d0 s0 s1 s2 s3 s4 hpp hpq hw hz
  have HB2 := Lib.hid hb
  have HX2 := Lib.hid hx2
  have K2 := Lib.hid (K.out.next hb)
  have HT2 : Hid (HcAt gc ge A cp w.heap.size h w2) := Lib.hid ⟨fun W' q => HR.out W' ((Keep2.of_below hb).trans q), hx1, Nat.ne_of_gt HKI.out.1, Nat.ne_of_gt HKI.out.2⟩
  clear hb hx1 hx2 hsz
  have e0 : w2.cell? ⟨w.heap.size + 1, 0, none⟩ = some (.int .i64 c) := cellof HX2.out 0
  have e1 : w2.cell? ⟨w.heap.size + 1, 1, none⟩ = some (.int .i64 s) := cellof HX2.out 1
  have e2 : w2.cell? ⟨w.heap.size + 1, 2, none⟩ = some (.int .i64 m) := cellof HX2.out 2
  have e3 : w2.cell? ⟨w.heap.size + 1, 3, none⟩ = some (.int .i64 a) := cellof HX2.out 3
  have e4 : w2.cell? ⟨w.heap.size + 1, 4, none⟩ = some (.bool true) := cellof HX2.out 4
  have hne := HKI.out.1
  have b1 := K2.out.b1
  have f1 := blk_frozen K2.out.box 1
  have hw := w64_in (x := hits + 1) (by omega)
  have K4 := Lib.hid (K2.out.hit (hits + 1))
  have X4 := Lib.hid (blk_far (p := ⟨gc, 1, none⟩) HX2.out (show w.heap.size + 1 ≠ gc by omega) (.int .i64 (hits + 1)))
  go_wp2
  have y2 := fun y : Ext (w2.setCell ⟨gc, 1, none⟩ (.int .i64 (hits + 1))) => y.cell (cellof X4.out 2)
  have y3 := fun y : Ext (w2.setCell ⟨gc, 1, none⟩ (.int .i64 (hits + 1))) => y.cell (cellof X4.out 3)
  refine wp_region_ext (by kernel_rfl) (by kernel_rfl) ?_
  repeat (go_big_quiet_step (fail))
  refine wpQuiet_nil ?_
  rintro _ ⟨y, rfl⟩
  clear y2 y3 b1 f1
  go_wp2
  go_ret3
  exact ⟨rfl, K4.out.next y.below, ((Keep2.of_below HB2.out).trans (Keep2.set_a _ _ _)).trans (Keep2.of_below y.below)⟩

set_option maxRecDepth 100000 in
set_option maxHeartbeats 4000000 in
theorem ra_miss_0a {gc ge : Nat} {l : List En} {hits misses : Int} (w : World) (A : Option Addr) (cp : Nat) (h : Hp) (c s xc xs xm xa : Int) (hl : h.objs.length ≤ cp) (hr : ∀ W', Keep2 gc ge w W' → kOb.C W' A h.objs.length h.objs) (hn : 0 < l.length) (hm : l.length ≤ 64) (k : CaAt 53 75 gc ge l hits misses w)
    (hh : 0 ≤ misses ∧ misses ≤ 1000000) (hx : l.getD (placeI l.length c s).toNat eZ = ⟨xc, xs, xm, xa, false⟩) (m a : Int) (hf : findI h c s = (m, a, 0)) :
    Calls Try.prog 26 #[.pointer (some ⟨gc, 0, none⟩), .agg #[.slice A h.objs.length cp, .int .i64 h.cap, .int .i64 h.last], .int .i64 c, .int .i64 s] w fun e w' =>
      e = .returned (.tuple #[.int .i64 m, .int .i64 a, .int .i64 0]) ∧ CaAt 53 75 gc ge (l.set (placeI l.length c s).toNat ⟨c, s, m, a, true⟩) hits (misses + 1) w' ∧ Keep2 gc ge w w' := by
  have HF := Lib.hid hf
  have hu24 := Try.underlying24
  have hu73 := Try.underlying53
  have hu81 := Try.underlying75
  have hz : ((l.length : Int) == 0) = false := beq_eq_false_iff_ne.2 (by omega)
  have hb : -(l.length : Int) < (wrap64 (wrap64 (31 * c) + s)).tmod l.length ∧ (wrap64 (wrap64 (31 * c) + s)).tmod l.length < l.length := tmod_bd _ _ hn
  obtain ⟨hb1, hb2⟩ := hb
  have hw : wrap64 ((wrap64 (wrap64 (31 * c) + s)).tmod l.length + l.length) = (wrap64 (wrap64 (31 * c) + s)).tmod l.length + l.length := w64_in (by omega)
  have hpb := place_bd l.length c s hn
  obtain ⟨p, hp⟩ : ∃ p, p = (placeI l.length c s).toNat := ⟨_, rfl⟩
  have hpp : ((wrap64 (wrap64 (31 * c) + s)).tmod l.length + l.length).tmod l.length = (p : Int) := by have := place_mod l.length c s hn; unfold keyI at this; rw [this]; omega
  have hpq : ((wrap64 (wrap64 (31 * c) + s)).tmod l.length + l.length) % l.length = (p : Int) := by have := place_mod' l.length c s hn; unfold keyI at this; rw [this]; omega
  have hpl : p < l.length := by omega
  have HP := Lib.hid hp
  rw [← hp] at hx
  have HX := Lib.hid hx
  have hbe := fun W => (box2 W (.cells #[.slice A h.objs.length cp, .int .i64 h.cap, .int .i64 h.last] 24) (.cells #[.int .i64 xc, .int .i64 xs, .int .i64 xm, .int .i64 xa, .bool false] 75))
  have HBE := Lib.hid (hbe w)
  have K := Lib.hid k
  have HR := Lib.hid hr
  have d0 := cell_on k.b0
  have en := fun j hj => (k.en hpl j hj)
  rw [hx] at en
  have t0 : w.cell? ⟨ge, p * 5, none⟩ = some (.int .i64 xc) := en 0 (by omega)
  have t1 : w.cell? ⟨ge, p * 5 + 1, none⟩ = some (.int .i64 xs) := en 1 (by omega)
  have t2 : w.cell? ⟨ge, p * 5 + 2, none⟩ = some (.int .i64 xm) := en 2 (by omega)
  have t3 : w.cell? ⟨ge, p * 5 + 3, none⟩ = some (.int .i64 xa) := en 3 (by omega)
  have t4 : w.cell? ⟨ge, p * 5 + 4, none⟩ = some (.bool false) := en 4 (by omega)
  have s0 := cell_on t0
  have s1 := cell_on t1
  have s2 := cell_on t2
  have s3 := cell_on t3
  have s4 := cell_on t4
  have HKI := Lib.hid k.in_
  clear hf k hx hp hpb hr hb1 hb2 hbe t0 t1 t2 t3 t4 en
  go_enter Try.func26, Try.ntmps26
  go_upto_region 4 with (fail)
  refine wp_box2 (fun w2 hb hx1 hx2 hsz => ?_)
  clear d0 s0 s1 s2 s3 s4 hpp hpq hw hz
  have HB2 := Lib.hid hb
  have HX2 := Lib.hid hx2
  have K2 := Lib.hid (K.out.next hb)
  have HT2 : Hid (HcAt gc ge A cp w.heap.size h w2) := Lib.hid ⟨fun W' q => HR.out W' ((Keep2.of_below hb).trans q), hx1, Nat.ne_of_gt HKI.out.1, Nat.ne_of_gt HKI.out.2⟩
  clear hb hx1 hx2 hsz
  have e0 : w2.cell? ⟨w.heap.size + 1, 0, none⟩ = some (.int .i64 xc) := cellof HX2.out 0
  have e1 : w2.cell? ⟨w.heap.size + 1, 1, none⟩ = some (.int .i64 xs) := cellof HX2.out 1
  have e2 : w2.cell? ⟨w.heap.size + 1, 2, none⟩ = some (.int .i64 xm) := cellof HX2.out 2
  have e3 : w2.cell? ⟨w.heap.size + 1, 3, none⟩ = some (.int .i64 xa) := cellof HX2.out 3
  have e4 : w2.cell? ⟨w.heap.size + 1, 4, none⟩ = some (.bool false) := cellof HX2.out 4
  have hne := HKI.out.1
  have b1 := K2.out.b2
  have f1 := blk_frozen K2.out.box 2
  have hw := w64_in (x := misses + 1) (by omega)
  have K4 := Lib.hid (K2.out.miss (misses + 1))
  have HT3 := Lib.hid (HT2.out.far 2 (.int .i64 (misses + 1)))
  have d0 := HT3.out.c0
  have d1 := HT3.out.c1
  have d2 := HT3.out.c2
  go_wp2_with (go_at_call 28; refine (r9_Find A cp h c s _ hl HT3.out.row).mono ?_; rintro e w5 ⟨he, hb5⟩; rw [HF.out] at he; subst he; have HB5 := Lib.hid hb5; have K5 := Lib.hid (K4.out.next hb5); have g0 := K5.out.b0; have r0 := blk_frozen K5.out.ents (p * 5); have r1 := blk_frozen K5.out.ents (p * 5 + 1); have r2 := blk_frozen K5.out.ents (p * 5 + 2); have r3 := blk_frozen K5.out.ents (p * 5 + 3); have r4 := blk_frozen K5.out.ents (p * 5 + 4); have en := (fun j hj => K5.out.en hpl j hj); rw [HX.out] at en; have t0 : w5.cell? ⟨ge, p * 5, none⟩ = some (.int .i64 xc) := en 0 (by omega); have t1 : w5.cell? ⟨ge, p * 5 + 1, none⟩ = some (.int .i64 xs) := en 1 (by omega); have t2 : w5.cell? ⟨ge, p * 5 + 2, none⟩ = some (.int .i64 xm) := en 2 (by omega); have t3 : w5.cell? ⟨ge, p * 5 + 3, none⟩ = some (.int .i64 xa) := en 3 (by omega); have t4 : w5.cell? ⟨ge, p * 5 + 4, none⟩ = some (.bool false) := en 4 (by omega); clear en hb5)
  have K6 := Lib.hid (K5.out.put hpl ⟨c, s, m, a, true⟩)
  go_ret3
  exact ⟨rfl, by rw [← HP.out]; exact K6.out, ((((((((Keep2.of_below HB2.out).trans (Keep2.set_a _ _ _)).trans (Keep2.of_below HB5.out)).trans (Keep2.set_b _ _ _)).trans (Keep2.set_b _ _ _)).trans (Keep2.set_b _ _ _)).trans (Keep2.set_b _ _ _)).trans (Keep2.set_b _ _ _))⟩

set_option maxRecDepth 100000 in
set_option maxHeartbeats 4000000 in
theorem ra_miss_1a {gc ge : Nat} {l : List En} {hits misses : Int} (w : World) (A : Option Addr) (cp : Nat) (h : Hp) (c s xc xs xm xa : Int) (hl : h.objs.length ≤ cp) (hr : ∀ W', Keep2 gc ge w W' → kOb.C W' A h.objs.length h.objs) (hn : 0 < l.length) (hm : l.length ≤ 64) (k : CaAt 53 75 gc ge l hits misses w)
    (hh : 0 ≤ misses ∧ misses ≤ 1000000) (hx : l.getD (placeI l.length c s).toNat eZ = ⟨xc, xs, xm, xa, true⟩) (hxc : (xc == c) = false) (m a : Int) (hf : findI h c s = (m, a, 0)) :
    Calls Try.prog 26 #[.pointer (some ⟨gc, 0, none⟩), .agg #[.slice A h.objs.length cp, .int .i64 h.cap, .int .i64 h.last], .int .i64 c, .int .i64 s] w fun e w' =>
      e = .returned (.tuple #[.int .i64 m, .int .i64 a, .int .i64 0]) ∧ CaAt 53 75 gc ge (l.set (placeI l.length c s).toNat ⟨c, s, m, a, true⟩) hits (misses + 1) w' ∧ Keep2 gc ge w w' := by
  have HF := Lib.hid hf
  have hu24 := Try.underlying24
  have hu73 := Try.underlying53
  have hu81 := Try.underlying75
  have hz : ((l.length : Int) == 0) = false := beq_eq_false_iff_ne.2 (by omega)
  have hb : -(l.length : Int) < (wrap64 (wrap64 (31 * c) + s)).tmod l.length ∧ (wrap64 (wrap64 (31 * c) + s)).tmod l.length < l.length := tmod_bd _ _ hn
  obtain ⟨hb1, hb2⟩ := hb
  have hw : wrap64 ((wrap64 (wrap64 (31 * c) + s)).tmod l.length + l.length) = (wrap64 (wrap64 (31 * c) + s)).tmod l.length + l.length := w64_in (by omega)
  have hpb := place_bd l.length c s hn
  obtain ⟨p, hp⟩ : ∃ p, p = (placeI l.length c s).toNat := ⟨_, rfl⟩
  have hpp : ((wrap64 (wrap64 (31 * c) + s)).tmod l.length + l.length).tmod l.length = (p : Int) := by have := place_mod l.length c s hn; unfold keyI at this; rw [this]; omega
  have hpq : ((wrap64 (wrap64 (31 * c) + s)).tmod l.length + l.length) % l.length = (p : Int) := by have := place_mod' l.length c s hn; unfold keyI at this; rw [this]; omega
  have hpl : p < l.length := by omega
  have HP := Lib.hid hp
  rw [← hp] at hx
  have HX := Lib.hid hx
  have hbe := fun W => (box2 W (.cells #[.slice A h.objs.length cp, .int .i64 h.cap, .int .i64 h.last] 24) (.cells #[.int .i64 xc, .int .i64 xs, .int .i64 xm, .int .i64 xa, .bool true] 75))
  have HBE := Lib.hid (hbe w)
  have K := Lib.hid k
  have HR := Lib.hid hr
  have d0 := cell_on k.b0
  have en := fun j hj => (k.en hpl j hj)
  rw [hx] at en
  have t0 : w.cell? ⟨ge, p * 5, none⟩ = some (.int .i64 xc) := en 0 (by omega)
  have t1 : w.cell? ⟨ge, p * 5 + 1, none⟩ = some (.int .i64 xs) := en 1 (by omega)
  have t2 : w.cell? ⟨ge, p * 5 + 2, none⟩ = some (.int .i64 xm) := en 2 (by omega)
  have t3 : w.cell? ⟨ge, p * 5 + 3, none⟩ = some (.int .i64 xa) := en 3 (by omega)
  have t4 : w.cell? ⟨ge, p * 5 + 4, none⟩ = some (.bool true) := en 4 (by omega)
  have s0 := cell_on t0
  have s1 := cell_on t1
  have s2 := cell_on t2
  have s3 := cell_on t3
  have s4 := cell_on t4
  have HKI := Lib.hid k.in_
  clear hf k hx hp hpb hr hb1 hb2 hbe t0 t1 t2 t3 t4 en
  go_enter Try.func26, Try.ntmps26
  go_upto_region 4 with (fail)
  refine wp_box2 (fun w2 hb hx1 hx2 hsz => ?_)
  clear d0 s0 s1 s2 s3 s4 hpp hpq hw hz
  have HB2 := Lib.hid hb
  have HX2 := Lib.hid hx2
  have K2 := Lib.hid (K.out.next hb)
  have HT2 : Hid (HcAt gc ge A cp w.heap.size h w2) := Lib.hid ⟨fun W' q => HR.out W' ((Keep2.of_below hb).trans q), hx1, Nat.ne_of_gt HKI.out.1, Nat.ne_of_gt HKI.out.2⟩
  clear hb hx1 hx2 hsz
  have e0 : w2.cell? ⟨w.heap.size + 1, 0, none⟩ = some (.int .i64 xc) := cellof HX2.out 0
  have e1 : w2.cell? ⟨w.heap.size + 1, 1, none⟩ = some (.int .i64 xs) := cellof HX2.out 1
  have e2 : w2.cell? ⟨w.heap.size + 1, 2, none⟩ = some (.int .i64 xm) := cellof HX2.out 2
  have e3 : w2.cell? ⟨w.heap.size + 1, 3, none⟩ = some (.int .i64 xa) := cellof HX2.out 3
  have e4 : w2.cell? ⟨w.heap.size + 1, 4, none⟩ = some (.bool true) := cellof HX2.out 4
  have hne := HKI.out.1
  have b1 := K2.out.b2
  have f1 := blk_frozen K2.out.box 2
  have hw := w64_in (x := misses + 1) (by omega)
  have K4 := Lib.hid (K2.out.miss (misses + 1))
  have HT3 := Lib.hid (HT2.out.far 2 (.int .i64 (misses + 1)))
  have d0 := HT3.out.c0
  have d1 := HT3.out.c1
  have d2 := HT3.out.c2
  go_wp2_with (go_at_call 28; refine (r9_Find A cp h c s _ hl HT3.out.row).mono ?_; rintro e w5 ⟨he, hb5⟩; rw [HF.out] at he; subst he; have HB5 := Lib.hid hb5; have K5 := Lib.hid (K4.out.next hb5); have g0 := K5.out.b0; have r0 := blk_frozen K5.out.ents (p * 5); have r1 := blk_frozen K5.out.ents (p * 5 + 1); have r2 := blk_frozen K5.out.ents (p * 5 + 2); have r3 := blk_frozen K5.out.ents (p * 5 + 3); have r4 := blk_frozen K5.out.ents (p * 5 + 4); have en := (fun j hj => K5.out.en hpl j hj); rw [HX.out] at en; have t0 : w5.cell? ⟨ge, p * 5, none⟩ = some (.int .i64 xc) := en 0 (by omega); have t1 : w5.cell? ⟨ge, p * 5 + 1, none⟩ = some (.int .i64 xs) := en 1 (by omega); have t2 : w5.cell? ⟨ge, p * 5 + 2, none⟩ = some (.int .i64 xm) := en 2 (by omega); have t3 : w5.cell? ⟨ge, p * 5 + 3, none⟩ = some (.int .i64 xa) := en 3 (by omega); have t4 : w5.cell? ⟨ge, p * 5 + 4, none⟩ = some (.bool true) := en 4 (by omega); clear en hb5)
  have K6 := Lib.hid (K5.out.put hpl ⟨c, s, m, a, true⟩)
  go_ret3
  exact ⟨rfl, by rw [← HP.out]; exact K6.out, ((((((((Keep2.of_below HB2.out).trans (Keep2.set_a _ _ _)).trans (Keep2.of_below HB5.out)).trans (Keep2.set_b _ _ _)).trans (Keep2.set_b _ _ _)).trans (Keep2.set_b _ _ _)).trans (Keep2.set_b _ _ _)).trans (Keep2.set_b _ _ _))⟩

set_option maxRecDepth 100000 in
set_option maxHeartbeats 4000000 in
theorem ra_miss_2a {gc ge : Nat} {l : List En} {hits misses : Int} (w : World) (A : Option Addr) (cp : Nat) (h : Hp) (c s xc xs xm xa : Int) (hl : h.objs.length ≤ cp) (hr : ∀ W', Keep2 gc ge w W' → kOb.C W' A h.objs.length h.objs) (hn : 0 < l.length) (hm : l.length ≤ 64) (k : CaAt 53 75 gc ge l hits misses w)
    (hh : 0 ≤ misses ∧ misses ≤ 1000000) (hx : l.getD (placeI l.length c s).toNat eZ = ⟨c, xs, xm, xa, true⟩) (hxs : (xs == s) = false) (m a : Int) (hf : findI h c s = (m, a, 0)) :
    Calls Try.prog 26 #[.pointer (some ⟨gc, 0, none⟩), .agg #[.slice A h.objs.length cp, .int .i64 h.cap, .int .i64 h.last], .int .i64 c, .int .i64 s] w fun e w' =>
      e = .returned (.tuple #[.int .i64 m, .int .i64 a, .int .i64 0]) ∧ CaAt 53 75 gc ge (l.set (placeI l.length c s).toNat ⟨c, s, m, a, true⟩) hits (misses + 1) w' ∧ Keep2 gc ge w w' := by
  have HF := Lib.hid hf
  have hu24 := Try.underlying24
  have hu73 := Try.underlying53
  have hu81 := Try.underlying75
  have hz : ((l.length : Int) == 0) = false := beq_eq_false_iff_ne.2 (by omega)
  have hb : -(l.length : Int) < (wrap64 (wrap64 (31 * c) + s)).tmod l.length ∧ (wrap64 (wrap64 (31 * c) + s)).tmod l.length < l.length := tmod_bd _ _ hn
  obtain ⟨hb1, hb2⟩ := hb
  have hw : wrap64 ((wrap64 (wrap64 (31 * c) + s)).tmod l.length + l.length) = (wrap64 (wrap64 (31 * c) + s)).tmod l.length + l.length := w64_in (by omega)
  have hpb := place_bd l.length c s hn
  obtain ⟨p, hp⟩ : ∃ p, p = (placeI l.length c s).toNat := ⟨_, rfl⟩
  have hpp : ((wrap64 (wrap64 (31 * c) + s)).tmod l.length + l.length).tmod l.length = (p : Int) := by have := place_mod l.length c s hn; unfold keyI at this; rw [this]; omega
  have hpq : ((wrap64 (wrap64 (31 * c) + s)).tmod l.length + l.length) % l.length = (p : Int) := by have := place_mod' l.length c s hn; unfold keyI at this; rw [this]; omega
  have hpl : p < l.length := by omega
  have HP := Lib.hid hp
  rw [← hp] at hx
  have HX := Lib.hid hx
  have hbe := fun W => (box2 W (.cells #[.slice A h.objs.length cp, .int .i64 h.cap, .int .i64 h.last] 24) (.cells #[.int .i64 c, .int .i64 xs, .int .i64 xm, .int .i64 xa, .bool true] 75))
  have HBE := Lib.hid (hbe w)
  have K := Lib.hid k
  have HR := Lib.hid hr
  have d0 := cell_on k.b0
  have en := fun j hj => (k.en hpl j hj)
  rw [hx] at en
  have t0 : w.cell? ⟨ge, p * 5, none⟩ = some (.int .i64 c) := en 0 (by omega)
  have t1 : w.cell? ⟨ge, p * 5 + 1, none⟩ = some (.int .i64 xs) := en 1 (by omega)
  have t2 : w.cell? ⟨ge, p * 5 + 2, none⟩ = some (.int .i64 xm) := en 2 (by omega)
  have t3 : w.cell? ⟨ge, p * 5 + 3, none⟩ = some (.int .i64 xa) := en 3 (by omega)
  have t4 : w.cell? ⟨ge, p * 5 + 4, none⟩ = some (.bool true) := en 4 (by omega)
  have s0 := cell_on t0
  have s1 := cell_on t1
  have s2 := cell_on t2
  have s3 := cell_on t3
  have s4 := cell_on t4
  have HKI := Lib.hid k.in_
  clear hf k hx hp hpb hr hb1 hb2 hbe t0 t1 t2 t3 t4 en
  go_enter Try.func26, Try.ntmps26
  go_upto_region 4 with (fail)
  refine wp_box2 (fun w2 hb hx1 hx2 hsz => ?_)
  clear d0 s0 s1 s2 s3 s4 hpp hpq hw hz
  have HB2 := Lib.hid hb
  have HX2 := Lib.hid hx2
  have K2 := Lib.hid (K.out.next hb)
  have HT2 : Hid (HcAt gc ge A cp w.heap.size h w2) := Lib.hid ⟨fun W' q => HR.out W' ((Keep2.of_below hb).trans q), hx1, Nat.ne_of_gt HKI.out.1, Nat.ne_of_gt HKI.out.2⟩
  clear hb hx1 hx2 hsz
  have e0 : w2.cell? ⟨w.heap.size + 1, 0, none⟩ = some (.int .i64 c) := cellof HX2.out 0
  have e1 : w2.cell? ⟨w.heap.size + 1, 1, none⟩ = some (.int .i64 xs) := cellof HX2.out 1
  have e2 : w2.cell? ⟨w.heap.size + 1, 2, none⟩ = some (.int .i64 xm) := cellof HX2.out 2
  have e3 : w2.cell? ⟨w.heap.size + 1, 3, none⟩ = some (.int .i64 xa) := cellof HX2.out 3
  have e4 : w2.cell? ⟨w.heap.size + 1, 4, none⟩ = some (.bool true) := cellof HX2.out 4
  have hne := HKI.out.1
  have b1 := K2.out.b2
  have f1 := blk_frozen K2.out.box 2
  have hw := w64_in (x := misses + 1) (by omega)
  have K4 := Lib.hid (K2.out.miss (misses + 1))
  have HT3 := Lib.hid (HT2.out.far 2 (.int .i64 (misses + 1)))
  have d0 := HT3.out.c0
  have d1 := HT3.out.c1
  have d2 := HT3.out.c2
  go_wp2_with (go_at_call 28; refine (r9_Find A cp h c s _ hl HT3.out.row).mono ?_; rintro e w5 ⟨he, hb5⟩; rw [HF.out] at he; subst he; have HB5 := Lib.hid hb5; have K5 := Lib.hid (K4.out.next hb5); have g0 := K5.out.b0; have r0 := blk_frozen K5.out.ents (p * 5); have r1 := blk_frozen K5.out.ents (p * 5 + 1); have r2 := blk_frozen K5.out.ents (p * 5 + 2); have r3 := blk_frozen K5.out.ents (p * 5 + 3); have r4 := blk_frozen K5.out.ents (p * 5 + 4); have en := (fun j hj => K5.out.en hpl j hj); rw [HX.out] at en; have t0 : w5.cell? ⟨ge, p * 5, none⟩ = some (.int .i64 c) := en 0 (by omega); have t1 : w5.cell? ⟨ge, p * 5 + 1, none⟩ = some (.int .i64 xs) := en 1 (by omega); have t2 : w5.cell? ⟨ge, p * 5 + 2, none⟩ = some (.int .i64 xm) := en 2 (by omega); have t3 : w5.cell? ⟨ge, p * 5 + 3, none⟩ = some (.int .i64 xa) := en 3 (by omega); have t4 : w5.cell? ⟨ge, p * 5 + 4, none⟩ = some (.bool true) := en 4 (by omega); clear en hb5)
  have K6 := Lib.hid (K5.out.put hpl ⟨c, s, m, a, true⟩)
  go_ret3
  exact ⟨rfl, by rw [← HP.out]; exact K6.out, ((((((((Keep2.of_below HB2.out).trans (Keep2.set_a _ _ _)).trans (Keep2.of_below HB5.out)).trans (Keep2.set_b _ _ _)).trans (Keep2.set_b _ _ _)).trans (Keep2.set_b _ _ _)).trans (Keep2.set_b _ _ _)).trans (Keep2.set_b _ _ _))⟩

set_option maxRecDepth 100000 in
set_option maxHeartbeats 4000000 in
theorem ra_miss_0b {gc ge : Nat} {l : List En} {hits misses : Int} (w : World) (A : Option Addr) (cp : Nat) (h : Hp) (c s xc xs xm xa : Int) (hl : h.objs.length ≤ cp) (hr : ∀ W', Keep2 gc ge w W' → kOb.C W' A h.objs.length h.objs) (hn : 0 < l.length) (hm : l.length ≤ 64) (k : CaAt 53 75 gc ge l hits misses w)
    (hh : 0 ≤ misses ∧ misses ≤ 1000000) (hx : l.getD (placeI l.length c s).toNat eZ = ⟨xc, xs, xm, xa, false⟩) (m a : Int) (e' : Int) (he' : (e' == 0) = false) (hf : findI h c s = (m, a, e')) :
    Calls Try.prog 26 #[.pointer (some ⟨gc, 0, none⟩), .agg #[.slice A h.objs.length cp, .int .i64 h.cap, .int .i64 h.last], .int .i64 c, .int .i64 s] w fun e w' =>
      e = .returned (.tuple #[.int .i64 m, .int .i64 a, .int .i64 e']) ∧ CaAt 53 75 gc ge l hits (misses + 1) w' ∧ Keep2 gc ge w w' := by
  have HF := Lib.hid hf
  have hu24 := Try.underlying24
  have hu73 := Try.underlying53
  have hu81 := Try.underlying75
  have hz : ((l.length : Int) == 0) = false := beq_eq_false_iff_ne.2 (by omega)
  have hb : -(l.length : Int) < (wrap64 (wrap64 (31 * c) + s)).tmod l.length ∧ (wrap64 (wrap64 (31 * c) + s)).tmod l.length < l.length := tmod_bd _ _ hn
  obtain ⟨hb1, hb2⟩ := hb
  have hw : wrap64 ((wrap64 (wrap64 (31 * c) + s)).tmod l.length + l.length) = (wrap64 (wrap64 (31 * c) + s)).tmod l.length + l.length := w64_in (by omega)
  have hpb := place_bd l.length c s hn
  obtain ⟨p, hp⟩ : ∃ p, p = (placeI l.length c s).toNat := ⟨_, rfl⟩
  have hpp : ((wrap64 (wrap64 (31 * c) + s)).tmod l.length + l.length).tmod l.length = (p : Int) := by have := place_mod l.length c s hn; unfold keyI at this; rw [this]; omega
  have hpq : ((wrap64 (wrap64 (31 * c) + s)).tmod l.length + l.length) % l.length = (p : Int) := by have := place_mod' l.length c s hn; unfold keyI at this; rw [this]; omega
  have hpl : p < l.length := by omega
  have HP := Lib.hid hp
  rw [← hp] at hx
  have HX := Lib.hid hx
  have hbe := fun W => (box2 W (.cells #[.slice A h.objs.length cp, .int .i64 h.cap, .int .i64 h.last] 24) (.cells #[.int .i64 xc, .int .i64 xs, .int .i64 xm, .int .i64 xa, .bool false] 75))
  have HBE := Lib.hid (hbe w)
  have K := Lib.hid k
  have HR := Lib.hid hr
  have d0 := cell_on k.b0
  have en := fun j hj => (k.en hpl j hj)
  rw [hx] at en
  have t0 : w.cell? ⟨ge, p * 5, none⟩ = some (.int .i64 xc) := en 0 (by omega)
  have t1 : w.cell? ⟨ge, p * 5 + 1, none⟩ = some (.int .i64 xs) := en 1 (by omega)
  have t2 : w.cell? ⟨ge, p * 5 + 2, none⟩ = some (.int .i64 xm) := en 2 (by omega)
  have t3 : w.cell? ⟨ge, p * 5 + 3, none⟩ = some (.int .i64 xa) := en 3 (by omega)
  have t4 : w.cell? ⟨ge, p * 5 + 4, none⟩ = some (.bool false) := en 4 (by omega)
  have s0 := cell_on t0
  have s1 := cell_on t1
  have s2 := cell_on t2
  have s3 := cell_on t3
  have s4 := cell_on t4
  have HKI := Lib.hid k.in_
  clear hf k hx hp hpb hr hb1 hb2 hbe t0 t1 t2 t3 t4 en
  go_enter Try.func26, Try.ntmps26
  go_upto_region 4 with (fail)
  refine wp_box2 (fun w2 hb hx1 hx2 hsz => ?_)
  clear d0 s0 s1 s2 s3 s4 hpp hpq hw hz
  have HB2 := Lib.hid hb
  have HX2 := Lib.hid hx2
  have K2 := Lib.hid (K.out.next hb)
  have HT2 : Hid (HcAt gc ge A cp w.heap.size h w2) := Lib.hid ⟨fun W' q => HR.out W' ((Keep2.of_below hb).trans q), hx1, Nat.ne_of_gt HKI.out.1, Nat.ne_of_gt HKI.out.2⟩
  clear hb hx1 hx2 hsz
  have e0 : w2.cell? ⟨w.heap.size + 1, 0, none⟩ = some (.int .i64 xc) := cellof HX2.out 0
  have e1 : w2.cell? ⟨w.heap.size + 1, 1, none⟩ = some (.int .i64 xs) := cellof HX2.out 1
  have e2 : w2.cell? ⟨w.heap.size + 1, 2, none⟩ = some (.int .i64 xm) := cellof HX2.out 2
  have e3 : w2.cell? ⟨w.heap.size + 1, 3, none⟩ = some (.int .i64 xa) := cellof HX2.out 3
  have e4 : w2.cell? ⟨w.heap.size + 1, 4, none⟩ = some (.bool false) := cellof HX2.out 4
  have hne := HKI.out.1
  have b1 := K2.out.b2
  have f1 := blk_frozen K2.out.box 2
  have hw := w64_in (x := misses + 1) (by omega)
  have K4 := Lib.hid (K2.out.miss (misses + 1))
  have HT3 := Lib.hid (HT2.out.far 2 (.int .i64 (misses + 1)))
  have d0 := HT3.out.c0
  have d1 := HT3.out.c1
  have d2 := HT3.out.c2
  go_wp2_with (go_at_call 28; refine (r9_Find A cp h c s _ hl HT3.out.row).mono ?_; rintro e w5 ⟨he, hb5⟩; rw [HF.out] at he; subst he; have HB5 := Lib.hid hb5; have K5 := Lib.hid (K4.out.next hb5); have g0 := K5.out.b0; have r0 := blk_frozen K5.out.ents (p * 5); have r1 := blk_frozen K5.out.ents (p * 5 + 1); have r2 := blk_frozen K5.out.ents (p * 5 + 2); have r3 := blk_frozen K5.out.ents (p * 5 + 3); have r4 := blk_frozen K5.out.ents (p * 5 + 4); have en := (fun j hj => K5.out.en hpl j hj); rw [HX.out] at en; have t0 : w5.cell? ⟨ge, p * 5, none⟩ = some (.int .i64 xc) := en 0 (by omega); have t1 : w5.cell? ⟨ge, p * 5 + 1, none⟩ = some (.int .i64 xs) := en 1 (by omega); have t2 : w5.cell? ⟨ge, p * 5 + 2, none⟩ = some (.int .i64 xm) := en 2 (by omega); have t3 : w5.cell? ⟨ge, p * 5 + 3, none⟩ = some (.int .i64 xa) := en 3 (by omega); have t4 : w5.cell? ⟨ge, p * 5 + 4, none⟩ = some (.bool false) := en 4 (by omega); clear en hb5)
  go_ret3
  exact ⟨rfl, K5.out, ((Keep2.of_below HB2.out).trans (Keep2.set_a _ _ _)).trans (Keep2.of_below HB5.out)⟩

set_option maxRecDepth 100000 in
set_option maxHeartbeats 4000000 in
theorem ra_miss_1b {gc ge : Nat} {l : List En} {hits misses : Int} (w : World) (A : Option Addr) (cp : Nat) (h : Hp) (c s xc xs xm xa : Int) (hl : h.objs.length ≤ cp) (hr : ∀ W', Keep2 gc ge w W' → kOb.C W' A h.objs.length h.objs) (hn : 0 < l.length) (hm : l.length ≤ 64) (k : CaAt 53 75 gc ge l hits misses w)
    (hh : 0 ≤ misses ∧ misses ≤ 1000000) (hx : l.getD (placeI l.length c s).toNat eZ = ⟨xc, xs, xm, xa, true⟩) (hxc : (xc == c) = false) (m a : Int) (e' : Int) (he' : (e' == 0) = false) (hf : findI h c s = (m, a, e')) :
    Calls Try.prog 26 #[.pointer (some ⟨gc, 0, none⟩), .agg #[.slice A h.objs.length cp, .int .i64 h.cap, .int .i64 h.last], .int .i64 c, .int .i64 s] w fun e w' =>
      e = .returned (.tuple #[.int .i64 m, .int .i64 a, .int .i64 e']) ∧ CaAt 53 75 gc ge l hits (misses + 1) w' ∧ Keep2 gc ge w w' := by
  have HF := Lib.hid hf
  have hu24 := Try.underlying24
  have hu73 := Try.underlying53
  have hu81 := Try.underlying75
  have hz : ((l.length : Int) == 0) = false := beq_eq_false_iff_ne.2 (by omega)
  have hb : -(l.length : Int) < (wrap64 (wrap64 (31 * c) + s)).tmod l.length ∧ (wrap64 (wrap64 (31 * c) + s)).tmod l.length < l.length := tmod_bd _ _ hn
  obtain ⟨hb1, hb2⟩ := hb
  have hw : wrap64 ((wrap64 (wrap64 (31 * c) + s)).tmod l.length + l.length) = (wrap64 (wrap64 (31 * c) + s)).tmod l.length + l.length := w64_in (by omega)
  have hpb := place_bd l.length c s hn
  obtain ⟨p, hp⟩ : ∃ p, p = (placeI l.length c s).toNat := ⟨_, rfl⟩
  have hpp : ((wrap64 (wrap64 (31 * c) + s)).tmod l.length + l.length).tmod l.length = (p : Int) := by have := place_mod l.length c s hn; unfold keyI at this; rw [this]; omega
  have hpq : ((wrap64 (wrap64 (31 * c) + s)).tmod l.length + l.length) % l.length = (p : Int) := by have := place_mod' l.length c s hn; unfold keyI at this; rw [this]; omega
  have hpl : p < l.length := by omega
  have HP := Lib.hid hp
  rw [← hp] at hx
  have HX := Lib.hid hx
  have hbe := fun W => (box2 W (.cells #[.slice A h.objs.length cp, .int .i64 h.cap, .int .i64 h.last] 24) (.cells #[.int .i64 xc, .int .i64 xs, .int .i64 xm, .int .i64 xa, .bool true] 75))
  have HBE := Lib.hid (hbe w)
  have K := Lib.hid k
  have HR := Lib.hid hr
  have d0 := cell_on k.b0
  have en := fun j hj => (k.en hpl j hj)
  rw [hx] at en
  have t0 : w.cell? ⟨ge, p * 5, none⟩ = some (.int .i64 xc) := en 0 (by omega)
  have t1 : w.cell? ⟨ge, p * 5 + 1, none⟩ = some (.int .i64 xs) := en 1 (by omega)
  have t2 : w.cell? ⟨ge, p * 5 + 2, none⟩ = some (.int .i64 xm) := en 2 (by omega)
  have t3 : w.cell? ⟨ge, p * 5 + 3, none⟩ = some (.int .i64 xa) := en 3 (by omega)
  have t4 : w.cell? ⟨ge, p * 5 + 4, none⟩ = some (.bool true) := en 4 (by omega)
  have s0 := cell_on t0
  have s1 := cell_on t1
  have s2 := cell_on t2
  have s3 := cell_on t3
  have s4 := cell_on t4
  have HKI := Lib.hid k.in_
  clear hf k hx hp hpb hr hb1 hb2 hbe t0 t1 t2 t3 t4 en
  go_enter Try.func26, Try.ntmps26
  go_upto_region 4 with (fail)
  refine wp_box2 (fun w2 hb hx1 hx2 hsz => ?_)
  clear d0 s0 s1 s2 s3 s4 hpp hpq hw hz
  have HB2 := Lib.hid hb
  have HX2 := Lib.hid hx2
  have K2 := Lib.hid (K.out.next hb)
  have HT2 : Hid (HcAt gc ge A cp w.heap.size h w2) := Lib.hid ⟨fun W' q => HR.out W' ((Keep2.of_below hb).trans q), hx1, Nat.ne_of_gt HKI.out.1, Nat.ne_of_gt HKI.out.2⟩
  clear hb hx1 hx2 hsz
  have e0 : w2.cell? ⟨w.heap.size + 1, 0, none⟩ = some (.int .i64 xc) := cellof HX2.out 0
  have e1 : w2.cell? ⟨w.heap.size + 1, 1, none⟩ = some (.int .i64 xs) := cellof HX2.out 1
  have e2 : w2.cell? ⟨w.heap.size + 1, 2, none⟩ = some (.int .i64 xm) := cellof HX2.out 2
  have e3 : w2.cell? ⟨w.heap.size + 1, 3, none⟩ = some (.int .i64 xa) := cellof HX2.out 3
  have e4 : w2.cell? ⟨w.heap.size + 1, 4, none⟩ = some (.bool true) := cellof HX2.out 4
  have hne := HKI.out.1
  have b1 := K2.out.b2
  have f1 := blk_frozen K2.out.box 2
  have hw := w64_in (x := misses + 1) (by omega)
  have K4 := Lib.hid (K2.out.miss (misses + 1))
  have HT3 := Lib.hid (HT2.out.far 2 (.int .i64 (misses + 1)))
  have d0 := HT3.out.c0
  have d1 := HT3.out.c1
  have d2 := HT3.out.c2
  go_wp2_with (go_at_call 28; refine (r9_Find A cp h c s _ hl HT3.out.row).mono ?_; rintro e w5 ⟨he, hb5⟩; rw [HF.out] at he; subst he; have HB5 := Lib.hid hb5; have K5 := Lib.hid (K4.out.next hb5); have g0 := K5.out.b0; have r0 := blk_frozen K5.out.ents (p * 5); have r1 := blk_frozen K5.out.ents (p * 5 + 1); have r2 := blk_frozen K5.out.ents (p * 5 + 2); have r3 := blk_frozen K5.out.ents (p * 5 + 3); have r4 := blk_frozen K5.out.ents (p * 5 + 4); have en := (fun j hj => K5.out.en hpl j hj); rw [HX.out] at en; have t0 : w5.cell? ⟨ge, p * 5, none⟩ = some (.int .i64 xc) := en 0 (by omega); have t1 : w5.cell? ⟨ge, p * 5 + 1, none⟩ = some (.int .i64 xs) := en 1 (by omega); have t2 : w5.cell? ⟨ge, p * 5 + 2, none⟩ = some (.int .i64 xm) := en 2 (by omega); have t3 : w5.cell? ⟨ge, p * 5 + 3, none⟩ = some (.int .i64 xa) := en 3 (by omega); have t4 : w5.cell? ⟨ge, p * 5 + 4, none⟩ = some (.bool true) := en 4 (by omega); clear en hb5)
  go_ret3
  exact ⟨rfl, K5.out, ((Keep2.of_below HB2.out).trans (Keep2.set_a _ _ _)).trans (Keep2.of_below HB5.out)⟩

set_option maxRecDepth 100000 in
set_option maxHeartbeats 4000000 in
theorem ra_miss_2b {gc ge : Nat} {l : List En} {hits misses : Int} (w : World) (A : Option Addr) (cp : Nat) (h : Hp) (c s xc xs xm xa : Int) (hl : h.objs.length ≤ cp) (hr : ∀ W', Keep2 gc ge w W' → kOb.C W' A h.objs.length h.objs) (hn : 0 < l.length) (hm : l.length ≤ 64) (k : CaAt 53 75 gc ge l hits misses w)
    (hh : 0 ≤ misses ∧ misses ≤ 1000000) (hx : l.getD (placeI l.length c s).toNat eZ = ⟨c, xs, xm, xa, true⟩) (hxs : (xs == s) = false) (m a : Int) (e' : Int) (he' : (e' == 0) = false) (hf : findI h c s = (m, a, e')) :
    Calls Try.prog 26 #[.pointer (some ⟨gc, 0, none⟩), .agg #[.slice A h.objs.length cp, .int .i64 h.cap, .int .i64 h.last], .int .i64 c, .int .i64 s] w fun e w' =>
      e = .returned (.tuple #[.int .i64 m, .int .i64 a, .int .i64 e']) ∧ CaAt 53 75 gc ge l hits (misses + 1) w' ∧ Keep2 gc ge w w' := by
  have HF := Lib.hid hf
  have hu24 := Try.underlying24
  have hu73 := Try.underlying53
  have hu81 := Try.underlying75
  have hz : ((l.length : Int) == 0) = false := beq_eq_false_iff_ne.2 (by omega)
  have hb : -(l.length : Int) < (wrap64 (wrap64 (31 * c) + s)).tmod l.length ∧ (wrap64 (wrap64 (31 * c) + s)).tmod l.length < l.length := tmod_bd _ _ hn
  obtain ⟨hb1, hb2⟩ := hb
  have hw : wrap64 ((wrap64 (wrap64 (31 * c) + s)).tmod l.length + l.length) = (wrap64 (wrap64 (31 * c) + s)).tmod l.length + l.length := w64_in (by omega)
  have hpb := place_bd l.length c s hn
  obtain ⟨p, hp⟩ : ∃ p, p = (placeI l.length c s).toNat := ⟨_, rfl⟩
  have hpp : ((wrap64 (wrap64 (31 * c) + s)).tmod l.length + l.length).tmod l.length = (p : Int) := by have := place_mod l.length c s hn; unfold keyI at this; rw [this]; omega
  have hpq : ((wrap64 (wrap64 (31 * c) + s)).tmod l.length + l.length) % l.length = (p : Int) := by have := place_mod' l.length c s hn; unfold keyI at this; rw [this]; omega
  have hpl : p < l.length := by omega
  have HP := Lib.hid hp
  rw [← hp] at hx
  have HX := Lib.hid hx
  have hbe := fun W => (box2 W (.cells #[.slice A h.objs.length cp, .int .i64 h.cap, .int .i64 h.last] 24) (.cells #[.int .i64 c, .int .i64 xs, .int .i64 xm, .int .i64 xa, .bool true] 75))
  have HBE := Lib.hid (hbe w)
  have K := Lib.hid k
  have HR := Lib.hid hr
  have d0 := cell_on k.b0
  have en := fun j hj => (k.en hpl j hj)
  rw [hx] at en
  have t0 : w.cell? ⟨ge, p * 5, none⟩ = some (.int .i64 c) := en 0 (by omega)
  have t1 : w.cell? ⟨ge, p * 5 + 1, none⟩ = some (.int .i64 xs) := en 1 (by omega)
  have t2 : w.cell? ⟨ge, p * 5 + 2, none⟩ = some (.int .i64 xm) := en 2 (by omega)
  have t3 : w.cell? ⟨ge, p * 5 + 3, none⟩ = some (.int .i64 xa) := en 3 (by omega)
  have t4 : w.cell? ⟨ge, p * 5 + 4, none⟩ = some (.bool true) := en 4 (by omega)
  have s0 := cell_on t0
  have s1 := cell_on t1
  have s2 := cell_on t2
  have s3 := cell_on t3
  have s4 := cell_on t4
  have HKI := Lib.hid k.in_
  clear hf k hx hp hpb hr hb1 hb2 hbe t0 t1 t2 t3 t4 en
  go_enter Try.func26, Try.ntmps26
  go_upto_region 4 with (fail)
  refine wp_box2 (fun w2 hb hx1 hx2 hsz => ?_)
  clear d0 s0 s1 s2 s3 s4 hpp hpq hw hz
  have HB2 := Lib.hid hb
  have HX2 := Lib.hid hx2
  have K2 := Lib.hid (K.out.next hb)
  have HT2 : Hid (HcAt gc ge A cp w.heap.size h w2) := Lib.hid ⟨fun W' q => HR.out W' ((Keep2.of_below hb).trans q), hx1, Nat.ne_of_gt HKI.out.1, Nat.ne_of_gt HKI.out.2⟩
  clear hb hx1 hx2 hsz
  have e0 : w2.cell? ⟨w.heap.size + 1, 0, none⟩ = some (.int .i64 c) := cellof HX2.out 0
  have e1 : w2.cell? ⟨w.heap.size + 1, 1, none⟩ = some (.int .i64 xs) := cellof HX2.out 1
  have e2 : w2.cell? ⟨w.heap.size + 1, 2, none⟩ = some (.int .i64 xm) := cellof HX2.out 2
  have e3 : w2.cell? ⟨w.heap.size + 1, 3, none⟩ = some (.int .i64 xa) := cellof HX2.out 3
  have e4 : w2.cell? ⟨w.heap.size + 1, 4, none⟩ = some (.bool true) := cellof HX2.out 4
  have hne := HKI.out.1
  have b1 := K2.out.b2
  have f1 := blk_frozen K2.out.box 2
  have hw := w64_in (x := misses + 1) (by omega)
  have K4 := Lib.hid (K2.out.miss (misses + 1))
  have HT3 := Lib.hid (HT2.out.far 2 (.int .i64 (misses + 1)))
  have d0 := HT3.out.c0
  have d1 := HT3.out.c1
  have d2 := HT3.out.c2
  go_wp2_with (go_at_call 28; refine (r9_Find A cp h c s _ hl HT3.out.row).mono ?_; rintro e w5 ⟨he, hb5⟩; rw [HF.out] at he; subst he; have HB5 := Lib.hid hb5; have K5 := Lib.hid (K4.out.next hb5); have g0 := K5.out.b0; have r0 := blk_frozen K5.out.ents (p * 5); have r1 := blk_frozen K5.out.ents (p * 5 + 1); have r2 := blk_frozen K5.out.ents (p * 5 + 2); have r3 := blk_frozen K5.out.ents (p * 5 + 3); have r4 := blk_frozen K5.out.ents (p * 5 + 4); have en := (fun j hj => K5.out.en hpl j hj); rw [HX.out] at en; have t0 : w5.cell? ⟨ge, p * 5, none⟩ = some (.int .i64 c) := en 0 (by omega); have t1 : w5.cell? ⟨ge, p * 5 + 1, none⟩ = some (.int .i64 xs) := en 1 (by omega); have t2 : w5.cell? ⟨ge, p * 5 + 2, none⟩ = some (.int .i64 xm) := en 2 (by omega); have t3 : w5.cell? ⟨ge, p * 5 + 3, none⟩ = some (.int .i64 xa) := en 3 (by omega); have t4 : w5.cell? ⟨ge, p * 5 + 4, none⟩ = some (.bool true) := en 4 (by omega); clear en hb5)
  go_ret3
  exact ⟨rfl, K5.out, ((Keep2.of_below HB2.out).trans (Keep2.set_a _ _ _)).trans (Keep2.of_below HB5.out)⟩

/-- The document's Find tells and leaves what the cache's does. -/
theorem ra_Find {gc ge : Nat} {l : List En} {hits misses : Int} (w : World) (A : Option Addr) (cp : Nat) (h : Hp) (c s : Int) (hl : h.objs.length ≤ cp) (hr : ∀ W', Keep2 gc ge w W' → kOb.C W' A h.objs.length h.objs)
    (hn : 0 < l.length) (hm : l.length ≤ 64) (k : CaAt 53 75 gc ge l hits misses w) (hh : 0 ≤ hits ∧ hits ≤ 1000000) (hh' : 0 ≤ misses ∧ misses ≤ 1000000) :
    Calls Try.prog 26 #[.pointer (some ⟨gc, 0, none⟩), .agg #[.slice A h.objs.length cp, .int .i64 h.cap, .int .i64 h.last], .int .i64 c, .int .i64 s] w (CaPost 53 75 gc ge w (resF h c s l) (entF h c s l) (hitF c s l hits) (misF c s l misses)) := by
  obtain ⟨⟨xc, xs, xm, xa, xf⟩, hx⟩ : ∃ x, l.getD (placeI l.length c s).toNat eZ = x := ⟨_, rfl⟩
  have he : enF l c s = ⟨xc, xs, xm, xa, xf⟩ := hx
  obtain ⟨⟨m, a, e'⟩, hf⟩ : ∃ r, findI h c s = r := ⟨_, rfl⟩
  by_cases hh3 : hitB l c s = true
  · have h4 := hh3
    unfold hitB at h4
    rw [he] at h4
    simp only [Bool.and_eq_true, beq_iff_eq] at h4
    obtain ⟨rfl, rfl, rfl⟩ := h4
    have := ra_Find_hit w A cp h xc xs xm xa hl hr hn hm k hh hx
    unfold CaPost resF entF hitF misF
    rw [if_pos hh3, if_pos hh3, if_pos hh3, if_pos hh3, he]
    exact this
  · have h4 : xf = false ∨ (xf = true ∧ (xc == c) = false) ∨ (xf = true ∧ xc = c ∧ (xs == s) = false) := by
      unfold hitB at hh3
      rw [he] at hh3
      cases xf with
      | false => exact .inl rfl
      | true =>
        cases hc : xc == c with
        | false => exact .inr (.inl ⟨rfl, rfl⟩)
        | true =>
          cases hs : xs == s with
          | false => exact .inr (.inr ⟨rfl, beq_iff_eq.1 hc, rfl⟩)
          | true => simp [hc, hs] at hh3
    unfold CaPost resF entF hitF misF
    rw [if_neg hh3, if_neg hh3, if_neg hh3, if_neg hh3, hf]
    by_cases he0 : e' = 0
    · subst he0
      rw [if_pos rfl]
      rcases h4 with rfl | ⟨rfl, h6⟩ | ⟨rfl, rfl, h7⟩
      · exact ra_miss_0a w A cp h c s xc xs xm xa hl hr hn hm k hh' hx m a hf
      · exact ra_miss_1a w A cp h c s xc xs xm xa hl hr hn hm k hh' hx h6 m a hf
      · exact ra_miss_2a w A cp h xc s 0 xs xm xa hl hr hn hm k hh' hx h7 m a hf
    · have he1 : (e' == 0) = false := beq_eq_false_iff_ne.2 he0
      rw [if_neg he0]
      rcases h4 with rfl | ⟨rfl, h6⟩ | ⟨rfl, rfl, h7⟩
      · exact ra_miss_0b w A cp h c s xc xs xm xa hl hr hn hm k hh' hx m a e' he1 hf
      · exact ra_miss_1b w A cp h c s xc xs xm xa hl hr hn hm k hh' hx h6 m a e' he1 hf
      · exact ra_miss_2b w A cp h xc s 0 xs xm xa hl hr hn hm k hh' hx h7 m a e' he1 hf
end Go.Proofs.Ytgdobomofdenfaa.Lk
