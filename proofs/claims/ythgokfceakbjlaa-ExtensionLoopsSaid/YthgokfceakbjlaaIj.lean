/- Layer 14: slices.Equal of ints; the law's same, rest. -/
import Derived.Test.YthgokfceakbjlaaIb
import Derived.Test.YthgokfceakbjlaaId
set_option linter.unusedVariables false
set_option linter.unusedSimpArgs false
namespace Go.Proofs.Ythgokfceakbjlaa
open Go Go.RowKit
attribute [local go_sem] B_getElem B_size B_app B_extract B_get B_toList

set_option maxRecDepth 100000 in
set_option maxHeartbeats 8000000 in
theorem equalI_any (l : List Int) (u v : Value) (w : World) (h : RInts w w.heap.size u l) (k : RInts w w.heap.size v l) :
    Calls Try.prog 17 #[u, v] w (Says w) := by
  obtain ⟨a, c, rfl, h1, h2, h3, h4⟩ := h
  obtain ⟨a', c', rfl, k1, k2, k3, k4⟩ := k
  unfold maxLen at h2
  have hlen : l.length ≤ 9223372036854775807 := by omega
  have H4 := Lib.hid h4
  have K4 := Lib.hid k4
  clear h3 h4 k3 k4
  go_enter Try.func17, Try.ntmps17
  go_wp2
  go_loopw [13] (fun i wr => ∃ k : Nat, k ≤ l.length ∧ i = .int .i64 k ∧ Below w.heap.size w wr) (fun i _ => l.length - (intOf i).toNat)
  case atStart => exact ⟨0, Nat.zero_le _, rfl, Below.refl _ _⟩
  case round =>
    obtain ⟨k, hk, rfl, hB⟩ := hrel
    by_cases hlt : k < l.length
    · obtain ⟨b, o, rfl, hbn, hcell⟩ := H4.out (by omega)
      obtain ⟨b', o', rfl, hbn', hcell'⟩ := K4.out (by omega)
      obtain ⟨x, hx⟩ : ∃ x, l[k]? = some x := ⟨_, List.getElem?_eq_getElem hlt⟩
      have c1 := (hB.cell (p := ⟨b, o + k, none⟩) hbn).trans (hcell k x hx)
      have d1 := (hB.cell (p := ⟨b', o' + k, none⟩) hbn').trans (hcell' k x hx)
      have k0 : (0 : Int) ≤ (k : Int) := by omega
      have k1' : (k : Int) < (l.length : Int) := by omega
      clear hcell hcell' hx
      go_wp2
      go_quiet (fail)
      go_wp2
      go_roundw
      case rel => exact ⟨k + 1, by omega, by go_num, (by repeat' (first | with_reducible (first | refine bset ?_ ?_ | exact Below.refl _ _ | assumption | refine bdrewN ?_ _ | refine bdrew ?_ | refine balloc0 ?_ | refine balloc ?_ ?_ | (apply btrans0; rotate_left; assumption) | (apply btrans; rotate_left; assumption)) | exact Below.refl _ _ | assumption | (apply btrans0; rotate_left; assumption) | (apply btrans; rotate_left; assumption) | (simp; done) | omega | (simp; omega)))⟩
      case measure => simp [intOf]; omega
    · obtain rfl : k = l.length := by omega
      go_wp2
      go_ret
      exact ⟨rfl, hB⟩
set_option maxRecDepth 100000 in
set_option maxHeartbeats 8000000 in
theorem lsame_any (b : Bun) (u v : Value) (w : World) (h : RBlks w w.heap.size u b.blocks) (k : RBlks w w.heap.size v b.blocks) :
    Calls Try.prog 26 #[.agg (bunC b u).toArray, .agg (bunC b v).toArray] w (Says w) := by
  have HR := Lib.hid h
  have KR := Lib.hid k
  clear h k
  go_enter Try.func26, Try.ntmps26
  simp only [bunC]
  go_wp2_with fail
  refine (bsame_any b _ _ _ (HR.out.below (C := w.heap.size) (((Below.refl _ _).alloc (Nat.le_refl _) _).alloc (by simp) _) (Nat.le_refl _) (by simp; omega)) (KR.out.below (C := w.heap.size) (((Below.refl _ _).alloc (Nat.le_refl _) _).alloc (by simp) _) (Nat.le_refl _) (by simp; omega))).mono ?_
  rintro e w1 ⟨rfl, hb1⟩
  go_wp2
  go_ret
  exact ⟨rfl, (by repeat' (first | with_reducible (first | refine bset ?_ ?_ | exact Below.refl _ _ | assumption | refine bdrewN ?_ _ | refine bdrew ?_ | refine balloc0 ?_ | refine balloc ?_ ?_ | (apply btrans0; rotate_left; assumption) | (apply btrans; rotate_left; assumption)) | exact Below.refl _ _ | assumption | (apply btrans0; rotate_left; assumption) | (apply btrans; rotate_left; assumption) | (simp; done) | omega | (simp; omega)))⟩
def RestPost (r : Bun) (w : World) (e : Ending) (w' : World) : Prop := ∃ u, e = .returned (.agg (bunC r u).toArray) ∧ RBlks w' w'.heap.size u r.blocks ∧ Below w.heap.size w w'
set_option maxRecDepth 100000 in
set_option maxHeartbeats 8000000 in
theorem lawRest_any (b : Bun) (u : Value) (w : World) (h : RBlks w w.heap.size u b.blocks) (hl : b.blocks.length ≤ 1000) :
    Calls Try.prog 28 #[.agg (bunC b u).toArray] w (RestPost { b with blocks := rest3 b.blocks } w) := by
  have HR := Lib.hid h
  have HLN := Lib.hid hl
  obtain ⟨a, c, rfl, h1, h2, h3, h4⟩ := h
  clear h1 h2 h3 h4
  go_enter Try.func28, Try.ntmps28
  simp only [bunC]
  go_wp2
  go_loopw [7] (fun i wr => ∃ (k : Nat) (l : List Blk) (a : Option Addr) (c : Nat), i = .int .i64 k ∧ Hid ((k = 0 ∧ l = b.blocks) ∨ (k = 1 ∧ l = neK 1 b.blocks) ∨ (k = 2 ∧ l = neK 2 (neK 1 b.blocks)) ∨ (k = 3 ∧ l = rest3 b.blocks)) ∧ Hid (wr.heap[w.heap.size]? = some (.cells (bunC b (.slice a l.length c)).toArray 28 (0, 0))) ∧ Hid (wr.heap[w.heap.size + 1]? = some (.cells #[.int .i64 0, .int .i64 0, .int .i64 0, .int .i64 0, .int .i64 0, .int .i64 0, .int .i64 0, .int .i64 0, .int .i64 0, .int .i64 0, .slice none 0 0, .string ⟨#[]⟩] 28 (0, 0))) ∧ Hid (wr.heap[w.heap.size + 2]? = some (.cells #[.int .i64 1, .int .i64 2, .int .i64 3] 3 (0, 0))) ∧ Hid (RBlks wr wr.heap.size (.slice a l.length c) l) ∧ Below w.heap.size w wr) (fun i _ => 3 - (intOf i).toNat)
  case atStart => exact ⟨0, b.blocks, a, c, rfl, Lib.hid (.inl ⟨rfl, rfl⟩), Lib.hid (by repeat (first | exact heap_new' (by first | rfl | (simp; done)) | refine (Below.heap_alloc _ _ _ (by first | (simp; done) | (simp; omega))).trans ?_)), Lib.hid (by repeat (first | exact heap_new' (by first | rfl | (simp; done)) | refine (Below.heap_alloc _ _ _ (by first | (simp; done) | (simp; omega))).trans ?_)), Lib.hid (by repeat (first | exact heap_new' (by first | rfl | (simp; done)) | refine (Below.heap_alloc _ _ _ (by first | (simp; done) | (simp; omega))).trans ?_)), Lib.hid (HR.out.below' (by repeat' (first | with_reducible (first | refine bset ?_ ?_ | exact Below.refl _ _ | assumption | refine bdrewN ?_ _ | refine bdrew ?_ | refine balloc0 ?_ | refine balloc ?_ ?_ | (apply btrans0; rotate_left; assumption) | (apply btrans; rotate_left; assumption)) | exact Below.refl _ _ | assumption | (apply btrans0; rotate_left; assumption) | (apply btrans; rotate_left; assumption) | (simp; done) | omega | (simp; omega)))), (by repeat' (first | with_reducible (first | refine bset ?_ ?_ | exact Below.refl _ _ | assumption | refine bdrewN ?_ _ | refine bdrew ?_ | refine balloc0 ?_ | refine balloc ?_ ?_ | (apply btrans0; rotate_left; assumption) | (apply btrans; rotate_left; assumption)) | exact Below.refl _ _ | assumption | (apply btrans0; rotate_left; assumption) | (apply btrans; rotate_left; assumption) | (simp; done) | omega | (simp; omega)))⟩
  case round =>
    obtain ⟨k, l, a, c, rfl, HQ, HA, HZ, HL, HB, hB⟩ := hrel
    have z0 : w.heap.size + 2 < wr.heap.size := by
      rcases Nat.lt_or_ge (w.heap.size + 2) wr.heap.size with z | z
      · exact z
      · have := HL.out; rw [Array.getElem?_eq_none z] at this; cases this
    have z1 : w.heap.size + 1 < wr.heap.size := by omega
    have z2 : w.heap.size < wr.heap.size := by omega
    rcases HQ.out with hq | hq | hq | hq <;> clear HQ
    · obtain ⟨rfl, rfl⟩ := hq
      have ca := fun o => cellB HA.out o
      have fa := fun o => frozenB HA.out o
      have cr := fun o => cellB HZ.out o
      have fr := fun o => frozenB HZ.out o
      have cl := fun o => cellB HL.out o
      simp only [bunC] at ca
      go_wp2_with fail
      refine (remove_any _ _ 1 _ (HB.out.below' (by repeat' (first | with_reducible (first | refine bset ?_ ?_ | exact Below.refl _ _ | assumption | refine bdrewN ?_ _ | refine bdrew ?_ | refine balloc0 ?_ | refine balloc ?_ ?_ | (apply btrans0; rotate_left; assumption) | (apply btrans; rotate_left; assumption)) | exact Below.refl _ _ | assumption | (apply btrans0; rotate_left; assumption) | (apply btrans; rotate_left; assumption) | (simp; done) | omega | (simp; omega)))) HLN.out).mono ?_
      unfold BlksPost
      rintro e w2 ⟨v, rfl, hv, hb2, hown⟩
      clear hown
      have hB2 : Below w.heap.size w w2 := (by repeat' (first | with_reducible (first | refine bset ?_ ?_ | exact Below.refl _ _ | assumption | refine bdrewN ?_ _ | refine bdrew ?_ | refine balloc0 ?_ | refine balloc ?_ ?_ | (apply btrans0; rotate_left; assumption) | (apply btrans; rotate_left; assumption)) | exact Below.refl _ _ | assumption | (apply btrans0; rotate_left; assumption) | (apply btrans; rotate_left; assumption) | (simp; done) | omega | (simp; omega)))
      have y2 : wr.heap.size ≤ w2.heap.size := hb2.size
      have A2 := (hb2.block w.heap.size (by omega)).trans HA.out
      have Z2 := (hb2.block (w.heap.size + 1) (by omega)).trans HZ.out
      have L2 := (hb2.block (w.heap.size + 2) (by omega)).trans HL.out
      have hsp : Sep w.heap.size w.heap.size v (List.filter (fun x => x.kind != 1) b.blocks) := Sep.box hv A2 (noBlk_bun _ _ _ _)
      obtain ⟨va, vc, rfl, _⟩ := id hv
      obtain ⟨nn, hnn⟩ : ∃ q, (List.filter (fun x => x.kind != 1) b.blocks) = q := ⟨_, rfl⟩
      rw [hnn] at hv hsp ⊢
      have HV := Lib.hid hv
      have HS := Lib.hid hsp
      have HN := Lib.hid hnn
      have HA2 := Lib.hid A2
      have HZ2 := Lib.hid Z2
      have HL2 := Lib.hid L2
      clear ca fa cr fr cl hb2 A2 Z2 L2 hv hsp hnn
      have fa := fun o => frozenB HA2.out o
      have ca := fun o => cellB HA2.out o
      simp only [bunC] at ca
      go_wp2
      go_roundw
      case rel => exact ⟨1, nn, va, vc, by go_num, Lib.hid (by rw [← HN.out]; exact .inr (.inl ⟨rfl, rfl⟩)), Lib.hid (by simpa [bunC] using setB HA2.out 10 (.slice va nn.length vc)), Lib.hid ((heap_setCell_other _ _ _ _ (by simp)).trans HZ2.out), Lib.hid ((heap_setCell_other _ _ _ _ (by simp)).trans HL2.out), Lib.hid (RBlks.apart HV.out HS.out (fun q o hq hq2 => by simp (disch := first | exact hq | exact fun e => hq e.symm | (simp; omega)) only [World.cell?_setCell_far]) (by simp)), (by repeat' (first | with_reducible (first | refine bset ?_ ?_ | exact Below.refl _ _ | assumption | refine bdrewN ?_ _ | refine bdrew ?_ | refine balloc0 ?_ | refine balloc ?_ ?_ | (apply btrans0; rotate_left; assumption) | (apply btrans; rotate_left; assumption)) | exact Below.refl _ _ | assumption | (apply btrans0; rotate_left; assumption) | (apply btrans; rotate_left; assumption) | (simp; done) | omega | (simp; omega)))⟩
      case measure => simp [intOf]
    · obtain ⟨rfl, rfl⟩ := hq
      have ca := fun o => cellB HA.out o
      have fa := fun o => frozenB HA.out o
      have cr := fun o => cellB HZ.out o
      have fr := fun o => frozenB HZ.out o
      have cl := fun o => cellB HL.out o
      simp only [bunC] at ca
      go_wp2_with fail
      refine (remove_any _ _ 2 _ (HB.out.below' (by repeat' (first | with_reducible (first | refine bset ?_ ?_ | exact Below.refl _ _ | assumption | refine bdrewN ?_ _ | refine bdrew ?_ | refine balloc0 ?_ | refine balloc ?_ ?_ | (apply btrans0; rotate_left; assumption) | (apply btrans; rotate_left; assumption)) | exact Below.refl _ _ | assumption | (apply btrans0; rotate_left; assumption) | (apply btrans; rotate_left; assumption) | (simp; done) | omega | (simp; omega)))) (Nat.le_trans (List.length_filter_le _ _) HLN.out)).mono ?_
      unfold BlksPost
      rintro e w2 ⟨v, rfl, hv, hb2, hown⟩
      clear hown
      have hB2 : Below w.heap.size w w2 := (by repeat' (first | with_reducible (first | refine bset ?_ ?_ | exact Below.refl _ _ | assumption | refine bdrewN ?_ _ | refine bdrew ?_ | refine balloc0 ?_ | refine balloc ?_ ?_ | (apply btrans0; rotate_left; assumption) | (apply btrans; rotate_left; assumption)) | exact Below.refl _ _ | assumption | (apply btrans0; rotate_left; assumption) | (apply btrans; rotate_left; assumption) | (simp; done) | omega | (simp; omega)))
      have y2 : wr.heap.size ≤ w2.heap.size := hb2.size
      have A2 := (hb2.block w.heap.size (by omega)).trans HA.out
      have Z2 := (hb2.block (w.heap.size + 1) (by omega)).trans HZ.out
      have L2 := (hb2.block (w.heap.size + 2) (by omega)).trans HL.out
      have hsp : Sep w.heap.size w.heap.size v (List.filter (fun x => x.kind != 2) (neK 1 b.blocks)) := Sep.box hv A2 (noBlk_bun _ _ _ _)
      obtain ⟨va, vc, rfl, _⟩ := id hv
      obtain ⟨nn, hnn⟩ : ∃ q, (List.filter (fun x => x.kind != 2) (neK 1 b.blocks)) = q := ⟨_, rfl⟩
      rw [hnn] at hv hsp ⊢
      have HV := Lib.hid hv
      have HS := Lib.hid hsp
      have HN := Lib.hid hnn
      have HA2 := Lib.hid A2
      have HZ2 := Lib.hid Z2
      have HL2 := Lib.hid L2
      clear ca fa cr fr cl hb2 A2 Z2 L2 hv hsp hnn
      have fa := fun o => frozenB HA2.out o
      have ca := fun o => cellB HA2.out o
      simp only [bunC] at ca
      go_wp2
      go_roundw
      case rel => exact ⟨2, nn, va, vc, by go_num, Lib.hid (by rw [← HN.out]; exact .inr (.inr (.inl ⟨rfl, rfl⟩))), Lib.hid (by simpa [bunC] using setB HA2.out 10 (.slice va nn.length vc)), Lib.hid ((heap_setCell_other _ _ _ _ (by simp)).trans HZ2.out), Lib.hid ((heap_setCell_other _ _ _ _ (by simp)).trans HL2.out), Lib.hid (RBlks.apart HV.out HS.out (fun q o hq hq2 => by simp (disch := first | exact hq | exact fun e => hq e.symm | (simp; omega)) only [World.cell?_setCell_far]) (by simp)), (by repeat' (first | with_reducible (first | refine bset ?_ ?_ | exact Below.refl _ _ | assumption | refine bdrewN ?_ _ | refine bdrew ?_ | refine balloc0 ?_ | refine balloc ?_ ?_ | (apply btrans0; rotate_left; assumption) | (apply btrans; rotate_left; assumption)) | exact Below.refl _ _ | assumption | (apply btrans0; rotate_left; assumption) | (apply btrans; rotate_left; assumption) | (simp; done) | omega | (simp; omega)))⟩
      case measure => simp [intOf]
    · obtain ⟨rfl, rfl⟩ := hq
      have ca := fun o => cellB HA.out o
      have fa := fun o => frozenB HA.out o
      have cr := fun o => cellB HZ.out o
      have fr := fun o => frozenB HZ.out o
      have cl := fun o => cellB HL.out o
      simp only [bunC] at ca
      go_wp2_with fail
      refine (remove_any _ _ 3 _ (HB.out.below' (by repeat' (first | with_reducible (first | refine bset ?_ ?_ | exact Below.refl _ _ | assumption | refine bdrewN ?_ _ | refine bdrew ?_ | refine balloc0 ?_ | refine balloc ?_ ?_ | (apply btrans0; rotate_left; assumption) | (apply btrans; rotate_left; assumption)) | exact Below.refl _ _ | assumption | (apply btrans0; rotate_left; assumption) | (apply btrans; rotate_left; assumption) | (simp; done) | omega | (simp; omega)))) (Nat.le_trans (List.length_filter_le _ _) (Nat.le_trans (List.length_filter_le _ _) HLN.out))).mono ?_
      unfold BlksPost
      rintro e w2 ⟨v, rfl, hv, hb2, hown⟩
      clear hown
      have hB2 : Below w.heap.size w w2 := (by repeat' (first | with_reducible (first | refine bset ?_ ?_ | exact Below.refl _ _ | assumption | refine bdrewN ?_ _ | refine bdrew ?_ | refine balloc0 ?_ | refine balloc ?_ ?_ | (apply btrans0; rotate_left; assumption) | (apply btrans; rotate_left; assumption)) | exact Below.refl _ _ | assumption | (apply btrans0; rotate_left; assumption) | (apply btrans; rotate_left; assumption) | (simp; done) | omega | (simp; omega)))
      have y2 : wr.heap.size ≤ w2.heap.size := hb2.size
      have A2 := (hb2.block w.heap.size (by omega)).trans HA.out
      have Z2 := (hb2.block (w.heap.size + 1) (by omega)).trans HZ.out
      have L2 := (hb2.block (w.heap.size + 2) (by omega)).trans HL.out
      have hsp : Sep w.heap.size w.heap.size v (List.filter (fun x => x.kind != 3) (neK 2 (neK 1 b.blocks))) := Sep.box hv A2 (noBlk_bun _ _ _ _)
      obtain ⟨va, vc, rfl, _⟩ := id hv
      obtain ⟨nn, hnn⟩ : ∃ q, (List.filter (fun x => x.kind != 3) (neK 2 (neK 1 b.blocks))) = q := ⟨_, rfl⟩
      rw [hnn] at hv hsp ⊢
      have HV := Lib.hid hv
      have HS := Lib.hid hsp
      have HN := Lib.hid hnn
      have HA2 := Lib.hid A2
      have HZ2 := Lib.hid Z2
      have HL2 := Lib.hid L2
      clear ca fa cr fr cl hb2 A2 Z2 L2 hv hsp hnn
      have fa := fun o => frozenB HA2.out o
      have ca := fun o => cellB HA2.out o
      simp only [bunC] at ca
      go_wp2
      go_roundw
      case rel => exact ⟨3, nn, va, vc, by go_num, Lib.hid (by rw [← HN.out]; exact .inr (.inr (.inr ⟨rfl, rfl⟩))), Lib.hid (by simpa [bunC] using setB HA2.out 10 (.slice va nn.length vc)), Lib.hid ((heap_setCell_other _ _ _ _ (by simp)).trans HZ2.out), Lib.hid ((heap_setCell_other _ _ _ _ (by simp)).trans HL2.out), Lib.hid (RBlks.apart HV.out HS.out (fun q o hq hq2 => by simp (disch := first | exact hq | exact fun e => hq e.symm | (simp; omega)) only [World.cell?_setCell_far]) (by simp)), (by repeat' (first | with_reducible (first | refine bset ?_ ?_ | exact Below.refl _ _ | assumption | refine bdrewN ?_ _ | refine bdrew ?_ | refine balloc0 ?_ | refine balloc ?_ ?_ | (apply btrans0; rotate_left; assumption) | (apply btrans; rotate_left; assumption)) | exact Below.refl _ _ | assumption | (apply btrans0; rotate_left; assumption) | (apply btrans; rotate_left; assumption) | (simp; done) | omega | (simp; omega)))⟩
      case measure => simp [intOf]
    · obtain ⟨rfl, rfl⟩ := hq
      have hsp := Lib.hid (Sep.box HB.out HZ.out noBlk12)
      have HLL : Hid (rest3 b.blocks = rest3 b.blocks) := Lib.hid rfl
      have ca := fun o => cellB HA.out o
      have fa := fun o => frozenB HA.out o
      have cr := fun o => cellB HZ.out o
      have fr := fun o => frozenB HZ.out o
      have cl := fun o => cellB HL.out o
      simp only [bunC] at ca
      go_wp2
      refine bodyPost_ret (v := .agg #[.int .i64 b.src, .int .i64 b.crt, .int .i64 b.seq, .int .i64 b.off, .int .i64 b.tot, .int .i64 b.dk, .int .i64 b.dn, .int .i64 b.life, .int .i64 b.prio, .int .i64 b.flags, .slice a (rest3 b.blocks).length c, .string (B b.payload)]) (by simp [results, Try.results28, go_sem, World.cell?_setCell_same', cr, ca, z1]) rfl ?_
      unfold RestPost
      exact ⟨_, rfl, RBlks.apart HB.out hsp.out (fun q o hq hq2 => by simp (disch := first | exact hq | exact fun e => hq e.symm | (simp; omega)) only [World.cell?_setCell_far]) (by simp), (by repeat' (first | with_reducible (first | refine bset ?_ ?_ | exact Below.refl _ _ | assumption | refine bdrewN ?_ _ | refine bdrew ?_ | refine balloc0 ?_ | refine balloc ?_ ?_ | (apply btrans0; rotate_left; assumption) | (apply btrans; rotate_left; assumption)) | exact Below.refl _ _ | assumption | (apply btrans0; rotate_left; assumption) | (apply btrans; rotate_left; assumption) | (simp; done) | omega | (simp; omega)))⟩
end Go.Proofs.Ythgokfceakbjlaa
