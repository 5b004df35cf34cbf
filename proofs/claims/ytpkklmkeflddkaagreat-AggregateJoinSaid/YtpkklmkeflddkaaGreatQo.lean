/- Chapter 19: parts, the iterator over the bundles of a payload. -/
import Derived.Shelf.Abstract
import Derived.Shelf.RegionOpen
import Derived.OwnWalkIn
import Derived.TacticsInMore
import Derived.LoopNIn
import Derived.LoopIn
import Derived.Test.YtpkklmkeflddkaaGreatQn
import Derived.Test.YtpkklmkeflddkaaGreatJt
import Derived.Test.YtpkklmkeflddkaaGreatJr
import Derived.Test.YtpkklmkeflddkaaGreatJn
import Derived.Test.YtpkklmkeflddkaaGreatJq
set_option linter.unusedVariables false
set_option linter.unusedSimpArgs false
namespace Go.Proofs.YtpkklmkeflddkaaGreat
open Go.RowKit Go.Shelf
attribute [local go_sem] Oper.semAt_some
attribute [local go_sem] B_getElem B_size B_app B_extract B_get B_toList

def partsF : Nat → List UInt8 → Option (List Bun)
  | 0, s => if s = [] then some [] else none
  | f + 1, s => if s = [] then some [] else if (textS s).2.2 ≠ 0 then none else if (decBS (textS s).1).2 ≠ 0 then none else (partsF f (s.drop (textS s).2.1.toNat)).map ((decBS (textS s).1).1 :: ·)
theorem partsF_nil (f : Nat) : partsF f [] = some [] := by cases f <;> simp [partsF]
theorem partsF_err {f : Nat} {s t : List UInt8} {k e : Int} (h : textS s = (t, k, e)) (hz : s ≠ []) (he : e ≠ 0) : partsF f s = none := by
  cases f with
  | zero => simp [partsF, hz]
  | succ f => simp [partsF, hz, h, he]
theorem partsF_bad {f : Nat} {s t : List UInt8} {k : Int} (h : textS s = (t, k, 0)) (hz : s ≠ []) (he : (decBS t).2 ≠ 0) : partsF f s = none := by
  cases f with
  | zero => simp [partsF, hz]
  | succ f => simp [partsF, hz, h, he]
theorem partsF_ok {f : Nat} {s t : List UInt8} {k : Int} (h : textS s = (t, k, 0)) (hz : s ≠ []) (he : (decBS t).2 = 0) : partsF (f + 1) s = (partsF f (s.drop k.toNat)).map ((decBS t).1 :: ·) := by
  simp [partsF, hz, h, he]
abbrev PIt := Bun × Value × Bool
def encP (x : PIt) : Array Value := #[.agg (bunC x.1 x.2.1).toArray, .bool x.2.2]
def okP (pre : List PIt) (x : PIt) (W0 W : World) : Prop := pre.length ≤ 1000000 ∧ (∃ ua uc, x.2.1 = .slice ua x.1.blocks.length uc) ∧ (x.2.2 = true → RBlks W W.heap.size x.2.1 x.1.blocks ∧ RFrom W0.heap.size x.2.1 ∧ chkE x.1 = 0)
def StP (Bx : Nat) (A C : World) : Prop := Below A.heap.size A C ∨ ∃ u, C = A.setCell ⟨Bx, 0, none⟩ u
def strLen (Bx : Nat) (W : World) : Nat := match W.cell? ⟨Bx, 0, none⟩ with
  | some (.string b) => b.size
  | _ => 0
set_option maxRecDepth 100000 in
set_option maxHeartbeats 2000000 in
theorem parts1_in (n₀ z Bx : Nat) (hbx : Bx < n₀) (hbz : Bx ≠ z) (s0 : List UInt8) (hs : s0.length ≤ 1000000) (w : World) (hw : w.heap[Bx]? = some (.cells #[.string (B s0)] 9 (0, 0))) :
    IterS Fence.wide 11 Tryz.prog 85 #[.pointer (some ⟨Bx, 0, none⟩)] encP okP (fun x => x.2.2) (StP Bx) (KpX n₀ z) (fun ys => partsF s0.length s0 = some (ys.map (·.1))) (partsF s0.length s0 = none) w := by
  intro l J Jx W hW hJ hJx hYt hYf h0
  have zb : Bx < w.heap.size := by
    rcases Nat.lt_or_ge Bx w.heap.size with z | z
    · exact z
    · rw [Array.getElem?_eq_none z] at hw; cases hw
  have hWB := Lib.hid ((hW.block _ zb).trans hw)
  have HY := Lib.hid hYt
  have HF := Lib.hid hYf
  have HJ := Lib.hid hJ
  have HJX := Lib.hid hJx
  clear hw hYt hYf hJ hJx
  refine callsIn_of_wp Tryz.func85 rfl trivial ?_ rfl
  simp only [Tryz.ntmps85, List.size_toArray, List.length_cons, List.length_nil, Nat.reduceAdd, Nat.reduceSub, Array.replicate_succ, Array.replicate_zero, List.push_toArray, List.append_toArray, List.nil_append, List.cons_append]
  gi_wp2
  gi_loopw [] (fun wr => ∃ (s : List UInt8) (f : Nat) (pre : List PIt), Hid (s.length ≤ f ∧ pre.length + f ≤ s0.length) ∧ s.length ≤ 1000000 ∧ Hid (partsF s0.length s0 = (partsF f s).map (pre.map (·.1) ++ ·)) ∧ J pre wr ∧ Hid (wr.heap[Bx]? = some (.cells #[.string (B s)] 9 (0, 0)))) (fun wr => strLen Bx wr)
  case atStart => exact ⟨s0, s0.length, [], Lib.hid ⟨Nat.le_refl _, by simp⟩, hs, Lib.hid (by simp), h0, hWB⟩
  case round =>
    obtain ⟨s, f, pre, HFu, hsl, HPF, hJ, HBX⟩ := hrel
    have zbr : Bx < wr.heap.size := by
      rcases Nat.lt_or_ge Bx wr.heap.size with z | z
      · exact z
      · have := HBX.out; rw [Array.getElem?_eq_none z] at this; cases this
    have c0 := cellB HBX.out 0
    have HM : Hid (strLen Bx wr = s.length) := Lib.hid (by unfold strLen; rw [show wr.cell? ⟨Bx, 0, none⟩ = some (.string (B s)) from cellB HBX.out 0]; simp [B_size])
    have HJP := Lib.hid hJ
    clear hJ
    by_cases hz : s = []
    · subst hz
      gi_wp2
      go_end0
      exact ⟨⟨_, rfl⟩, .inl ⟨pre, by rw [HPF.out, partsF_nil]; simp, HJP.out⟩⟩
    have HZ := Lib.hid hz
    have hlen : 0 < s.length := List.length_pos_iff.2 hz
    have d0 : decide ((0 : Int) < (s.length : Int)) = true := by rw [decide_eq_true_eq]; omega
    obtain ⟨⟨t, k, e⟩, ht⟩ : ∃ q, textS s = q := ⟨_, rfl⟩
    have hok := textS_ok ht
    have HT := Lib.hid ht
    clear hz ht
    by_cases he : e = 0
    case neg =>
      have de : (e != 0) = true := by rw [bne_iff_ne]; exact he
      have HE := Lib.hid he
      clear he hok
      gi_wp2_with fail
      refine ⟨trivial, callsIn_wide.2 ((readtext_any s t k e _ (by omega) HT.out).mono ?_)⟩
      rintro e' w1 ⟨rfl, hb1⟩
      gi_wp2
      obtain ⟨fn, tmps, assign, body, hy, hR⟩ := HF.out pre (zBun, .slice none 0 0, false) _ w1 HJP.out hb1 (HJ.out _ _ _ HJP.out (.inl hb1)) ⟨by have := HFu.out.2; omega, ⟨none, 0, rfl⟩, fun h => by cases h⟩ rfl
      dsimp only [encP, bunC, zBun] at hy
      rw [show B [] = ({ data := #[] } : ByteArray) from rfl] at hy
      rw [hy]
      gi_wp2
      refine hR.mono ?_
      rintro e W3 ⟨rfl, hx⟩
      gi_wp2
      refine bodyPost_ret (results_none rfl _ _ _) rfl ?_
      exact ⟨⟨_, rfl⟩, .inr ⟨by rw [HPF.out, partsF_err HT.out HZ.out HE.out]; rfl, hx⟩⟩
    subst he
    obtain ⟨g1, g2, g3⟩ := hok.1 rfl
    obtain ⟨kk, rfl⟩ : ∃ kk : Nat, k = kk := ⟨k.toNat, by omega⟩
    have hkl : (kk : Int) ≤ (s.length : Int) := g2
    have hk0 : (0 : Int) ≤ (kk : Int) := by omega
    obtain ⟨⟨b, E⟩, hE⟩ : ∃ q, decBS t = q := ⟨_, rfl⟩
    have HE := Lib.hid hE
    have ht9 : t.length ≤ 1000000000 := by omega
    clear hok hE
    gi_wp2_with fail
    refine ⟨trivial, callsIn_wide.2 ((readtext_any s t _ 0 _ (by omega) HT.out).mono ?_)⟩
    rintro e' w1 ⟨rfl, hb1⟩
    gi_wp2_with fail
    refine ⟨trivial, callsIn_wide.2 ((bunDecode_any t w1 ht9).mono ?_)⟩
    rw [HE.out]
    rintro e' w2 ⟨u, rfl, hru, hrf, hb2⟩
    simp only at hru
    obtain ⟨ua, uc, rfl, _⟩ := id hru
    have HRU := Lib.hid hru
    have b2 : Below wr.heap.size wr (w2.alloc (.cells (bunC b (.slice ua b.blocks.length uc)).toArray 31)) := balloc0 (btrans0 hb1 hb2)
    have HB3 := Lib.hid ((b2.block _ zbr).trans HBX.out)
    have HJ3 := Lib.hid (HJ.out _ _ _ HJP.out (.inl b2))
    have HR3 : Hid (RBlks (w2.alloc (.cells (bunC b (.slice ua b.blocks.length uc)).toArray 31)) (w2.alloc (.cells (bunC b (.slice ua b.blocks.length uc)).toArray 31)).heap.size (.slice ua b.blocks.length uc) b.blocks) := Lib.hid (HRU.out.below (balloc0 (Below.refl _ _) : Below w2.heap.size w2 (w2.alloc (.cells (bunC b (.slice ua b.blocks.length uc)).toArray 31))) (Nat.le_refl _) (by simp))
    have HB2 := Lib.hid b2
    have HRF : Hid (RFrom wr.heap.size (.slice ua b.blocks.length uc)) := Lib.hid (fun a n c e => Nat.le_trans hb1.size (hrf a n c e))
    clear hru hrf hb1 hb2 b2 c0
    simp only [bunC]
    by_cases hE0 : E = 0
    case neg =>
      have de : (E == 0) = false := beq_eq_false_iff_ne.2 hE0
      have HEN := Lib.hid hE0
      clear hE0
      gi_wp2
      obtain ⟨fn, tmps, assign, body, hy, hR⟩ := HF.out pre (b, .slice ua b.blocks.length uc, false) _ _ HJP.out HB2.out HJ3.out ⟨by have := HFu.out.2; omega, ⟨ua, uc, rfl⟩, fun h => by cases h⟩ rfl
      dsimp only [encP, bunC] at hy
      rw [hy]
      gi_wp2
      refine hR.mono ?_
      rintro e W3 ⟨rfl, hx⟩
      gi_wp2
      refine bodyPost_ret (results_none rfl _ _ _) rfl ?_
      exact ⟨⟨_, rfl⟩, .inr ⟨by rw [HPF.out, partsF_bad HT.out HZ.out (by rw [HE.out]; exact HEN.out)]; rfl, hx⟩⟩
    subst hE0
    have hcv := (enc_decB HE.out).2
    gi_wp2
    obtain ⟨fn, tmps, assign, body, hy, hR⟩ := HY.out pre (b, .slice ua b.blocks.length uc, true) _ _ HJP.out HB2.out HJ3.out ⟨by have := HFu.out.2; omega, ⟨ua, uc, rfl⟩, fun h => ⟨HR3.out, HRF.out, hcv⟩⟩ rfl
    dsimp only [encP, bunC] at hy
    rw [hy]
    gi_wp2
    refine hR.mono ?_
    rintro e W3 ⟨rfl, hj4, hk4⟩
    have hbox4 : W3.heap[Bx]? = some (.cells #[.string (B s)] 9 (0, 0)) := (hk4.2 Bx hbx hbz).trans HB3.out
    have c4 := cellB hbox4 0
    have f4 := frozenB hbox4 0
    have HJ4 := Lib.hid hj4
    have HB4 := Lib.hid hbox4
    clear hy hR hj4 hk4 hbox4
    gi_wp2
    rw [show List.take (s.length - kk) (List.drop kk s) = s.drop kk from List.take_of_length_le (by simp)]
    have hbx5 : (W3.setCell ⟨Bx, 0, none⟩ (.string (B (s.drop kk)))).heap[Bx]? = some (.cells #[.string (B (s.drop kk))] 9 (0, 0)) := by
      have := heap_setCell_same W3 Bx 0 #[.string (B s)] 9 (.string (B (s.drop kk))) HB4.out
      simpa using this
    obtain ⟨f', rfl⟩ : ∃ f', f = f' + 1 := ⟨f - 1, by have := HFu.out.1; omega⟩
    refine ⟨⟨s.drop kk, f', pre ++ [(b, .slice ua b.blocks.length uc, true)], Lib.hid (by have := HFu.out; simp; omega), by simp; omega, Lib.hid ?_, HJ.out _ _ _ HJ4.out (.inr ⟨_, rfl⟩), Lib.hid hbx5⟩, ?_⟩
    · rw [HPF.out, partsF_ok HT.out HZ.out (by rw [HE.out]), HE.out]
      simp [Option.map_map, Function.comp_def]
    · rw [HM.out]
      unfold strLen
      rw [show (W3.setCell ⟨Bx, 0, none⟩ (.string (B (s.drop kk)))).cell? ⟨Bx, 0, none⟩ = some (.string (B (s.drop kk))) from cellB hbx5 0]
      simp [B_size]
      omega
end Go.Proofs.YtpkklmkeflddkaaGreat
