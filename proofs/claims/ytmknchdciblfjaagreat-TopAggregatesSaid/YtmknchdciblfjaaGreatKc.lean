/- Joined by port.py: XQe XQf XQo XQq -/
import Derived.Test.YtmknchdciblfjaaGreatKb
import Derived.Shelf.Abstract
import Derived.Shelf.RegionOpen
import Derived.OwnWalkIn
import Derived.TacticsInMore
import Derived.LoopNIn
import Derived.LoopIn
import Derived.Test.YtmknchdciblfjaaGreatJv
import Derived.Test.YtmknchdciblfjaaGreatJa
import Derived.Test.YtmknchdciblfjaaGreatJb
import Derived.Test.YtmknchdciblfjaaGreatJd
import Derived.Test.YtmknchdciblfjaaGreatJe
import Derived.Test.YtmknchdciblfjaaGreatJg
import Derived.Test.YtmknchdciblfjaaGreatJh
import Derived.Test.YtmknchdciblfjaaGreatJiz
import Derived.Test.YtmknchdciblfjaaGreatJk
import Derived.Test.YtmknchdciblfjaaGreatJm
import Derived.Test.YtmknchdciblfjaaGreatJo
import Derived.Test.YtmknchdciblfjaaGreatJs
import Derived.Test.YtmknchdciblfjaaGreatJp
import Derived.Test.YtmknchdciblfjaaGreatJqz
import Derived.Test.YtmknchdciblfjaaGreatKaz
import Derived.Test.YtmknchdciblfjaaGreatJw
set_option linter.unusedVariables false
set_option linter.unusedSimpArgs false
/-! XQf -/
namespace Go.Proofs.YtmknchdciblfjaaGreat
open Go Go.RowKit
attribute [local go_sem] B_getElem B_size B_app B_extract B_get B_toList
attribute [local go_sem] bunC
attribute [local go_sem ↓] neEndI
theorem chkJ_cons (y : Bun) (r : List Bun) : chkJ (y :: r) = if (y :: r).any (fun x => chkE x != 0) = true then (1 : Int) else if (y :: r).any joinedB = true then 8 else if (y :: r).any (misB y) = true then 10 else 0 := rfl
theorem any_no {l : List Bun} {P : Bun → Bool} (h : ∀ x ∈ l, P x = false) : l.any P = false := List.any_eq_false.2 fun x hx => by rw [h x hx]; simp
end Go.Proofs.YtmknchdciblfjaaGreat
/-! XQo -/
namespace Go.Proofs.YtmknchdciblfjaaGreat
open Go.RowKit Go.Shelf
attribute [local go_sem] Oper.semAt_some
attribute [local go_sem] B_getElem B_size B_app B_extract B_get B_toList
def partsF : Nat → List UInt8 → Option (List Bun)
  | 0, s => if s = [] then some [] else none
  | f + 1, s => if s = [] then some [] else if (textS s).2.2 ≠ 0 then none else if (decBS (textS s).1).2 ≠ 0 then none else (partsF f (s.drop (textS s).2.1.toNat)).map ((decBS (textS s).1).1 :: ·)
theorem partsF_nil (f : Nat) : partsF f [] = some [] := by cases f <;> simp [partsF]
theorem partsF_err {f : Nat} {s t : List UInt8} {k e : Int} (h : textS s = (t, k, e)) (hz : s ≠ []) (he : e ≠ 0) : partsF f s = none := by
  cases f with
  | zero => simp [partsF, hz]
  | succ f => simp [partsF, hz, h, he]
theorem partsF_bad {f : Nat} {s t : List UInt8} {k : Int} (h : textS s = (t, k, 0)) (hz : s ≠ []) (he : (decBS t).2 ≠ 0) : partsF f s = none := by
  cases f with
  | zero => simp [partsF, hz]
  | succ f => simp [partsF, hz, h, he]
theorem partsF_ok {f : Nat} {s t : List UInt8} {k : Int} (h : textS s = (t, k, 0)) (hz : s ≠ []) (he : (decBS t).2 = 0) : partsF (f + 1) s = (partsF f (s.drop k.toNat)).map ((decBS t).1 :: ·) := by
  simp [partsF, hz, h, he]
abbrev PIt := Bun × Value × Bool
def encP (x : PIt) : Array Value := #[.agg (bunC x.1 x.2.1).toArray, .bool x.2.2]
def okP (pre : List PIt) (x : PIt) (W0 W : World) : Prop := pre.length ≤ 1000000 ∧ (∃ ua uc, x.2.1 = .slice ua x.1.blocks.length uc) ∧ (x.2.2 = true → RBlks W W.heap.size x.2.1 x.1.blocks ∧ RFrom W0.heap.size x.2.1 ∧ chkE x.1 = 0)
def StP (Bx : Nat) (A C : World) : Prop := Below A.heap.size A C ∨ ∃ u, C = A.setCell ⟨Bx, 0, none⟩ u
def strLen (Bx : Nat) (W : World) : Nat := match W.cell? ⟨Bx, 0, none⟩ with
  | some (.string b) => b.size
  | _ => 0
set_option maxRecDepth 100000 in
set_option maxHeartbeats 2000000 in
theorem parts1_in (n₀ z Bx : Nat) (hbx : Bx < n₀) (hbz : Bx ≠ z) (s0 : List UInt8) (hs : s0.length ≤ 1000000) (w : World) (hw : w.heap[Bx]? = some (.cells #[.string (B s0)] 9 (0, 0))) :
    IterS Fence.wide 11 Tryz.prog 155 #[.pointer (some ⟨Bx, 0, none⟩)] encP okP (fun x => x.2.2) (StP Bx) (KpX n₀ z) (fun ys => partsF s0.length s0 = some (ys.map (·.1))) (partsF s0.length s0 = none) w := by
  intro l J Jx W hW hJ hJx hYt hYf h0
  have zb : Bx < w.heap.size := by
    rcases Nat.lt_or_ge Bx w.heap.size with z | z
    · exact z
    · rw [Array.getElem?_eq_none z] at hw; cases hw
  have hWB := Lib.hid ((hW.block _ zb).trans hw)
  have HY := Lib.hid hYt
  have HF := Lib.hid hYf
  have HJ := Lib.hid hJ
  have HJX := Lib.hid hJx
  clear hw hYt hYf hJ hJx
  refine callsIn_of_wp Tryz.func155 rfl trivial ?_ rfl
  simp only [Tryz.ntmps155, List.size_toArray, List.length_cons, List.length_nil, Nat.reduceAdd, Nat.reduceSub, Array.replicate_succ, Array.replicate_zero, List.push_toArray, List.append_toArray, List.nil_append, List.cons_append]
  gi_wp2
  gi_loopw [] (fun wr => ∃ (s : List UInt8) (f : Nat) (pre : List PIt), Hid (s.length ≤ f ∧ pre.length + f ≤ s0.length) ∧ s.length ≤ 1000000 ∧ Hid (partsF s0.length s0 = (partsF f s).map (pre.map (·.1) ++ ·)) ∧ J pre wr ∧ Hid (wr.heap[Bx]? = some (.cells #[.string (B s)] 9 (0, 0)))) (fun wr => strLen Bx wr)
  case atStart => exact ⟨s0, s0.length, [], Lib.hid ⟨Nat.le_refl _, by simp⟩, hs, Lib.hid (by simp), h0, hWB⟩
  case round =>
    obtain ⟨s, f, pre, HFu, hsl, HPF, hJ, HBX⟩ := hrel
    have zbr : Bx < wr.heap.size := by
      rcases Nat.lt_or_ge Bx wr.heap.size with z | z
      · exact z
      · have := HBX.out; rw [Array.getElem?_eq_none z] at this; cases this
    have c0 := cellB HBX.out 0
    have HM : Hid (strLen Bx wr = s.length) := Lib.hid (by unfold strLen; rw [show wr.cell? ⟨Bx, 0, none⟩ = some (.string (B s)) from cellB HBX.out 0]; simp [B_size])
    have HJP := Lib.hid hJ
    clear hJ
    by_cases hz : s = []
    · subst hz
      gi_wp2
      go_end0
      exact ⟨⟨_, rfl⟩, .inl ⟨pre, by rw [HPF.out, partsF_nil]; simp, HJP.out⟩⟩
    have HZ := Lib.hid hz
    have hlen : 0 < s.length := List.length_pos_iff.2 hz
    have d0 : decide ((0 : Int) < (s.length : Int)) = true := by rw [decide_eq_true_eq]; omega
    obtain ⟨⟨t, k, e⟩, ht⟩ : ∃ q, textS s = q := ⟨_, rfl⟩
    have hok := textS_ok ht
    have HT := Lib.hid ht
    clear hz ht
    by_cases he : e = 0
    case neg =>
      have de : (e != 0) = true := by rw [bne_iff_ne]; exact he
      have HE := Lib.hid he
      clear he hok
      gi_wp2_with fail
      refine ⟨trivial, callsIn_wide.2 ((readtext_any s t k e _ (by omega) HT.out).mono ?_)⟩
      rintro e' w1 ⟨rfl, hb1⟩
      gi_wp2
      obtain ⟨fn, tmps, assign, body, hy, hR⟩ := HF.out pre (zBun, .slice none 0 0, false) _ w1 HJP.out hb1 (HJ.out _ _ _ HJP.out (.inl hb1)) ⟨by have := HFu.out.2; omega, ⟨none, 0, rfl⟩, fun h => by cases h⟩ rfl
      dsimp only [encP, bunC, zBun] at hy
      rw [show B [] = ({ data := #[] } : ByteArray) from rfl] at hy
      rw [hy]
      gi_wp2
      refine hR.mono ?_
      rintro e W3 ⟨rfl, hx⟩
      gi_wp2
      refine bodyPost_ret (results_none rfl _ _ _) rfl ?_
      exact ⟨⟨_, rfl⟩, .inr ⟨by rw [HPF.out, partsF_err HT.out HZ.out HE.out]; rfl, hx⟩⟩
    subst he
    obtain ⟨g1, g2, g3⟩ := hok.1 rfl
    obtain ⟨kk, rfl⟩ : ∃ kk : Nat, k = kk := ⟨k.toNat, by omega⟩
    have hkl : (kk : Int) ≤ (s.length : Int) := g2
    have hk0 : (0 : Int) ≤ (kk : Int) := by omega
    obtain ⟨⟨b, E⟩, hE⟩ : ∃ q, decBS t = q := ⟨_, rfl⟩
    have HE := Lib.hid hE
    have ht9 : t.length ≤ 1000000000 := by omega
    clear hok hE
    gi_wp2_with fail
    refine ⟨trivial, callsIn_wide.2 ((readtext_any s t _ 0 _ (by omega) HT.out).mono ?_)⟩
    rintro e' w1 ⟨rfl, hb1⟩
    gi_wp2_with fail
    refine ⟨trivial, callsIn_wide.2 ((bunDecode_any t w1 ht9).mono ?_)⟩
    rw [HE.out]
    rintro e' w2 ⟨u, rfl, hru, hrf, hb2⟩
    simp only at hru
    obtain ⟨ua, uc, rfl, _⟩ := id hru
    have HRU := Lib.hid hru
    have b2 : Below wr.heap.size wr (w2.alloc (.cells (bunC b (.slice ua b.blocks.length uc)).toArray 32)) := balloc0 (btrans0 hb1 hb2)
    have HB3 := Lib.hid ((b2.block _ zbr).trans HBX.out)
    have HJ3 := Lib.hid (HJ.out _ _ _ HJP.out (.inl b2))
    have HR3 : Hid (RBlks (w2.alloc (.cells (bunC b (.slice ua b.blocks.length uc)).toArray 32)) (w2.alloc (.cells (bunC b (.slice ua b.blocks.length uc)).toArray 32)).heap.size (.slice ua b.blocks.length uc) b.blocks) := Lib.hid (HRU.out.below (balloc0 (Below.refl _ _) : Below w2.heap.size w2 (w2.alloc (.cells (bunC b (.slice ua b.blocks.length uc)).toArray 32))) (Nat.le_refl _) (by simp))
    have HB2 := Lib.hid b2
    have HRF : Hid (RFrom wr.heap.size (.slice ua b.blocks.length uc)) := Lib.hid (fun a n c e => Nat.le_trans hb1.size (hrf a n c e))
    clear hru hrf hb1 hb2 b2 c0
    simp only [bunC]
    by_cases hE0 : E = 0
    case neg =>
      have de : (E == 0) = false := beq_eq_false_iff_ne.2 hE0
      have HEN := Lib.hid hE0
      clear hE0
      gi_wp2
      obtain ⟨fn, tmps, assign, body, hy, hR⟩ := HF.out pre (b, .slice ua b.blocks.length uc, false) _ _ HJP.out HB2.out HJ3.out ⟨by have := HFu.out.2; omega, ⟨ua, uc, rfl⟩, fun h => by cases h⟩ rfl
      dsimp only [encP, bunC] at hy
      rw [hy]
      gi_wp2
      refine hR.mono ?_
      rintro e W3 ⟨rfl, hx⟩
      gi_wp2
      refine bodyPost_ret (results_none rfl _ _ _) rfl ?_
      exact ⟨⟨_, rfl⟩, .inr ⟨by rw [HPF.out, partsF_bad HT.out HZ.out (by rw [HE.out]; exact HEN.out)]; rfl, hx⟩⟩
    subst hE0
    have hcv := (enc_decB HE.out).2
    gi_wp2
    obtain ⟨fn, tmps, assign, body, hy, hR⟩ := HY.out pre (b, .slice ua b.blocks.length uc, true) _ _ HJP.out HB2.out HJ3.out ⟨by have := HFu.out.2; omega, ⟨ua, uc, rfl⟩, fun h => ⟨HR3.out, HRF.out, hcv⟩⟩ rfl
    dsimp only [encP, bunC] at hy
    rw [hy]
    gi_wp2
    refine hR.mono ?_
    rintro e W3 ⟨rfl, hj4, hk4⟩
    have hbox4 : W3.heap[Bx]? = some (.cells #[.string (B s)] 9 (0, 0)) := (hk4.2 Bx hbx hbz).trans HB3.out
    have c4 := cellB hbox4 0
    have f4 := frozenB hbox4 0
    have HJ4 := Lib.hid hj4
    have HB4 := Lib.hid hbox4
    clear hy hR hj4 hk4 hbox4
    gi_wp2
    rw [show List.take (s.length - kk) (List.drop kk s) = s.drop kk from List.take_of_length_le (by simp)]
    have hbx5 : (W3.setCell ⟨Bx, 0, none⟩ (.string (B (s.drop kk)))).heap[Bx]? = some (.cells #[.string (B (s.drop kk))] 9 (0, 0)) := by
      have := heap_setCell_same W3 Bx 0 #[.string (B s)] 9 (.string (B (s.drop kk))) HB4.out
      simpa using this
    obtain ⟨f', rfl⟩ : ∃ f', f = f' + 1 := ⟨f - 1, by have := HFu.out.1; omega⟩
    refine ⟨⟨s.drop kk, f', pre ++ [(b, .slice ua b.blocks.length uc, true)], Lib.hid (by have := HFu.out; simp; omega), by simp; omega, Lib.hid ?_, HJ.out _ _ _ HJ4.out (.inr ⟨_, rfl⟩), Lib.hid hbx5⟩, ?_⟩
    · rw [HPF.out, partsF_ok HT.out HZ.out (by rw [HE.out]), HE.out]
      simp [Option.map_map, Function.comp_def]
    · rw [HM.out]
      unfold strLen
      rw [show (W3.setCell ⟨Bx, 0, none⟩ (.string (B (s.drop kk)))).cell? ⟨Bx, 0, none⟩ = some (.string (B (s.drop kk))) from cellB hbx5 0]
      simp [B_size]
      omega
end Go.Proofs.YtmknchdciblfjaaGreat
/-! XQq -/
namespace Go.Proofs.YtmknchdciblfjaaGreat
open Go.RowKit
def rdB (s : List UInt8) : List Bun × Bool :=
  if (readS s).2.2 ≠ 0 then ([], false) else match partsF (s.drop (readS s).2.1.toNat).length (s.drop (readS s).2.1.toNat) with
    | none => ([], false)
    | some l => (l, decide ((readS s).1 = (l.length : Int)))
def farB (b y : Bun) : Bool := b.src != y.src || (b.dk != y.dk || b.dn != y.dn) || b.prio != y.prio
def sepL (b : Bun) (l : List Bun) : List Bun × Int := match l with
  | [] => ([], 11)
  | y :: r => if farB b y = true ∨ b.crt < crtS (y :: r) ∨ endS (y :: r) < expS b then ([], 11) else (y :: r, 0)
/-- what Separate answers -/
def sepS (b : Bun) : List Bun × Int :=
  if chkE b ≠ 0 then ([], chkE b) else if joinedB b = false then ([], 8)
  else if (rdB b.payload).2 = false ∨ chkJ (rdB b.payload).1 ≠ 0 ∨ ¬ crtS (rdB b.payload).1 < endS (rdB b.payload).1 ∨ payS (rdB b.payload).1 ≠ b.payload then ([], 11)
  else sepL b (rdB b.payload).1
theorem parts_pay : ∀ (f : Nat) (s : List UInt8) (l : List Bun), partsF f s = some l → l.flatMap (fun b => textE (bunR b)) = s ∧ (∀ x ∈ l, chkE x = 0) ∧ l.length ≤ s.length
  | 0, s, l, h => by
    unfold partsF at h
    split at h
    · rename_i hz
      injection h with h
      subst h hz
      exact ⟨rfl, by simp, by simp⟩
    · cases h
  | f + 1, s, l, h => by
    unfold partsF at h
    split at h
    · rename_i hz
      injection h with h
      subst h hz
      exact ⟨rfl, by simp, by simp⟩
    obtain ⟨⟨t, k, e⟩, ht⟩ : ∃ q, textS s = q := ⟨_, rfl⟩
    obtain ⟨⟨b, E⟩, hE⟩ : ∃ q, decBS t = q := ⟨_, rfl⟩
    rw [ht] at h
    simp only at h
    rw [hE] at h
    simp only at h
    split at h
    · cases h
    rename_i he
    split at h
    · cases h
    rename_i hE0
    have he0 : e = 0 := Classical.byContradiction he
    have hEE : E = 0 := Classical.byContradiction hE0
    subst he0 hEE
    obtain ⟨m, hm, rfl⟩ := Option.map_eq_some_iff.1 h
    obtain ⟨⟨r, rfl⟩, rfl, _⟩ := text_read ht
    obtain ⟨rfl, hv⟩ := enc_decB hE
    rw [Int.toNat_natCast, List.drop_left] at hm
    obtain ⟨h1, h2, h3⟩ := parts_pay f r m hm
    have := (textE_len (bunE b)).1
    refine ⟨?_, ?_, ?_⟩
    · rw [List.flatMap_cons, h1, bunR_ok hv]
    · intro x hx
      rcases List.mem_cons.1 hx with rfl | hx
      · exact hv
      · exact h2 x hx
    · rw [List.length_cons, List.length_append]
      omega
theorem textE_ne (t r : List UInt8) : textE t ++ r ≠ [] := by
  intro h
  have h1 := congrArg List.length h
  have h2 := (textE_len t).1
  rw [List.length_append] at h1
  simp only [List.length_nil] at h1
  omega
theorem pay_parts : ∀ (l : List Bun), (∀ x ∈ l, chkE x = 0) → ∀ f, l.length ≤ f → partsF f (l.flatMap (fun b => textE (bunR b))) = some l
  | [], _, f, _ => partsF_nil f
  | b :: l, h, f, hf => by
    obtain ⟨f', rfl⟩ : ∃ f', f = f' + 1 := ⟨f - 1, by simp at hf; omega⟩
    have hv := h b (by simp)
    have hl := bunR_len b
    have ht := read_text (bunR b) (l.flatMap (fun b => textE (bunR b))) (by omega)
    rw [List.flatMap_cons, partsF_ok ht (textE_ne _ _) (by rw [bunR_ok hv, decB_enc hv]), Int.toNat_natCast, List.drop_left, pay_parts l (fun x hx => h x (by simp [hx])) f' (by simp at hf; omega), bunR_ok hv, decB_enc hv]
    rfl
theorem rd_pay {s : List UInt8} {l : List Bun} (h : rdB s = (l, true)) : payS l = s ∧ (∀ x ∈ l, chkE x = 0) ∧ l.length ≤ s.length := by
  unfold rdB at h
  obtain ⟨⟨m, k, e⟩, hr⟩ : ∃ q, readS s = q := ⟨_, rfl⟩
  rw [hr] at h
  simp only at h
  split at h
  · cases h
  rename_i he
  have he0 : e = 0 := Classical.byContradiction he
  subst he0
  obtain ⟨r, rfl, rfl⟩ := int_read hr
  rw [Int.toNat_natCast, List.drop_left] at h
  split at h
  · cases h
  rename_i l' hl
  injection h with h1 h2
  subst h1
  obtain ⟨g1, g2, g3⟩ := parts_pay _ _ _ hl
  refine ⟨?_, g2, ?_⟩
  · unfold payS
    rw [g1, of_decide_eq_true h2]
  · rw [List.length_append]; omega
theorem pflat_len (l : List Bun) : l.length ≤ (l.flatMap (fun b => textE (bunR b))).length := by
  induction l with
  | nil => simp
  | cons b l ih =>
    have := (textE_len (bunR b)).1
    rw [List.flatMap_cons, List.length_append, List.length_cons]
    omega
theorem rd_join {l : List Bun} (h : ∀ x ∈ l, chkE x = 0) (hl : l.length ≤ 20000) : rdB (payS l) = (l, true) := by
  unfold rdB payS
  have hr := read_int (l.length : Int) (l.flatMap (fun b => textE (bunR b))) (by omega) (by omega)
  rw [hr]
  simp only
  rw [if_neg (by simp), Int.toNat_natCast, List.drop_left, pay_parts l h _ (pflat_len l)]
  simp
theorem chk_pay {b : Bun} (h : chkE b = 0) : b.payload.length ≤ 4096 := by
  obtain ⟨_, _, _, h4, _⟩ := chkE_zero h
  unfold payE at h4
  split at h4
  · cases h4
  · omega
/-- what a joined bundle is -/
theorem join_facts {l : List Bun} {seq : Int} {b : Bun} (h : joinS l seq = (b, 0)) : ∃ y r, l = y :: r ∧ (∀ x ∈ l, chkE x = 0) ∧ l.any joinedB = false ∧ l.any (misB y) = false ∧ 0 ≤ seq ∧ seq ≤ 1099511627776 ∧ crtS l < endS l ∧ (payS l).length ≤ 4096 ∧ b = ⟨y.src, crtS l, seq, 0, 0, y.dk, y.dn, endS l - crtS l, y.prio, joinF l, [], payS l⟩ := by
  unfold joinS at h
  split at h
  · injection h with _ h; exact absurd h ‹_›
  rename_i hJ
  have hJ0 : chkJ l = 0 := Classical.byContradiction hJ
  split at h
  · injection h with _ h; cases h
  rename_i hs
  split at h
  · injection h with _ h; cases h
  rename_i ha
  split at h
  · injection h with _ h; cases h
  rename_i hp
  obtain ⟨y, r, rfl, h1, h2, h3⟩ := chkJ_zero hJ0
  injection h with h _
  exact ⟨y, r, rfl, h1, h2, h3, by omega, by omega, by omega, by omega, h.symm⟩
theorem join_valid {l : List Bun} {seq : Int} {b : Bun} (h : joinS l seq = (b, 0)) : chkE b = 0 ∧ joinedB b = true := by
  obtain ⟨y, r, rfl, h1, h2, h3, h4, h5, h6, h7, rfl⟩ := join_facts h
  obtain ⟨t1, t2, t3, t4⟩ := times_range h1
  obtain ⟨v1, v2, v3, v4, v5, v6, v7⟩ := chkE_zero (h1 y (by simp))
  have hid : idB (⟨y.src, crtS (y :: r), seq, 0, 0, y.dk, y.dn, endS (y :: r) - crtS (y :: r), y.prio, joinF (y :: r), [], payS (y :: r)⟩ : Bun) = true := by
    have := of_decide_eq_true v1
    unfold idB
    rw [decide_eq_true_eq]
    simp only
    exact ⟨by omega, by omega, t1, t2, h4, h5, .inl ⟨trivial, trivial⟩⟩
  have hfl : joinF (y :: r) = 64 ∨ joinF (y :: r) = 65 := by unfold joinF; split <;> simp
  constructor
  · unfold chkE
    rw [if_neg (by unfold idE; rw [if_pos hid]; simp), if_neg (by simpa using v7), if_neg (by simp only; omega), if_neg (by simp only; omega), if_neg (by unfold flE flB; simp only; rcases hfl with e | e <;> rw [e] <;> simp [show hasF 64 4 = false from by decide, show hasF 65 4 = false from by decide]), if_neg (show ¬ (blksE [] ≠ 0) by decide)]
    unfold payE
    rw [if_neg (by simp only; omega), if_neg (by simp)]
  · unfold joinedB
    rcases hfl with e | e <;> simp only [e] <;> decide
theorem join_exp {l : List Bun} {seq : Int} {b : Bun} (h : joinS l seq = (b, 0)) : expS b = endS l := by
  have hv := (join_valid h).1
  obtain ⟨y, r, rfl, h1, h2, h3, h4, h5, h6, h7, rfl⟩ := join_facts h
  unfold expS
  rw [if_neg (by simpa using hv)]
  simp only
  omega
theorem chkJ_ok {y : Bun} {r : List Bun} (h1 : ∀ x ∈ y :: r, chkE x = 0) (h2 : (y :: r).any joinedB = false) (h3 : (y :: r).any (misB y) = false) : chkJ (y :: r) = 0 := by
  rw [chkJ_cons, if_neg (by rw [any_no (fun x hx => by rw [h1 x hx]; rfl)]; simp), if_neg (by rw [h2]; simp), if_neg (by rw [h3]; simp)]
/-- separating what was joined -/
theorem sep_join {l : List Bun} {seq : Int} {b : Bun} (h : joinS l seq = (b, 0)) (hl : l.length ≤ 20000) : sepS b = (l, 0) := by
  obtain ⟨v1, v2⟩ := join_valid h
  have he := join_exp h
  obtain ⟨y, r, rfl, h1, h2, h3, h4, h5, h6, h7, rfl⟩ := join_facts h
  have hr := rd_join h1 hl
  unfold sepS sepL
  rw [if_neg (by simpa using v1), if_neg (by rw [v2]; simp)]
  simp only
  rw [hr]
  simp only
  rw [if_neg (by simp [chkJ_ok h1 h2 h3, h6]), if_neg (by rw [he]; simp [farB])]
theorem sep_facts {b : Bun} {l : List Bun} (h : sepS b = (l, 0)) : chkE b = 0 ∧ joinedB b = true ∧ ∃ y r, l = y :: r ∧ chkJ l = 0 ∧ crtS l < endS l ∧ payS l = b.payload ∧ farB b y = false ∧ crtS l ≤ b.crt ∧ expS b ≤ endS l := by
  unfold sepS sepL at h
  split at h
  · injection h with _ h; exact absurd h ‹_›
  rename_i hc
  split at h
  · injection h with _ h; cases h
  rename_i hj
  split at h
  · injection h with _ h; cases h
  rename_i hx
  rw [not_or, not_or, not_or] at hx
  obtain ⟨x1, x2, x3, x4⟩ := hx
  split at h
  · injection h with _ h; cases h
  rename_i y r hl
  split at h
  · injection h with _ h; cases h
  rename_i hf
  rw [not_or, not_or] at hf
  injection h with h _
  subst h
  rw [hl] at x2 x3 x4
  exact ⟨Classical.byContradiction hc, by simpa using hj, y, r, rfl, Classical.byContradiction x2, Classical.byContradiction x3, Classical.byContradiction x4, by simpa using hf.1, by omega, by omega⟩
end Go.Proofs.YtmknchdciblfjaaGreat
