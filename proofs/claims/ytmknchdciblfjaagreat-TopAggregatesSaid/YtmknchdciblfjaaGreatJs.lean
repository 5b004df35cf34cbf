/- Joined by port.py: XFo XFj XFk XFl -/
import Derived.Test.YtmknchdciblfjaaGreatJc
import Derived.WalkKit
import Derived.Test.YtmknchdciblfjaaGreatJo
import Derived.Test.YtmknchdciblfjaaGreatJa
import Derived.Test.YtmknchdciblfjaaGreatJb
import Derived.Test.YtmknchdciblfjaaGreatJe
import Derived.Test.YtmknchdciblfjaaGreatJh
import Derived.Test.YtmknchdciblfjaaGreatJm
set_option linter.unusedVariables false
set_option linter.unusedSimpArgs false
/-! XFj -/
namespace Go.Proofs.YtmknchdciblfjaaGreat
open Go Go.RowKit Go.Shelf
attribute [local go_sem] Oper.semAt_some
attribute [local go_sem] B_getElem B_size B_app B_extract B_get B_toList
def sF (m len k : Nat) : Nat := min (k * m) len
def sK (m len : Nat) : Nat := (len + m - 1) / m
theorem sK_ge {m len : Nat} (hm : 1 ≤ m) : len ≤ sK m len * m := by
  unfold sK
  have h1 := Nat.div_add_mod (len + m - 1) m
  have h2 := Nat.mod_lt (len + m - 1) (show 0 < m by omega)
  rw [Nat.mul_comm] at h1
  omega
theorem sK_lt {m len k : Nat} (hm : 1 ≤ m) (hk : k < sK m len) : k * m < len := by
  unfold sK at hk
  have h1 : (k + 1) * m ≤ len + m - 1 := (Nat.le_div_iff_mul_le (by omega)).1 hk
  rw [Nat.succ_mul] at h1
  omega
theorem sK_le {m len : Nat} (hm : 1 ≤ m) : sK m len ≤ len := by
  rcases Nat.eq_zero_or_pos (sK m len) with h | h
  · omega
  · have := sK_lt (len := len) (k := sK m len - 1) hm (by omega)
    have h2 := Nat.le_mul_of_pos_right (sK m len - 1) (show 0 < m by omega)
    omega
def pF (n len k : Nat) : Nat := k * (len / n) + min k (len % n)
theorem pF_succ (n len k : Nat) : pF n len (k + 1) = pF n len k + if k < len % n then len / n + 1 else len / n := by
  unfold pF; rw [Nat.succ_mul]; split <;> omega
theorem pF_n {n len : Nat} (hn : 1 ≤ n) : pF n len n = len := by
  unfold pF
  have := Nat.mod_lt len (show 0 < n by omega)
  have h := Nat.div_add_mod len n
  rw [show min n (len % n) = len % n by omega]
  exact h
theorem jdrew {α : Type} {B' : Nat} {J : List α → World → Prop} (h : AbidesFrom B' J) : ∀ pre W, J pre W → J pre W.drew := fun pre W hj => h pre W W.drew none hj ⟨rfl, rfl, rfl, Nat.le_refl _, fun _ _ _ => rfl⟩ (fun r e => by cases e)
theorem seqSplit (w : World) (off : Int) (m len : Nat) (Bm : Nat) (hm : 1 ≤ m) (hm2 : m ≤ 1000000) (hl : len ≤ 100000) (h0 : 0 ≤ off) (h1 : off ≤ 100000) (hb : Bm < w.heap.size) (hc : w.cell? ⟨Bm, 0, none⟩ = some (.int .i64 (m : Int))) :
    PartsSeq w off (off + len) (.func (.func 28) #[] #[.pointer (some ⟨Bm, 0, none⟩)]) (sF m len) (sK m len) := by
  intro Bx Bs n₀ z W hW hbx hbs hzx hzs hwz hwn hnW c0 c1 c2 l J Jx W' hW' hJ _ hY hJ0
  have hge := sK_ge (len := len) hm
  have hle := sK_le (len := len) hm
  have k' : ∀ q o, q < W.heap.size → W'.cell? ⟨q, o, none⟩ = W.cell? ⟨q, o, none⟩ := fun q o hq => hW'.cell (p := ⟨q, o, none⟩) hq
  refine partsS_in Fence.wide 11 trivial trivial rfl (by omega) l Bx Bs Bm n₀ z off (off + len) m (sF m len) (sK m len) (fun k V hV => callsIn_wide.2 (split1_any k m Bm V hV)) (by simp [sF]) ?_ ?_ h0 (by omega) (by omega) (by omega) (by omega) hbx hbs (by omega) hzx hzs (by omega) J Jx (jdrew hJ) hY W'
    ((k' _ _ (by omega)).trans c0) ((k' _ _ (by omega)).trans c1) ((k' _ _ (by omega)).trans c2) (((k' _ _ (by omega)).trans (hW.cell (p := ⟨Bm, 0, none⟩) hb)).trans hc) hJ0
  · unfold sF; omega
  · intro k hk
    have h2 := sK_lt hm hk
    unfold sF
    rw [Nat.succ_mul]
    omega
end Go.Proofs.YtmknchdciblfjaaGreat
/-! XFk -/
namespace Go.Proofs.YtmknchdciblfjaaGreat
open Go Go.RowKit Go.Shelf
attribute [local go_sem] B_getElem B_size B_app B_extract B_get B_toList
/-- a list of bundles and an error come back -/
def BunsEPost (N : Nat) (l : List Bun) (E : Int) (w : World) (e : Ending) (w' : World) : Prop := ∃ v, e = .returned (.tuple #[v, .int .i64 E]) ∧ OutB w' N w.heap.size v l ∧ Below w.heap.size w w'
def splitR (b : Bun) (m : Int) : List Bun × Int :=
  if chkE b ≠ 0 then ([], 1) else if m < 1 then ([], 2) else if (b.payload.length : Int) ≤ m then ([b], 0) else if cutE b ≠ 0 then ([], cutE b) else (partsOf b (sF m.toNat b.payload.length) (sK m.toNat b.payload.length), 0)
def piecesR (b : Bun) (n : Int) : List Bun × Int :=
  if chkE b ≠ 0 then ([], 1) else if n < 1 then ([], 2) else if n = 1 then ([b], 0) else if cutE b ≠ 0 then ([], cutE b) else if (b.payload.length : Int) < n then ([], 2) else (partsOf b (pF n.toNat b.payload.length) n.toNat, 0)
theorem RBuns.nil (w : World) (N : Nat) : RBuns w N (.slice none 0 0) [] := ⟨none, 0, rfl, Nat.le_refl _, by simp, fun _ => rfl, fun h => by simp at h⟩
theorem RBuns.one {w : World} {N g : Nat} {b : Bun} {u : Value} {t : TypeId} (h : w.heap[g]? = some (.cells (bunC b u).toArray t (0, 0))) (hg : g < N) (hr : RBlks w N u b.blocks) : RBuns w N (.slice (some ⟨g, 0, none⟩) 1 1) [b] :=
  ⟨_, 1, rfl, Nat.le_refl _, by simp [maxLen], (fun h => by cases h), fun _ => ⟨g, 0, rfl, hg, fun i x hx => by
    match i, hx with
    | 0, hx =>
      simp at hx
      subst hx
      refine ⟨u, fun k v hv => ?_, hr⟩
      rw [cellB h]
      simpa using hv⟩⟩
set_option maxHeartbeats 1000000 in
theorem split_any (b : Bun) (u : Value) (m : Int) (N : Nat) (w : World) (hN : N ≤ w.heap.size) (h : RBlks w N u b.blocks) (hf : Fits b) :
    Calls Tryz.prog 7 #[.agg (bunC b u).toArray, .int .i64 m] w (BunsEPost N (splitR b m).1 (splitR b m).2 w) := by
  obtain ⟨E, hE⟩ : ∃ E, chkE b = E := ⟨_, rfl⟩
  obtain ⟨C, hC⟩ : ∃ E, cutE b = E := ⟨_, rfl⟩
  obtain ⟨ua, uc, rfl, _⟩ := id h
  have HR := Lib.hid h
  have HF := Lib.hid hf
  have HE := Lib.hid hE
  have HC := Lib.hid hC
  clear h hf
  by_cases z : E = 0
  case neg =>
    have z' : (E != 0) = true := by simpa using z
    have hr : splitR b m = ([], 1) := by unfold splitR; rw [hE, if_pos z]
    rw [hr]
    clear hE hC z hr
    go_enter Tryz.func7, Tryz.ntmps7
    simp only [bunC]
    go_wp2_with fail
    refine (check_any b _ _ (HR.out.below (C := w.heap.size) belowA hN (by first | omega | (simp; done) | (simp; omega))) HF.out).mono ?_
    rintro e w1 ⟨rfl, hb1⟩
    rw [HE.out]
    go_wp2
    go_ret2
    exact ⟨_, rfl, OutB.nil _ _ _, belowA⟩
  subst z
  obtain ⟨v1, v2, v3, v4, v5, v6, v7, v8, _, _⟩ := valid_facts hE
  have HV := Lib.hid (valid_blocks hE)
  by_cases z1 : m < 1
  case pos =>
    have hr : splitR b m = ([], 2) := by unfold splitR; rw [hE, if_neg (by simp), if_pos z1]
    rw [hr]
    clear hE hC hr
    go_enter Tryz.func7, Tryz.ntmps7
    simp only [bunC]
    go_wp2_with fail
    refine (check_any b _ _ (HR.out.below (C := w.heap.size) belowA hN (by first | omega | (simp; done) | (simp; omega))) HF.out).mono ?_
    rintro e w1 ⟨rfl, hb1⟩
    rw [HE.out]
    obtain ⟨k1, f1⟩ := bcell hb1
    have y1 : w.heap.size + 1 < w1.heap.size := by have := hb1.size; simp at this; omega
    have y0 : w.heap.size < w1.heap.size := by omega
    go_wp2
    go_ret2
    exact ⟨_, rfl, OutB.nil _ _ _, belowA⟩
  have z1' : 1 ≤ m := by omega
  by_cases z2 : (b.payload.length : Int) ≤ m
  case pos =>
    have hr : splitR b m = ([b], 0) := by unfold splitR; rw [hE, if_neg (by simp), if_neg z1, if_pos z2]
    rw [hr]
    clear hE hC hr z1
    go_enter Tryz.func7, Tryz.ntmps7
    simp only [bunC]
    go_wp2_with fail
    refine (check_any b _ _ (HR.out.below (C := w.heap.size) belowA hN (by first | omega | (simp; done) | (simp; omega))) HF.out).mono ?_
    rintro e w1 ⟨rfl, hb1⟩
    rw [HE.out]
    obtain ⟨k1, f1⟩ := bcell hb1
    have y1 : w.heap.size + 1 < w1.heap.size := by have := hb1.size; simp at this; omega
    have y0 : w.heap.size < w1.heap.size := by omega
    go_wp2
    go_ret2
    have hB : Below w.heap.size w (w1.alloc (.cells (bunC b (.slice ua b.blocks.length uc)).toArray 32)) := belowA
    exact ⟨_, rfl, OutB.one (u := .slice ua b.blocks.length uc) heap_new (by first | omega | (simp; omega)) hN (HR.out.below (C := w.heap.size) hB hN (Nat.le_refl N)), hB⟩
  have z2' : m < (b.payload.length : Int) := by omega
  by_cases y : C = 0
  case neg =>
    have y' : (C != 0) = true := by simpa using y
    have hr : splitR b m = ([], C) := by unfold splitR; rw [hE, hC, if_neg (by simp), if_neg z1, if_neg z2, if_pos y]
    rw [hr]
    clear hE hC y hr z1 z2
    go_enter Tryz.func7, Tryz.ntmps7
    simp only [bunC]
    go_wp2_with fail
    refine (check_any b _ _ (HR.out.below (C := w.heap.size) belowA hN (by first | omega | (simp; done) | (simp; omega))) HF.out).mono ?_
    rintro e w1 ⟨rfl, hb1⟩
    rw [HE.out]
    obtain ⟨k1, f1⟩ := bcell hb1
    have y1 : w.heap.size + 1 < w1.heap.size := by have := hb1.size; simp at this; omega
    have y0 : w.heap.size < w1.heap.size := by omega
    go_wp2_with fail
    refine (cuttable_any b _ _ v6 v7).mono ?_
    rintro e w2 ⟨rfl, hb2⟩
    rw [HC.out]
    go_wp2
    go_ret2
    exact ⟨_, rfl, OutB.nil _ _ _, belowA⟩
  subst y
  obtain ⟨m', rfl⟩ := Int.eq_ofNat_of_zero_le (show 0 ≤ m by omega)
  have hr : splitR b (m' : Int) = (partsOf b (sF m' b.payload.length) (sK m' b.payload.length), 0) := by unfold splitR; rw [hE, hC, if_neg (by simp), if_neg z1, if_neg z2, if_neg (by simp), Int.toNat_natCast]
  rw [hr]
  clear hE hC hr z1 z2
  have hkl := sK_le (m := m') (len := b.payload.length) (by omega)
  go_enter Tryz.func7, Tryz.ntmps7
  simp only [bunC]
  go_wp2_with fail
  refine (check_any b _ _ (HR.out.below (C := w.heap.size) belowA hN (by first | omega | (simp; done) | (simp; omega))) HF.out).mono ?_
  rintro e w1 ⟨rfl, hb1⟩
  rw [HE.out]
  obtain ⟨k1, f1⟩ := bcell hb1
  have y1 : w.heap.size + 1 < w1.heap.size := by have := hb1.size; simp at this; omega
  have y0 : w.heap.size < w1.heap.size := by omega
  go_wp2_with fail
  refine (cuttable_any b _ _ v6 v7).mono ?_
  rintro e w2 ⟨rfl, hb2⟩
  rw [HC.out]
  obtain ⟨k2, f2⟩ := bcell hb2
  have y2 : w.heap.size + 1 < w2.heap.size := by have := hb2.size; omega
  have y3 : w.heap.size < w2.heap.size := by omega
  go_wp2_with fail
  have hB2 : Below w.heap.size w w2 := belowA
  refine (divide_any b _ _ N _ (by omega) (HR.out.below (C := w.heap.size) hB2 hN (Nat.le_refl N)) _ (sF m' b.payload.length) (sK m' b.payload.length) rfl v1 (by omega) (by omega) (by omega) HV.out (by omega) ⟨_, _, _, rfl⟩
    (seqSplit _ b.off m' b.payload.length (w.heap.size + 1) (by omega) (by omega) (by omega) v1 (by omega) (by omega) (by rw [k2 _ _ (by omega), k1 _ _ (by simp)]; go_simp))).mono ?_
  rintro e w3 ⟨v3', rfl, hr3, hb3⟩
  go_wp2
  go_ret2
  exact ⟨_, rfl, hr3.mono (by first | omega | (simp; omega)), belowA⟩
end Go.Proofs.YtmknchdciblfjaaGreat
