/- Joined by port.py: XFo XFj XFk XFl -/
import Derived.Test.YthlbddcllikolaaGreatJc
import Derived.WalkKit
import Derived.Test.YthlbddcllikolaaGreatJo
import Derived.Test.YthlbddcllikolaaGreatJa
import Derived.Test.YthlbddcllikolaaGreatJb
import Derived.Test.YthlbddcllikolaaGreatJe
import Derived.Test.YthlbddcllikolaaGreatJh
import Derived.Test.YthlbddcllikolaaGreatJm
set_option linter.unusedVariables false
set_option linter.unusedSimpArgs false
/-! XFo -/
namespace Go.Proofs.YthlbddcllikolaaGreat
open Go Go.RowKit
theorem wrap_nat (k : Nat) (h : k ≤ 1000000000) : IntKind.i64.wrap (k : Int) = (k : Int) := by
  rw [IntKind.wrap_i64]; omega
end Go.Proofs.YthlbddcllikolaaGreat
/-! XFj -/
namespace Go.Proofs.YthlbddcllikolaaGreat
open Go Go.RowKit Go.Shelf
attribute [local go_sem] Oper.semAt_some
attribute [local go_sem] B_getElem B_size B_app B_extract B_get B_toList
def sF (m len k : Nat) : Nat := min (k * m) len
def sK (m len : Nat) : Nat := (len + m - 1) / m
theorem sK_ge {m len : Nat} (hm : 1 ≤ m) : len ≤ sK m len * m := by
  unfold sK
  have h1 := Nat.div_add_mod (len + m - 1) m
  have h2 := Nat.mod_lt (len + m - 1) (show 0 < m by omega)
  rw [Nat.mul_comm] at h1
  omega
theorem sK_lt {m len k : Nat} (hm : 1 ≤ m) (hk : k < sK m len) : k * m < len := by
  unfold sK at hk
  have h1 : (k + 1) * m ≤ len + m - 1 := (Nat.le_div_iff_mul_le (by omega)).1 hk
  rw [Nat.succ_mul] at h1
  omega
theorem sK_le {m len : Nat} (hm : 1 ≤ m) : sK m len ≤ len := by
  rcases Nat.eq_zero_or_pos (sK m len) with h | h
  · omega
  · have := sK_lt (len := len) (k := sK m len - 1) hm (by omega)
    have h2 := Nat.le_mul_of_pos_right (sK m len - 1) (show 0 < m by omega)
    omega
def pF (n len k : Nat) : Nat := k * (len / n) + min k (len % n)
theorem pF_succ (n len k : Nat) : pF n len (k + 1) = pF n len k + if k < len % n then len / n + 1 else len / n := by
  unfold pF; rw [Nat.succ_mul]; split <;> omega
theorem pF_n {n len : Nat} (hn : 1 ≤ n) : pF n len n = len := by
  unfold pF
  have := Nat.mod_lt len (show 0 < n by omega)
  have h := Nat.div_add_mod len n
  rw [show min n (len % n) = len % n by omega]
  exact h
theorem pF_mono (n len : Nat) : ∀ {a b : Nat}, a ≤ b → pF n len a ≤ pF n len b := by
  intro a b h
  unfold pF
  have := Nat.mul_le_mul_right (len / n) h
  omega
theorem jdrew {α : Type} {B' : Nat} {J : List α → World → Prop} (h : AbidesFrom B' J) : ∀ pre W, J pre W → J pre W.drew := fun pre W hj => h pre W W.drew none hj ⟨rfl, rfl, rfl, Nat.le_refl _, fun _ _ _ => rfl⟩ (fun r e => by cases e)
theorem seqSplit (w : World) (off : Int) (m len : Nat) (Bm : Nat) (hm : 1 ≤ m) (hm2 : m ≤ 1000000) (hl : len ≤ 100000) (h0 : 0 ≤ off) (h1 : off ≤ 100000) (hb : Bm < w.heap.size) (hc : w.cell? ⟨Bm, 0, none⟩ = some (.int .i64 (m : Int))) :
    PartsSeq w off (off + len) (.func (.func 49) #[] #[.pointer (some ⟨Bm, 0, none⟩)]) (sF m len) (sK m len) := by
  intro Bx Bs n₀ z W hW hbx hbs hzx hzs hwz hwn hnW c0 c1 c2 l J Jx W' hW' hJ _ hY hJ0
  have hge := sK_ge (len := len) hm
  have hle := sK_le (len := len) hm
  have k' : ∀ q o, q < W.heap.size → W'.cell? ⟨q, o, none⟩ = W.cell? ⟨q, o, none⟩ := fun q o hq => hW'.cell (p := ⟨q, o, none⟩) hq
  refine partsS_in Fence.wide 11 trivial trivial rfl (by omega) l Bx Bs Bm n₀ z off (off + len) m (sF m len) (sK m len) (fun k V hV => callsIn_wide.2 (split1_any k m Bm V hV)) (by simp [sF]) ?_ ?_ h0 (by omega) (by omega) (by omega) (by omega) hbx hbs (by omega) hzx hzs (by omega) J Jx (jdrew hJ) hY W'
    ((k' _ _ (by omega)).trans c0) ((k' _ _ (by omega)).trans c1) ((k' _ _ (by omega)).trans c2) (((k' _ _ (by omega)).trans (hW.cell (p := ⟨Bm, 0, none⟩) hb)).trans hc) hJ0
  · unfold sF; omega
  · intro k hk
    have h2 := sK_lt hm hk
    unfold sF
    rw [Nat.succ_mul]
    omega
theorem seqPieces (w : World) (off : Int) (n len : Nat) (Bm Be : Nat) (hn : 1 ≤ n) (hn2 : n ≤ len) (hl : len ≤ 100000) (h0 : 0 ≤ off) (h1 : off ≤ 100000) (hb : Bm < w.heap.size) (hbe : Be < w.heap.size) (hc : w.cell? ⟨Bm, 0, none⟩ = some (.int .i64 ((len % n : Nat) : Int))) (hce : w.cell? ⟨Be, 0, none⟩ = some (.int .i64 ((len / n : Nat) : Int))) :
    PartsSeq w off (off + len) (.func (.func 50) #[] #[.pointer (some ⟨Bm, 0, none⟩), .pointer (some ⟨Be, 0, none⟩)]) (pF n len) n := by
  intro Bx Bs n₀ z W hW hbx hbs hzx hzs hwz hwn hnW c0 c1 c2 l J Jx W' hW' hJ _ hY hJ0
  have k' : ∀ q o, q < W.heap.size → W'.cell? ⟨q, o, none⟩ = W.cell? ⟨q, o, none⟩ := fun q o hq => hW'.cell (p := ⟨q, o, none⟩) hq
  have he : 1 ≤ len / n := (Nat.one_le_div_iff (by omega)).2 hn2
  have he2 : len / n ≤ len := Nat.div_le_self _ _
  refine partsP_in Fence.wide 11 trivial trivial rfl (by omega) l Bx Bs Bm Be n₀ z off (off + len) ((len / n : Nat) : Int) ((len % n : Nat) : Int) (fun k => if k < len % n then ((len / n : Nat) : Int) + 1 else ((len / n : Nat) : Int)) (pF n len) n
    (fun k V hk hV hV2 => callsIn_wide.2 ((pieces1_any k _ _ Bm Be V hV hV2 (by omega) (by omega)).mono fun e w' ⟨h1, h2⟩ => ⟨h1.trans (ret_int (by by_cases hh : k < len % n <;> simp [hh] <;> omega)), h2⟩)) (by simp [pF]) (by rw [pF_n hn]) ?_ h0 (by omega) (fun k hk => by split <;> omega) (by omega) hbx hbs (by omega) hzx hzs (by omega) (by omega) (by omega) J Jx (jdrew hJ) hY W'
    ((k' _ _ (by omega)).trans c0) ((k' _ _ (by omega)).trans c1) ((k' _ _ (by omega)).trans c2) (((k' _ _ (by omega)).trans (hW.cell (p := ⟨Bm, 0, none⟩) hb)).trans hc) (((k' _ _ (by omega)).trans (hW.cell (p := ⟨Be, 0, none⟩) hbe)).trans hce) hJ0
  intro k hk
  have h2 := pF_succ n len k
  have h3 := pF_mono n len (show k + 1 ≤ n by omega)
  rw [pF_n hn] at h3
  split at h2
  all_goals
    rename_i hh
    simp only [hh, if_true, if_false]
    omega
end Go.Proofs.YthlbddcllikolaaGreat
/-! XFk -/
namespace Go.Proofs.YthlbddcllikolaaGreat
open Go Go.RowKit Go.Shelf
attribute [local go_sem] B_getElem B_size B_app B_extract B_get B_toList
/-- a list of bundles and an error come back -/
def BunsEPost (N : Nat) (l : List Bun) (E : Int) (w : World) (e : Ending) (w' : World) : Prop := ∃ v, e = .returned (.tuple #[v, .int .i64 E]) ∧ OutB w' N w.heap.size v l ∧ Below w.heap.size w w'
def splitR (b : Bun) (m : Int) : List Bun × Int :=
  if chkE b ≠ 0 then ([], 1) else if m < 1 then ([], 2) else if (b.payload.length : Int) ≤ m then ([b], 0) else if cutE b ≠ 0 then ([], cutE b) else (partsOf b (sF m.toNat b.payload.length) (sK m.toNat b.payload.length), 0)
def piecesR (b : Bun) (n : Int) : List Bun × Int :=
  if chkE b ≠ 0 then ([], 1) else if n < 1 then ([], 2) else if n = 1 then ([b], 0) else if cutE b ≠ 0 then ([], cutE b) else if (b.payload.length : Int) < n then ([], 2) else (partsOf b (pF n.toNat b.payload.length) n.toNat, 0)
theorem RBuns.nil (w : World) (N : Nat) : RBuns w N (.slice none 0 0) [] := ⟨none, 0, rfl, Nat.le_refl _, by simp, fun _ => rfl, fun h => by simp at h⟩
theorem RBuns.one {w : World} {N g : Nat} {b : Bun} {u : Value} {t : TypeId} (h : w.heap[g]? = some (.cells (bunC b u).toArray t (0, 0))) (hg : g < N) (hr : RBlks w N u b.blocks) : RBuns w N (.slice (some ⟨g, 0, none⟩) 1 1) [b] :=
  ⟨_, 1, rfl, Nat.le_refl _, by simp [maxLen], (fun h => by cases h), fun _ => ⟨g, 0, rfl, hg, fun i x hx => by
    match i, hx with
    | 0, hx =>
      simp at hx
      subst hx
      refine ⟨u, fun k v hv => ?_, hr⟩
      rw [cellB h]
      simpa using hv⟩⟩
set_option maxHeartbeats 1000000 in
theorem split_any (b : Bun) (u : Value) (m : Int) (N : Nat) (w : World) (hN : N ≤ w.heap.size) (h : RBlks w N u b.blocks) (hf : Fits b) :
    Calls Tryz.prog 22 #[.agg (bunC b u).toArray, .int .i64 m] w (BunsEPost N (splitR b m).1 (splitR b m).2 w) := by
  obtain ⟨E, hE⟩ : ∃ E, chkE b = E := ⟨_, rfl⟩
  obtain ⟨C, hC⟩ : ∃ E, cutE b = E := ⟨_, rfl⟩
  obtain ⟨ua, uc, rfl, _⟩ := id h
  have HR := Lib.hid h
  have HF := Lib.hid hf
  have HE := Lib.hid hE
  have HC := Lib.hid hC
  clear h hf
  by_cases z : E = 0
  case neg =>
    have z' : (E != 0) = true := by simpa using z
    have hr : splitR b m = ([], 1) := by unfold splitR; rw [hE, if_pos z]
    rw [hr]
    clear hE hC z hr
    go_enter Tryz.func22, Tryz.ntmps22
    simp only [bunC]
    go_wp2_with fail
    refine (check_any b _ _ (HR.out.below (C := w.heap.size) belowA hN (by first | omega | (simp; done) | (simp; omega))) HF.out).mono ?_
    rintro e w1 ⟨rfl, hb1⟩
    rw [HE.out]
    go_wp2
    go_ret2
    exact ⟨_, rfl, OutB.nil _ _ _, belowA⟩
  subst z
  obtain ⟨v1, v2, v3, v4, v5, v6, v7, v8, _, _⟩ := valid_facts hE
  have HV := Lib.hid (valid_blocks hE)
  by_cases z1 : m < 1
  case pos =>
    have hr : splitR b m = ([], 2) := by unfold splitR; rw [hE, if_neg (by simp), if_pos z1]
    rw [hr]
    clear hE hC hr
    go_enter Tryz.func22, Tryz.ntmps22
    simp only [bunC]
    go_wp2_with fail
    refine (check_any b _ _ (HR.out.below (C := w.heap.size) belowA hN (by first | omega | (simp; done) | (simp; omega))) HF.out).mono ?_
    rintro e w1 ⟨rfl, hb1⟩
    rw [HE.out]
    obtain ⟨k1, f1⟩ := bcell hb1
    have y1 : w.heap.size + 1 < w1.heap.size := by have := hb1.size; simp at this; omega
    have y0 : w.heap.size < w1.heap.size := by omega
    go_wp2
    go_ret2
    exact ⟨_, rfl, OutB.nil _ _ _, belowA⟩
  have z1' : 1 ≤ m := by omega
  by_cases z2 : (b.payload.length : Int) ≤ m
  case pos =>
    have hr : splitR b m = ([b], 0) := by unfold splitR; rw [hE, if_neg (by simp), if_neg z1, if_pos z2]
    rw [hr]
    clear hE hC hr z1
    go_enter Tryz.func22, Tryz.ntmps22
    simp only [bunC]
    go_wp2_with fail
    refine (check_any b _ _ (HR.out.below (C := w.heap.size) belowA hN (by first | omega | (simp; done) | (simp; omega))) HF.out).mono ?_
    rintro e w1 ⟨rfl, hb1⟩
    rw [HE.out]
    obtain ⟨k1, f1⟩ := bcell hb1
    have y1 : w.heap.size + 1 < w1.heap.size := by have := hb1.size; simp at this; omega
    have y0 : w.heap.size < w1.heap.size := by omega
    go_wp2
    go_ret2
    have hB : Below w.heap.size w (w1.alloc (.cells (bunC b (.slice ua b.blocks.length uc)).toArray 28)) := belowA
    exact ⟨_, rfl, OutB.one (u := .slice ua b.blocks.length uc) heap_new (by first | omega | (simp; omega)) hN (HR.out.below (C := w.heap.size) hB hN (Nat.le_refl N)), hB⟩
  have z2' : m < (b.payload.length : Int) := by omega
  by_cases y : C = 0
  case neg =>
    have y' : (C != 0) = true := by simpa using y
    have hr : splitR b m = ([], C) := by unfold splitR; rw [hE, hC, if_neg (by simp), if_neg z1, if_neg z2, if_pos y]
    rw [hr]
    clear hE hC y hr z1 z2
    go_enter Tryz.func22, Tryz.ntmps22
    simp only [bunC]
    go_wp2_with fail
    refine (check_any b _ _ (HR.out.below (C := w.heap.size) belowA hN (by first | omega | (simp; done) | (simp; omega))) HF.out).mono ?_
    rintro e w1 ⟨rfl, hb1⟩
    rw [HE.out]
    obtain ⟨k1, f1⟩ := bcell hb1
    have y1 : w.heap.size + 1 < w1.heap.size := by have := hb1.size; simp at this; omega
    have y0 : w.heap.size < w1.heap.size := by omega
    go_wp2_with fail
    refine (cuttable_any b _ _ v6 v7).mono ?_
    rintro e w2 ⟨rfl, hb2⟩
    rw [HC.out]
    go_wp2
    go_ret2
    exact ⟨_, rfl, OutB.nil _ _ _, belowA⟩
  subst y
  obtain ⟨m', rfl⟩ := Int.eq_ofNat_of_zero_le (show 0 ≤ m by omega)
  have hr : splitR b (m' : Int) = (partsOf b (sF m' b.payload.length) (sK m' b.payload.length), 0) := by unfold splitR; rw [hE, hC, if_neg (by simp), if_neg z1, if_neg z2, if_neg (by simp), Int.toNat_natCast]
  rw [hr]
  clear hE hC hr z1 z2
  have hkl := sK_le (m := m') (len := b.payload.length) (by omega)
  go_enter Tryz.func22, Tryz.ntmps22
  simp only [bunC]
  go_wp2_with fail
  refine (check_any b _ _ (HR.out.below (C := w.heap.size) belowA hN (by first | omega | (simp; done) | (simp; omega))) HF.out).mono ?_
  rintro e w1 ⟨rfl, hb1⟩
  rw [HE.out]
  obtain ⟨k1, f1⟩ := bcell hb1
  have y1 : w.heap.size + 1 < w1.heap.size := by have := hb1.size; simp at this; omega
  have y0 : w.heap.size < w1.heap.size := by omega
  go_wp2_with fail
  refine (cuttable_any b _ _ v6 v7).mono ?_
  rintro e w2 ⟨rfl, hb2⟩
  rw [HC.out]
  obtain ⟨k2, f2⟩ := bcell hb2
  have y2 : w.heap.size + 1 < w2.heap.size := by have := hb2.size; omega
  have y3 : w.heap.size < w2.heap.size := by omega
  go_wp2_with fail
  have hB2 : Below w.heap.size w w2 := belowA
  refine (divide_any b _ _ N _ (by omega) (HR.out.below (C := w.heap.size) hB2 hN (Nat.le_refl N)) _ (sF m' b.payload.length) (sK m' b.payload.length) rfl v1 (by omega) (by omega) (by omega) HV.out (by omega) ⟨_, _, _, rfl⟩
    (seqSplit _ b.off m' b.payload.length (w.heap.size + 1) (by omega) (by omega) (by omega) v1 (by omega) (by omega) (by rw [k2 _ _ (by omega), k1 _ _ (by simp)]; go_simp))).mono ?_
  rintro e w3 ⟨v3', rfl, hr3, hb3⟩
  go_wp2
  go_ret2
  exact ⟨_, rfl, hr3.mono (by first | omega | (simp; omega)), belowA⟩
end Go.Proofs.YthlbddcllikolaaGreat
/-! XFl -/
namespace Go.Proofs.YthlbddcllikolaaGreat
open Go Go.RowKit Go.Shelf
attribute [local go_sem] B_getElem B_size B_app B_extract B_get B_toList
set_option maxHeartbeats 1000000 in
theorem pieces_any (b : Bun) (u : Value) (m : Int) (N : Nat) (w : World) (hN : N ≤ w.heap.size) (h : RBlks w N u b.blocks) (hf : Fits b) :
    Calls Tryz.prog 23 #[.agg (bunC b u).toArray, .int .i64 m] w (BunsEPost N (piecesR b m).1 (piecesR b m).2 w) := by
  obtain ⟨E, hE⟩ : ∃ E, chkE b = E := ⟨_, rfl⟩
  obtain ⟨C, hC⟩ : ∃ E, cutE b = E := ⟨_, rfl⟩
  obtain ⟨ua, uc, rfl, _⟩ := id h
  have HR := Lib.hid h
  have HF := Lib.hid hf
  have HE := Lib.hid hE
  have HC := Lib.hid hC
  clear h hf
  by_cases z : E = 0
  case neg =>
    have z' : (E != 0) = true := by simpa using z
    have hr : piecesR b m = ([], 1) := by unfold piecesR; rw [hE, if_pos z]
    rw [hr]
    clear hE hC z hr
    go_enter Tryz.func23, Tryz.ntmps23
    simp only [bunC]
    go_wp2_with fail
    refine (check_any b _ _ (HR.out.below (C := w.heap.size) belowA hN (by first | omega | (simp; done) | (simp; omega))) HF.out).mono ?_
    rintro e w1 ⟨rfl, hb1⟩
    rw [HE.out]
    go_wp2
    go_ret2
    exact ⟨_, rfl, OutB.nil _ _ _, belowA⟩
  subst z
  obtain ⟨v1, v2, v3, v4, v5, v6, v7, v8, _, _⟩ := valid_facts hE
  have HV := Lib.hid (valid_blocks hE)
  by_cases z1 : m < 1
  case pos =>
    have hr : piecesR b m = ([], 2) := by unfold piecesR; rw [hE, if_neg (by simp), if_pos z1]
    rw [hr]
    clear hE hC hr
    go_enter Tryz.func23, Tryz.ntmps23
    simp only [bunC]
    go_wp2_with fail
    refine (check_any b _ _ (HR.out.below (C := w.heap.size) belowA hN (by first | omega | (simp; done) | (simp; omega))) HF.out).mono ?_
    rintro e w1 ⟨rfl, hb1⟩
    rw [HE.out]
    obtain ⟨k1, f1⟩ := bcell hb1
    have y1 : w.heap.size < w1.heap.size := by have := hb1.size; simp at this; omega
    have y0 : w.heap.size < w1.heap.size := by omega
    go_wp2
    go_ret2
    exact ⟨_, rfl, OutB.nil _ _ _, belowA⟩
  have z1' : 1 ≤ m := by omega
  by_cases z2 : m = 1
  case pos =>
    have hr : piecesR b m = ([b], 0) := by unfold piecesR; rw [hE, if_neg (by simp), if_neg z1, if_pos z2]
    rw [hr]
    subst z2
    clear hE hC hr z1
    go_enter Tryz.func23, Tryz.ntmps23
    simp only [bunC]
    go_wp2_with fail
    refine (check_any b _ _ (HR.out.below (C := w.heap.size) belowA hN (by first | omega | (simp; done) | (simp; omega))) HF.out).mono ?_
    rintro e w1 ⟨rfl, hb1⟩
    rw [HE.out]
    obtain ⟨k1, f1⟩ := bcell hb1
    have y1 : w.heap.size < w1.heap.size := by have := hb1.size; simp at this; omega
    have y0 : w.heap.size < w1.heap.size := by omega
    go_wp2
    go_ret2
    have hB : Below w.heap.size w (w1.alloc (.cells (bunC b (.slice ua b.blocks.length uc)).toArray 28)) := belowA
    exact ⟨_, rfl, OutB.one (u := .slice ua b.blocks.length uc) heap_new (by first | omega | (simp; omega)) hN (HR.out.below (C := w.heap.size) hB hN (Nat.le_refl N)), hB⟩
  by_cases y : C = 0
  case neg =>
    have y' : (C != 0) = true := by simpa using y
    have hr : piecesR b m = ([], C) := by unfold piecesR; rw [hE, hC, if_neg (by simp), if_neg z1, if_neg z2, if_pos y]
    rw [hr]
    have z2' : (m == 1) = false := beq_eq_false_iff_ne.2 z2
    clear hE hC y hr z1 z2
    go_enter Tryz.func23, Tryz.ntmps23
    simp only [bunC]
    go_wp2_with fail
    refine (check_any b _ _ (HR.out.below (C := w.heap.size) belowA hN (by first | omega | (simp; done) | (simp; omega))) HF.out).mono ?_
    rintro e w1 ⟨rfl, hb1⟩
    rw [HE.out]
    obtain ⟨k1, f1⟩ := bcell hb1
    have y1 : w.heap.size < w1.heap.size := by have := hb1.size; simp at this; omega
    have y0 : w.heap.size < w1.heap.size := by omega
    go_wp2_with fail
    refine (cuttable_any b _ _ v6 v7).mono ?_
    rintro e w2 ⟨rfl, hb2⟩
    rw [HC.out]
    go_wp2
    go_ret2
    exact ⟨_, rfl, OutB.nil _ _ _, belowA⟩
  subst y
  have z2' : (m == 1) = false := beq_eq_false_iff_ne.2 z2
  by_cases z3 : (b.payload.length : Int) < m
  case pos =>
    have hr : piecesR b m = ([], 2) := by unfold piecesR; rw [hE, hC, if_neg (by simp), if_neg z1, if_neg z2, if_neg (by simp), if_pos z3]
    rw [hr]
    clear hE hC hr z1 z2
    go_enter Tryz.func23, Tryz.ntmps23
    simp only [bunC]
    go_wp2_with fail
    refine (check_any b _ _ (HR.out.below (C := w.heap.size) belowA hN (by first | omega | (simp; done) | (simp; omega))) HF.out).mono ?_
    rintro e w1 ⟨rfl, hb1⟩
    rw [HE.out]
    obtain ⟨k1, f1⟩ := bcell hb1
    have y0 : w.heap.size < w1.heap.size := by have := hb1.size; simp at this; omega
    go_wp2_with fail
    refine (cuttable_any b _ _ v6 v7).mono ?_
    rintro e w2 ⟨rfl, hb2⟩
    rw [HC.out]
    obtain ⟨k2, f2⟩ := bcell hb2
    have y3 : w.heap.size < w2.heap.size := by have := hb2.size; omega
    go_wp2
    go_ret2
    exact ⟨_, rfl, OutB.nil _ _ _, belowA⟩
  obtain ⟨n', rfl⟩ := Int.eq_ofNat_of_zero_le (show 0 ≤ m by omega)
  have hr : piecesR b (n' : Int) = (partsOf b (pF n' b.payload.length) n', 0) := by unfold piecesR; rw [hE, hC, if_neg (by simp), if_neg z1, if_neg z2, if_neg (by simp), if_neg z3, Int.toNat_natCast]
  rw [hr]
  have z3' : (n' : Int) ≤ (b.payload.length : Int) := by omega
  clear hE hC hr z1 z2 z3
  go_enter Tryz.func23, Tryz.ntmps23
  simp only [bunC]
  go_wp2_with fail
  refine (check_any b _ _ (HR.out.below (C := w.heap.size) belowA hN (by first | omega | (simp; done) | (simp; omega))) HF.out).mono ?_
  rintro e w1 ⟨rfl, hb1⟩
  rw [HE.out]
  obtain ⟨k1, f1⟩ := bcell hb1
  have y0 : w.heap.size < w1.heap.size := by have := hb1.size; simp at this; omega
  go_wp2_with fail
  refine (cuttable_any b _ _ v6 v7).mono ?_
  rintro e w2 ⟨rfl, hb2⟩
  rw [HC.out]
  obtain ⟨k2, f2⟩ := bcell hb2
  have y3 : w.heap.size < w2.heap.size := by have := hb2.size; omega
  have hB2 : Below w.heap.size w w2 := belowA
  have g2 : w2.heap[w.heap.size]? = some (.cells (bunC b (.slice ua b.blocks.length uc)).toArray 28 (0, 0)) := ((hb2.block _ (by omega)).trans (hb1.block _ (by simp))).trans (by repeat (first | exact heap_new' (by first | rfl | (simp; done)) | refine (Below.heap_alloc _ _ _ (by first | (simp; done) | (simp; omega))).trans ?_))
  have c11 : w2.cell? ⟨w.heap.size, 11, none⟩ = some (.string (B b.payload)) := cellB g2 11
  have G2 := Lib.hid g2
  have hnz : ((n' : Int) == 0) = false := beq_eq_false_iff_ne.2 (by omega)
  have hn0 : (0 : Int) < (n' : Int) := by omega
  obtain ⟨Q1, hQ1⟩ : ∃ q : Int, ((b.payload.length / n' : Nat) : Int) = q := ⟨_, rfl⟩
  obtain ⟨Q2, hQ2⟩ : ∃ q : Int, ((b.payload.length % n' : Nat) : Int) = q := ⟨_, rfl⟩
  have hq : IntKind.i64.wrap ((b.payload.length : Int) / (n' : Int)) = Q1 := by
    rw [← hQ1, ← Int.natCast_ediv]; exact wrap_nat _ (Nat.le_trans (Nat.div_le_self _ _) (by omega))
  have hrm : (b.payload.length : Int) % (n' : Int) = Q2 := by rw [← hQ2, ← Int.natCast_emod]
  have hrm2 : (b.payload.length : Int).tmod (n' : Int) = Q2 := by rw [Int.tmod_eq_emod_of_nonneg (by omega)]; exact hrm
  have hnN : ¬ n' = 0 := by omega
  have HQ1 := Lib.hid hQ1
  have HQ2 := Lib.hid hQ2
  clear hQ1 hQ2
  clear k1 k2 f1 f2 g2 hb1 hb2
  go_wp2
  refine wp_region_fork (fun w' => w'.cell? ⟨w.heap.size, 11, none⟩ = some (.string (B b.payload))) [0, 1, 0, 0, 0, 0, 1, 0, 0, 0, 2, 2, 2, 3] [0, 1, 2, 3, 4, 5, 6, 7, 8, 9] 10 11 [11, 12, 13] [10, 12, 13] (by kernel_rfl) (by kernel_rfl) ?_ ?_
  · go_simp
  (iterate 10 (refine planR_held rfl (by rfl) (fun w1 hS => by (try (have hS := hS rfl; obtain hS := hS; repeat (obtain ⟨_, hS⟩ := hS))); go_simp; rfl) ?_; simp only [Act.put, List.setIfInBounds_toArray, List.set_cons_zero, List.set_cons_succ]))
  refine ⟨?_, ?_⟩
  · (refine fork_op rfl (by rfl) (fun K hK => ?_); go_simp)
    (refine hK _ _ (by go_simp) ?_; clear hK K; (try simp only [Act.put, List.setIfInBounds_toArray, List.set_cons_zero, List.set_cons_succ]))
    (refine plan_keep rfl rfl (by rfl) (fun K hK => ?_); go_simp)
    (refine hK _ _ (by go_simp) ?_; clear hK K; (try simp only [Act.put, List.setIfInBounds_toArray, List.set_cons_zero, List.set_cons_succ]))
    clear hq hrm hrm2
    have hne : w2.heap.size ≠ w.heap.size := by omega
    (refine plan_keep rfl rfl (by rfl) (fun K hK => ?_); go_simp)
    (refine hK _ _ (by go_simp) ?_; clear hK K; (try simp only [Act.put, List.setIfInBounds_toArray, List.set_cons_zero, List.set_cons_succ]))
    (refine plan_late rfl rfl (by rfl) (fun K hK => ?_); go_simp)
    (refine hK _ _ ?_; clear hK K; (try simp only [Act.put, List.setIfInBounds_toArray, List.set_cons_zero, List.set_cons_succ]))
    refine plan_done ?_
    have ca := fun o => cellB G2.out o
    simp only [bunC] at ca
    go_wp2_with fail
    have hB3 : Below w.heap.size w (((w2.alloc (.cells #[.int .i64 Q1] 3)).alloc (.cells #[.int .i64 Q2] 3)).drew) := belowA
    refine (divide_any b _ _ N _ ?_ (HR.out.below (C := w.heap.size) hB3 hN (Nat.le_refl N)) _ (pF n' b.payload.length) n' rfl v1 (by omega) (by omega) (by omega) HV.out (by omega) ⟨_, _, _, rfl⟩
      (seqPieces _ b.off n' b.payload.length (w2.heap.size + 1) w2.heap.size (by omega) (by omega) (by omega) v1 (by omega) (by simp <;> omega) (by simp <;> omega) (by rw [HQ2.out]; go_simp <;> omega) (by rw [HQ1.out]; go_simp <;> omega))).mono ?_
    · simp; omega
    rintro e w3 ⟨v3', rfl, hr3, hb3⟩
    go_wp2
    go_ret2
    exact ⟨_, rfl, hr3.mono (by first | omega | (simp; omega)), belowA⟩
  · (refine fork_op rfl (by rfl) (fun K hK => ?_); go_simp)
    (refine hK _ _ (by go_simp) ?_; clear hK K; (try simp only [Act.put, List.setIfInBounds_toArray, List.set_cons_zero, List.set_cons_succ]))
    (refine plan_keep rfl rfl (by rfl) (fun K hK => ?_); go_simp)
    (refine hK _ _ (by go_simp) ?_; clear hK K; (try simp only [Act.put, List.setIfInBounds_toArray, List.set_cons_zero, List.set_cons_succ]))
    clear hq hrm hrm2
    have hne : w2.heap.size ≠ w.heap.size := by omega
    (refine plan_keep rfl rfl (by rfl) (fun K hK => ?_); go_simp)
    (refine hK _ _ (by go_simp) ?_; clear hK K; (try simp only [Act.put, List.setIfInBounds_toArray, List.set_cons_zero, List.set_cons_succ]))
    (refine plan_late rfl rfl (by rfl) (fun K hK => ?_); go_simp)
    (refine hK _ _ ?_; clear hK K; (try simp only [Act.put, List.setIfInBounds_toArray, List.set_cons_zero, List.set_cons_succ]))
    refine plan_done ?_
    have ca := fun o => cellB G2.out o
    simp only [bunC] at ca
    go_wp2_with fail
    have hB3 : Below w.heap.size w (((w2.alloc (.cells #[.int .i64 Q2] 3)).alloc (.cells #[.int .i64 Q1] 3)).drew) := belowA
    refine (divide_any b _ _ N _ ?_ (HR.out.below (C := w.heap.size) hB3 hN (Nat.le_refl N)) _ (pF n' b.payload.length) n' rfl v1 (by omega) (by omega) (by omega) HV.out (by omega) ⟨_, _, _, rfl⟩
      (seqPieces _ b.off n' b.payload.length w2.heap.size (w2.heap.size + 1) (by omega) (by omega) (by omega) v1 (by omega) (by simp <;> omega) (by simp <;> omega) (by rw [HQ2.out]; go_simp <;> omega) (by rw [HQ1.out]; go_simp <;> omega))).mono ?_
    · simp; omega
    rintro e w3 ⟨v3', rfl, hr3, hb3⟩
    go_wp2
    go_ret2
    exact ⟨_, rfl, hr3.mono (by first | omega | (simp; omega)), belowA⟩
end Go.Proofs.YthlbddcllikolaaGreat
