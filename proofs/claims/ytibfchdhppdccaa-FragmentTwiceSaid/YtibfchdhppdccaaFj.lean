/- Walks of layer 17 (fragment): Split, Pieces. -/
import Derived.Test.YtibfchdhppdccaaFi
set_option linter.unusedVariables false
set_option linter.unusedSimpArgs false
namespace Go.Proofs.Ytibfchdhppdccaa
open Go Go.RowKit Go.Shelf
attribute [local go_sem] Oper.semAt_some
attribute [local go_sem] B_getElem B_size B_app B_extract B_get B_toList

/-! ### The cuts' places -/
def sF (m len k : Nat) : Nat := min (k * m) len
def sK (m len : Nat) : Nat := (len + m - 1) / m
theorem sK_ge {m len : Nat} (hm : 1 ≤ m) : len ≤ sK m len * m := by
  unfold sK
  have h1 := Nat.div_add_mod (len + m - 1) m
  have h2 := Nat.mod_lt (len + m - 1) (show 0 < m by omega)
  rw [Nat.mul_comm] at h1
  omega
theorem sK_lt {m len k : Nat} (hm : 1 ≤ m) (hk : k < sK m len) : k * m < len := by
  unfold sK at hk
  have h1 : (k + 1) * m ≤ len + m - 1 := (Nat.le_div_iff_mul_le (by omega)).1 hk
  rw [Nat.succ_mul] at h1
  omega
theorem sK_le {m len : Nat} (hm : 1 ≤ m) : sK m len ≤ len := by
  rcases Nat.eq_zero_or_pos (sK m len) with h | h
  · omega
  · have := sK_lt (len := len) (k := sK m len - 1) hm (by omega)
    have h2 := Nat.le_mul_of_pos_right (sK m len - 1) (show 0 < m by omega)
    omega
def pF (n len k : Nat) : Nat := k * (len / n) + min k (len % n)
theorem pF_succ (n len k : Nat) : pF n len (k + 1) = pF n len k + if k < len % n then len / n + 1 else len / n := by
  unfold pF; rw [Nat.succ_mul]; split <;> omega
theorem pF_n {n len : Nat} (hn : 1 ≤ n) : pF n len n = len := by
  unfold pF
  have := Nat.mod_lt len (show 0 < n by omega)
  have h := Nat.div_add_mod len n
  rw [show min n (len % n) = len % n by omega]
  exact h
theorem pF_mono (n len : Nat) : ∀ {a b : Nat}, a ≤ b → pF n len a ≤ pF n len b := by
  intro a b h
  unfold pF
  have := Nat.mul_le_mul_right (len / n) h
  omega

theorem jdrew {α : Type} {B' : Nat} {J : List α → World → Prop} (h : AbidesFrom B' J) : ∀ pre W, J pre W → J pre W.drew := fun pre W hj => h pre W W.drew none hj ⟨rfl, rfl, rfl, Nat.le_refl _, fun _ _ _ => rfl⟩ (fun r e => by cases e)

theorem seqSplit (w : World) (off : Int) (m len : Nat) (Bm : Nat) (hm : 1 ≤ m) (hm2 : m ≤ 1000000) (hl : len ≤ 100000) (h0 : 0 ≤ off) (h1 : off ≤ 100000) (hb : Bm < w.heap.size) (hc : w.cell? ⟨Bm, 0, none⟩ = some (.int .i64 (m : Int))) :
    PartsSeq w off (off + len) (.func (.func 31) #[] #[.pointer (some ⟨Bm, 0, none⟩)]) (sF m len) (sK m len) := by
  intro Bx Bs n₀ z W hW hbx hbs hzx hzs hwz hwn hnW c0 c1 c2 l J Jx W' hW' hJ _ hY hJ0
  have hge := sK_ge (len := len) hm
  have hle := sK_le (len := len) hm
  have k' : ∀ q o, q < W.heap.size → W'.cell? ⟨q, o, none⟩ = W.cell? ⟨q, o, none⟩ := fun q o hq => hW'.cell (p := ⟨q, o, none⟩) hq
  refine partsS_in Fence.wide 11 trivial trivial rfl (by omega) l Bx Bs Bm n₀ z off (off + len) m (sF m len) (sK m len) (fun k V hV => callsIn_wide.2 (split1_any k m Bm V hV)) (by simp [sF]) ?_ ?_ h0 (by omega) (by omega) (by omega) (by omega) hbx hbs (by omega) hzx hzs (by omega) J Jx (jdrew hJ) hY W'
    ((k' _ _ (by omega)).trans c0) ((k' _ _ (by omega)).trans c1) ((k' _ _ (by omega)).trans c2) (((k' _ _ (by omega)).trans (hW.cell (p := ⟨Bm, 0, none⟩) hb)).trans hc) hJ0
  · unfold sF; omega
  · intro k hk
    have h2 := sK_lt hm hk
    unfold sF
    rw [Nat.succ_mul]
    omega

theorem seqPieces (w : World) (off : Int) (n len : Nat) (Bm Be : Nat) (hn : 1 ≤ n) (hn2 : n ≤ len) (hl : len ≤ 100000) (h0 : 0 ≤ off) (h1 : off ≤ 100000) (hb : Bm < w.heap.size) (hbe : Be < w.heap.size) (hc : w.cell? ⟨Bm, 0, none⟩ = some (.int .i64 ((len % n : Nat) : Int))) (hce : w.cell? ⟨Be, 0, none⟩ = some (.int .i64 ((len / n : Nat) : Int))) :
    PartsSeq w off (off + len) (.func (.func 36) #[] #[.pointer (some ⟨Bm, 0, none⟩), .pointer (some ⟨Be, 0, none⟩)]) (pF n len) n := by
  intro Bx Bs n₀ z W hW hbx hbs hzx hzs hwz hwn hnW c0 c1 c2 l J Jx W' hW' hJ _ hY hJ0
  have k' : ∀ q o, q < W.heap.size → W'.cell? ⟨q, o, none⟩ = W.cell? ⟨q, o, none⟩ := fun q o hq => hW'.cell (p := ⟨q, o, none⟩) hq
  have he : 1 ≤ len / n := (Nat.one_le_div_iff (by omega)).2 hn2
  have he2 : len / n ≤ len := Nat.div_le_self _ _
  refine partsP_in Fence.wide 11 trivial trivial rfl (by omega) l Bx Bs Bm Be n₀ z off (off + len) ((len / n : Nat) : Int) ((len % n : Nat) : Int) (fun k => if k < len % n then ((len / n : Nat) : Int) + 1 else ((len / n : Nat) : Int)) (pF n len) n
    (fun k V hk hV hV2 => callsIn_wide.2 ((pieces1_any k _ _ Bm Be V hV hV2 (by omega) (by omega)).mono fun e w' ⟨h1, h2⟩ => ⟨h1.trans (ret_int (by by_cases hh : k < len % n <;> simp [hh] <;> omega)), h2⟩)) (by simp [pF]) (by rw [pF_n hn]) ?_ h0 (by omega) (fun k hk => by split <;> omega) (by omega) hbx hbs (by omega) hzx hzs (by omega) (by omega) (by omega) J Jx (jdrew hJ) hY W'
    ((k' _ _ (by omega)).trans c0) ((k' _ _ (by omega)).trans c1) ((k' _ _ (by omega)).trans c2) (((k' _ _ (by omega)).trans (hW.cell (p := ⟨Bm, 0, none⟩) hb)).trans hc) (((k' _ _ (by omega)).trans (hW.cell (p := ⟨Be, 0, none⟩) hbe)).trans hce) hJ0
  intro k hk
  have h2 := pF_succ n len k
  have h3 := pF_mono n len (show k + 1 ≤ n by omega)
  rw [pF_n hn] at h3
  split at h2
  all_goals
    rename_i hh
    simp only [hh, if_true, if_false]
    omega
end Go.Proofs.Ytibfchdhppdccaa
