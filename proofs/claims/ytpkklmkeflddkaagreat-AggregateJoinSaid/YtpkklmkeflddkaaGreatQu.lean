/- Chapter 19: the law's awake. -/
import Derived.Test.YtpkklmkeflddkaaGreatQs
import Derived.Test.YtpkklmkeflddkaaGreatQm
import Derived.Test.YtpkklmkeflddkaaGreatQj
set_option linter.unusedVariables false
set_option linter.unusedSimpArgs false
namespace Go.Proofs.YtpkklmkeflddkaaGreat
open Go Go.RowKit Go.Shelf
attribute [local go_sem] Oper.semAt_some
attribute [local go_sem] B_getElem B_size B_app B_extract B_get B_toList
theorem own_lit {W : World} {base g n size : Nat} {e : TypeId} {xs : List Value} (hg : W.heap[g]? = some (.cells xs.toArray e (0, 0))) (hb : base ≤ g) (hl : xs.length = n * size) (hm : n ≤ maxLen) : W.ownsRow base e size (.slice (some ⟨g, 0, none⟩) n n) n xs :=
  ⟨hl, .inr ⟨g, n, xs.toArray, rfl, hb, hg, Nat.le_refl _, hm, by simpa using hl, by rw [← hl]; simp⟩⟩
theorem rints_lit {W : World} {g : Nat} {e : TypeId} {l : List Int} (hg : W.heap[g]? = some (.cells (ints l).toArray e (0, 0))) (hm : l.length ≤ maxLen) : RInts W W.heap.size (.slice (some ⟨g, 0, none⟩) l.length l.length) l := by
  have hlt : g < W.heap.size := by
    rcases Nat.lt_or_ge g W.heap.size with z | z
    · exact z
    · rw [Array.getElem?_eq_none z] at hg; cases hg
  refine ⟨some ⟨g, 0, none⟩, l.length, rfl, Nat.le_refl _, hm, fun h => (by cases h), fun hp => ⟨g, 0, rfl, hlt, fun i x hx => ?_⟩⟩
  have := cellB hg (0 + i)
  rw [this]
  simp [ints, hx]
def awX : Bun := ⟨1, 5, 0, 0, 0, 1, 2, 9, 0, 0, [], [109, 97, 105, 108]⟩
def awJ : Bun := ⟨1, 5, 3, 0, 0, 1, 2, 9, 0, 64, [], payS [awX, awX]⟩
theorem awX_chk : chkE awX = 0 := by rfl
theorem aw_len : (payS [awX, awX]).length ≤ 4096 := by decide +kernel
theorem aw_join : joinS [awX, awX] 3 = (awJ, 0) := by
  unfold joinS
  rw [if_neg (by rw [show chkJ [awX, awX] = 0 from by rfl]; simp), if_neg (by omega), if_neg (by rw [show crtS [awX, awX] = 5 from by rfl, show endS [awX, awX] = 14 from by rfl]; omega), if_neg (by have := aw_len; omega)]
  rfl
theorem aw_sep : sepS awJ = ([awX, awX], 0) := sep_join aw_join (by decide)
theorem aw_sepX : sepS awX = ([], 8) := by
  unfold sepS
  rw [if_neg (by rw [awX_chk]; simp), if_pos (by rfl)]
theorem aw_pack : packS [4, 3, 5, 2, 1] 7 = ([[0, 1], [2, 3], [4]], 0) := by decide
theorem awX_fit : Fits awX := fits_valid awX_chk
theorem awJ_fit : Fits awJ := fits_valid (join_valid aw_join).1
set_option maxRecDepth 100000 in
set_option maxHeartbeats 8000000 in
theorem awake_any (w : World) : Calls Tryz.prog 5 #[] w (Says w) := by
  obtain ⟨P, hP⟩ : ∃ q, payS [awX, awX] = q := ⟨_, rfl⟩
  have HP := Lib.hid hP
  have HSJ : Hid (sepS ⟨1, 5, 3, 0, 0, 1, 2, 9, 0, 64, [], P⟩ = ([awX, awX], 0)) := Lib.hid (by rw [← hP]; exact aw_sep)
  have HFJ : Hid (Fits ⟨1, 5, 3, 0, 0, 1, 2, 9, 0, 64, [], P⟩) := Lib.hid (by rw [← hP]; exact awJ_fit)
  clear hP
  go_enter Tryz.func5, Tryz.ntmps5
  go_wp2_with fail
  refine (pack_any [4, 3, 5, 2, 1] _ 7 _ (rints_lit (e := 3) heap_new (by simp [maxLen]))).mono ?_
  unfold PackPost
  rw [aw_pack]
  rintro e w1 ⟨r, rfl, hb1, hg1⟩
  simp only at hg1
  have hB1 : Below w.heap.size w w1 := btrans0 (balloc0 (Below.refl _ _)) hb1
  obtain ⟨ra, rc, rfl⟩ := hg1.len
  have HG1 := Lib.hid hg1
  clear hg1 hb1
  go_wp2_with fail
  refine (join_any [awX, awX] _ 3 _ (RBuns.of_own (rs := [(awX, .slice none 0 0), (awX, .slice none 0 0)]) (own_lit (base := 0) (n := 2) (size := 12) (e := 31) (by exact heap_new' (by simp)) (Nat.zero_le _) (by rfl) (by simp [maxLen])) (fun r hr => by
    have : r = (awX, .slice none 0 0) := by simpa using hr
    subst this
    exact RBlks.nil _ _)) (fun x hx => by
    have : x = awX := by simpa using hx
    subst this
    exact awX_fit) (by simp)).mono ?_
  rw [aw_join]
  unfold JoinPost
  rintro e w2 ⟨rfl, hb2⟩
  have hB2 : Below w.heap.size w w2 := btrans0 (balloc0 (balloc0 hB1)) hb2
  have hb12 : Below w1.heap.size w1 w2 := btrans0 (balloc0 (balloc0 (Below.refl _ _))) hb2
  have hx2 : w2.heap[w1.heap.size]? = some (.cells (bunC awX (.slice none 0 0)).toArray 31 (0, 0)) := (hb2.block _ (by simp; omega)).trans (by repeat (first | exact heap_new' (by first | rfl | (simp; done)) | refine (Below.heap_alloc _ _ _ (by first | (simp; done) | (simp; omega))).trans ?_))
  have z2 : w1.heap.size < w2.heap.size := by have := hb2.size; (try simp at this); omega
  have HX2 := Lib.hid hx2
  clear hb2 hx2
  simp only [bunC, awJ]
  rw [HP.out]
  go_wp2_with fail
  refine (sameGroups_any [[0, 1], [2, 3], [4]] _ 0 _ _ _ (HG1.out.step (by repeat' (first | with_reducible (first | refine bset ?_ ?_ | exact Below.refl _ _ | assumption | refine bdrewN ?_ _ | refine bdrew ?_ | refine balloc0 ?_ | refine balloc ?_ ?_ | (apply btrans0; rotate_left; assumption) | (apply btrans; rotate_left; assumption)) | exact Below.refl _ _ | assumption | (apply btrans0; rotate_left; assumption) | (apply btrans; rotate_left; assumption) | (simp; done) | omega | (simp; omega)))) ⟨[.slice (some ⟨w2.heap.size + 1, 0, none⟩) 2 2, .slice (some ⟨w2.heap.size + 1 + 1, 0, none⟩) 2 2, .slice (some ⟨w2.heap.size + 1 + 1 + 1, 0, none⟩) 1 1], own_lit (n := 3) (size := 1) (by repeat (first | exact heap_new' (by first | rfl | (simp; done)) | refine (Below.heap_alloc _ _ _ (by first | (simp; done) | (simp; omega))).trans ?_)) (Nat.zero_le _) (by rfl) (by simp [maxLen]), fun k x g hx hg => ?_, fun i j x y q hx hy hqx hqy => ?_⟩ (by simp)).mono ?_
  · rcases k with _ | _ | _ | k
    · simp at hx hg; subst hx hg; exact own_lit (n := 2) (size := 1) (by repeat (first | exact heap_new' (by first | rfl | (simp; done)) | refine (Below.heap_alloc _ _ _ (by first | (simp; done) | (simp; omega))).trans ?_)) (Nat.zero_le _) (by rfl) (by simp [maxLen])
    · simp at hx hg; subst hx hg; exact own_lit (n := 2) (size := 1) (by repeat (first | exact heap_new' (by first | rfl | (simp; done)) | refine (Below.heap_alloc _ _ _ (by first | (simp; done) | (simp; omega))).trans ?_)) (Nat.zero_le _) (by rfl) (by simp [maxLen])
    · simp at hx hg; subst hx hg; exact own_lit (n := 1) (size := 1) (by repeat (first | exact heap_new' (by first | rfl | (simp; done)) | refine (Below.heap_alloc _ _ _ (by first | (simp; done) | (simp; omega))).trans ?_)) (Nat.zero_le _) (by rfl) (by simp [maxLen])
    · simp at hx
  · rcases i with _ | _ | _ | i <;> rcases j with _ | _ | _ | j
    all_goals first
      | rfl
      | (simp at hx; done)
      | (simp at hy; done)
      | (exfalso; simp at hx hy; subst hx hy; simp [Value.ownBlock] at hqx hqy; omega)
  rintro e w3 ⟨rfl, hb3⟩
  have hB3 : Below w.heap.size w w3 := btrans0 (balloc0 (balloc0 (balloc0 (balloc0 (balloc0 hB2))))) hb3
  have hb23 : Below w2.heap.size w2 w3 := btrans0 (balloc0 (balloc0 (balloc0 (balloc0 (balloc0 (Below.refl _ _)))))) hb3
  have hj3 : w3.heap[w2.heap.size]? = some (.cells (bunC ⟨1, 5, 3, 0, 0, 1, 2, 9, 0, 64, [], P⟩ (.slice none 0 0)).toArray 31 (0, 0)) := (hb3.block _ (by simp; omega)).trans (by repeat (first | exact heap_new' (by first | rfl | (simp; done)) | refine (Below.heap_alloc _ _ _ (by first | (simp; done) | (simp; omega))).trans ?_))
  have hx3 := (hb23.block _ z2).trans HX2.out
  have z3 : w2.heap.size < w3.heap.size := by have := hb3.size; (try simp at this); omega
  have HX3 := Lib.hid hx3
  have cj := fun o => cellB hj3 o
  have cx := fun o => cellB hx3 o
  simp only [bunC, awX] at cj cx
  clear hb3 hj3 hx3
  go_wp2_with fail
  refine (is_any ⟨1, 5, 3, 0, 0, 1, 2, 9, 0, 64, [], P⟩ _ _ (RBlks.nil _ _) HFJ.out).mono ?_
  rw [HSJ.out]
  rintro e w4 ⟨rfl, hb4⟩
  have hx4 := (hb4.block _ (by omega)).trans HX3.out
  clear cx cj
  have cx := fun o => cellB hx4 o
  simp only [bunC, awX] at cx
  clear hx4
  go_wp2_with fail
  refine (is_any awX _ _ (RBlks.nil _ _) awX_fit).mono ?_
  rw [aw_sepX]
  rintro e w5 ⟨rfl, hb5⟩
  go_wp2
  go_ret
  exact ⟨rfl, (by repeat' (first | with_reducible (first | refine bset ?_ ?_ | exact Below.refl _ _ | assumption | refine bdrewN ?_ _ | refine bdrew ?_ | refine balloc0 ?_ | refine balloc ?_ ?_ | (apply btrans0; rotate_left; assumption) | (apply btrans; rotate_left; assumption)) | exact Below.refl _ _ | assumption | (apply btrans0; rotate_left; assumption) | (apply btrans; rotate_left; assumption) | (simp; done) | omega | (simp; omega)))⟩
end Go.Proofs.YtpkklmkeflddkaaGreat
