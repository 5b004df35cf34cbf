/- TopMirrorTight: journey: frontier.next (printed by gen/g22.py) -/
import Derived.BigQuiet
import Derived.BigRegion
import Derived.Deep.DeepCutAuto
import Derived.Test.YtbpmccfbfpgijaaGreatJt
import Derived.Test.YtbpmccfbfpgijaaGreatNf
set_option linter.unusedVariables false
set_option linter.unusedSimpArgs false
namespace Go.Proofs.YtbpmccfbfpgijaaGreat
open Go Go.RowKit Iv
attribute [local go_sem] Oper.semAt_some
attribute [local go_sem] B_getElem B_size B_app B_extract B_get B_toList
/-- the best of the first k: reached, not left, the least time; the first of such -/
def nxS (F : List Int) (l : List Bool) : Nat → Int
  | 0 => -1
  | k + 1 => if 0 ≤ F.getD k (-1) ∧ l.getD k true = false ∧ (nxS F l k < 0 ∨ F.getD k (-1) < F.getD (nxS F l k).toNat (-1)) then (k : Int) else nxS F l k
theorem nxS_bnd (F : List Int) (l : List Bool) : ∀ k, -1 ≤ nxS F l k ∧ nxS F l k < k
  | 0 => by unfold nxS; omega
  | k + 1 => by
    have := nxS_bnd F l k
    unfold nxS
    split <;> omega
theorem nxS_succ {F : List Int} {l : List Bool} {k : Nat} {x : Int} {y : Bool} (hx : F[k]? = some x) (hy : l[k]? = some y) : nxS F l (k + 1) = if 0 ≤ x ∧ y = false ∧ (nxS F l k < 0 ∨ x < F.getD (nxS F l k).toNat (-1)) then (k : Int) else nxS F l k := by
  conv => lhs; unfold nxS
  rw [List.getD_eq_getElem?_getD, List.getD_eq_getElem?_getD (l := l), hx, hy]
  rfl
/-- the list of nodes in its block -/
def FB (w : World) (fb gt gl n : Nat) (nt nl : Nat) (F : List Int) (l : List Bool) : Prop :=
  w.heap[fb]? = some (.cells #[.slice (some ⟨gt, 0, none⟩) n nt, .slice (some ⟨gl, 0, none⟩) n nl] 91 (0, 0)) ∧ w.heap[gt]? = some (.cells (F.map (Value.int .i64)).toArray 3 (0, 0)) ∧ w.heap[gl]? = some (.cells (l.map Value.bool).toArray 4 (0, 0)) ∧ F.length = n ∧ l.length = n
def NextPost (fb gt gl n nt nl : Nat) (F : List Int) (l : List Bool) (w : World) (e : Ending) (w' : World) : Prop :=
  e = .returned (.int .i64 (nxS F l n)) ∧ (∀ B, B ≤ gl → Below B w w') ∧ (∀ q, q ≠ gl → w'.heap[q]? = w.heap[q]?) ∧ w'.heap[gl]? = some (.cells ((if nxS F l n < 0 then l else l.set (nxS F l n).toNat true).map Value.bool).toArray 4 (0, 0)) ∧ w'.heap.size = w.heap.size
set_option maxRecDepth 100000 in
set_option maxHeartbeats 8000000 in
theorem next_any (fb gt gl n nt nl : Nat) (F : List Int) (l : List Bool) (w : World) (h : FB w fb gt gl n nt nl F l) (hn : n ≤ 16) :
    Calls Tryz.prog 35 #[.pointer (some ⟨fb, 0, none⟩)] w (NextPost fb gt gl n nt nl F l w) := by
  obtain ⟨h1, h2, h3, h4, h5⟩ := h
  have cf := fun o => cellB h1 o
  have cF : ∀ k (x : Int), F[k]? = some x → w.cell? ⟨gt, k, none⟩ = some (.int .i64 x) := fun k x hx => by rw [cellB h2]; simp [hx]
  have cl : ∀ k (x : Bool), l[k]? = some x → w.cell? ⟨gl, k, none⟩ = some (.bool x) := fun k x hx => by rw [cellB h3]; simp [hx]
  have CF_ := Lib.hid cF
  have CL := Lib.hid cl
  have H3 := Lib.hid h3
  have H4 := Lib.hid h4
  have H5 := Lib.hid h5
  clear cF cl h2 h3 h4 h5
  go_enter Tryz.func35, Tryz.ntmps35
  go_wp2
  go_loop [11, 3] (fun i b => ∃ k : Nat, k ≤ n ∧ i = .int .i64 k ∧ b = .int .i64 (nxS F l k)) (fun i _ => n - (intOf i).toNat)
  case atStart => exact ⟨0, Nat.zero_le _, rfl, rfl⟩
  case round =>
    obtain ⟨k, hk, rfl, rfl⟩ := hrel
    by_cases hlt : k < n
    · obtain ⟨x, hx⟩ : ∃ x, F[k]? = some x := ⟨_, List.getElem?_eq_getElem (by have := H4.out; omega)⟩
      obtain ⟨y, hy⟩ : ∃ y, l[k]? = some y := ⟨_, List.getElem?_eq_getElem (by have := H5.out; omega)⟩
      have c1 := CF_.out k x hx
      have c2 := CL.out k y hy
      have hb := nxS_bnd F l k
      have HST := Lib.hid (nxS_succ hx hy)
      obtain ⟨B, hB⟩ : ∃ q, nxS F l k = q := ⟨_, rfl⟩
      rw [hB] at hb HST ⊢
      have HB := Lib.hid hB
      have k0 : (0 : Int) ≤ (k : Int) := by omega
      have k1 : (k : Int) < (n : Int) := by omega
      clear hB hx hy
      by_cases a1 : 0 ≤ x
      case neg =>
        have d1 : decide (0 ≤ x) = false := decide_eq_false a1
        have a1' : x < 0 := by omega
        go_wp2
        go_round
        case rel => exact ⟨k + 1, by omega, by go_num, by rw [HST.out]; exact congrArg _ (if_neg (fun h => a1 h.1)).symm⟩
        case measure => simp [intOf]; omega
      have d1 : decide (0 ≤ x) = true := decide_eq_true a1
      cases y with
      | true =>
        go_wp2
        go_round
        case rel => exact ⟨k + 1, by omega, by go_num, by rw [HST.out]; exact congrArg _ (if_neg (fun h => (by cases h.2.1))).symm⟩
        case measure => simp [intOf]; omega
      | false =>
        by_cases a2 : B < 0
        · have d2 : decide (B < 0) = true := decide_eq_true a2
          go_wp2
          go_round
          case rel => exact ⟨k + 1, by omega, by go_num, by rw [HST.out]; exact congrArg _ (if_pos ⟨a1, rfl, .inl a2⟩).symm⟩
          case measure => simp [intOf]; omega
        · have d2 : decide (B < 0) = false := decide_eq_false a2
          obtain ⟨b, rfl⟩ := Int.eq_ofNat_of_zero_le (show 0 ≤ B by omega)
          obtain ⟨z, hz⟩ : ∃ z, F[b]? = some z := ⟨_, List.getElem?_eq_getElem (by have := H4.out; omega)⟩
          have c3 := CF_.out b z hz
          have HZ : Hid (F.getD (b : Int).toNat (-1) = z) := Lib.hid (by rw [List.getD_eq_getElem?_getD, Int.toNat_natCast, hz]; rfl)
          have b0 : (0 : Int) ≤ (b : Int) := by omega
          have b1 : (b : Int) < (n : Int) := by omega
          clear hz
          by_cases a3 : x < z
          · have d3 : decide (x < z) = true := decide_eq_true a3
            go_wp2
            go_round
            case rel => exact ⟨k + 1, by omega, by go_num, by rw [HST.out]; exact congrArg _ (if_pos ⟨a1, rfl, .inr (by rw [HZ.out]; exact a3)⟩).symm⟩
            case measure => simp [intOf]; omega
          · have d3 : decide (x < z) = false := decide_eq_false a3
            go_wp2
            go_round
            case rel => exact ⟨k + 1, by omega, by go_num, by rw [HST.out]; exact congrArg _ (if_neg (fun h => h.2.2.elim a2 (fun h' => a3 (by rw [HZ.out] at h'; exact h')))).symm⟩
            case measure => simp [intOf]; omega
    · have hkn : k = n := by omega
      have hb := nxS_bnd F l k
      obtain ⟨B, hB⟩ : ∃ q, nxS F l k = q := ⟨_, rfl⟩
      rw [hB] at hb ⊢
      have HB : Hid (nxS F l n = B) := Lib.hid (by rw [← hkn]; exact hB)
      have hge : ¬ (k : Int) < (n : Int) := by omega
      have hbn : B < (n : Int) := by omega
      clear hB hkn
      by_cases a1 : 0 ≤ B
      · have d1 : decide (0 ≤ B) = true := decide_eq_true a1
        obtain ⟨b, rfl⟩ := Int.eq_ofNat_of_zero_le a1
        obtain ⟨y, hy⟩ : ∃ y, l[b]? = some y := ⟨_, List.getElem?_eq_getElem (by have := H5.out; omega)⟩
        have c2 := CL.out b y hy
        have fl := frozenB H3.out b
        have b0 : (0 : Int) ≤ (b : Int) := by omega
        clear hy
        go_wp2
        go_ret
        unfold NextPost
        rw [HB.out]
        refine ⟨rfl, fun B' hB' => bset (Below.refl _ _) hB', fun q hq => Below.heap_setCell _ _ _ _ hq, ?_, by simp⟩
        rw [if_neg (by omega), Int.toNat_natCast, setB H3.out b (.bool true)]
        simp
      · have d1 : decide (0 ≤ B) = false := decide_eq_false a1
        go_wp2
        go_ret
        unfold NextPost
        rw [HB.out]
        exact ⟨rfl, fun _ _ => Below.refl _ _, fun _ _ => rfl, by rw [if_pos (by omega)]; exact H3.out, rfl⟩
end Go.Proofs.YtbpmccfbfpgijaaGreat
