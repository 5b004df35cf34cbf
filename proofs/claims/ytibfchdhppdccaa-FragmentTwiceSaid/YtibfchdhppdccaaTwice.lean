/-
  Proved: mailboatlaw17.FragmentTwice returns true for every input, and leaves its arguments as they were. No condition.
-/
import Derived.Test.YtibfchdhppdccaaRows
import Derived.Test.YtibfchdhppdccaaGo
import Derived.Test.YtibfchdhppdccaaGq
import Derived.Test.YtibfchdhppdccaaFe
import Derived.Test.YtibfchdhppdccaaQd
import Derived.Test.YtibfchdhppdccaaR
import Derived.Test.YtibfchdhppdccaaL
set_option linter.unusedVariables false
set_option linter.unusedSimpArgs false
namespace Go.Proofs.Ytibfchdhppdccaa.fragmentTwice
open Go Go.ChangeShapes Go.WideShapes Go.ChangeAt Go.RowKit Go.Joins Go.Proofs.Ytibfchdhppdccaa
attribute [local go_sem] B_getElem B_size B_app B_extract B_get B_toList
attribute [local go_sem] bunC
attribute [local go_sem ↓] eqBlk eqId eqEnd

theorem own : ownKnob Try.prog.godebug = none := by kernel_rfl

set_option maxRecDepth 100000 in
set_option maxHeartbeats 1600000 in
/-- a remainder, named -/
theorem tmod_fact (a m : Int) (h : 0 ≤ a) (hm : 0 < m) : ∃ r, a.tmod m = r ∧ 0 ≤ r ∧ r < m := ⟨_, rfl, by rw [Int.tmod_eq_emod_of_nonneg h]; exact Int.emod_nonneg _ (by omega), by rw [Int.tmod_eq_emod_of_nonneg h]; exact Int.emod_lt_of_pos _ hm⟩
set_option maxRecDepth 100000 in
set_option maxHeartbeats 3000000 in
theorem walk (b : Bun) (u : Value) (a c f t : Int) (w : World) (wa : 0 ≤ a ∧ a ≤ 255) (wc : 0 ≤ c ∧ c ≤ 255) (wf : 0 ≤ f ∧ f ≤ 255) (wt : 0 ≤ t ∧ t ≤ 255) (h : RBlks w w.heap.size u b.blocks) (hf : Fits b) :
    Calls Try.prog 8 #[.agg (bunC b u).toArray, .int .u8 a, .int .u8 c, .int .u8 f, .int .u8 t] w (Says w) := by
  obtain ⟨ua, uc, rfl, _⟩ := id h
  have HR := Lib.hid h
  have HF := Lib.hid hf
  clear h hf
  go_enter Try.func8, Try.ntmps8
  simp only [bunC]
  go_wp2_with fail
  refine (lawGreat_any b _ _ (HR.out.below (C := w.heap.size) (by repeat' (first | (with_reducible refine bset ?_ ?_) | (with_reducible exact Below.refl _ _) | (with_reducible assumption) | (with_reducible refine bdrewN ?_ _) | (with_reducible refine bdrew ?_) | (with_reducible refine balloc0 ?_) | (with_reducible refine balloc ?_ ?_) | (with_reducible apply btrans0; rotate_left; with_reducible assumption) | (with_reducible apply btrans; rotate_left; with_reducible assumption) | exact Below.refl _ _ | assumption | (apply btrans0; rotate_left; assumption) | (apply btrans; rotate_left; assumption) | (simp; done) | omega | (simp; omega))) (Nat.le_refl _) (by simp)) HF.out).mono ?_
  rintro e w1 ⟨g, rfl, hb1⟩
  obtain ⟨k1, f1⟩ := bcell hb1
  have z1 : w.heap.size < w1.heap.size := by have := hb1.size; simp at this; omega
  cases g
  case true =>
    go_wp2_with fail
    refine (awake_any _).mono ?_
    rintro e w2 ⟨rfl, hb2⟩
    go_wp2
    go_ret
    exact ⟨rfl, (by repeat' (first | (with_reducible refine bset ?_ ?_) | (with_reducible exact Below.refl _ _) | (with_reducible assumption) | (with_reducible refine bdrewN ?_ _) | (with_reducible refine bdrew ?_) | (with_reducible refine balloc0 ?_) | (with_reducible refine balloc ?_ ?_) | (with_reducible apply btrans0; rotate_left; with_reducible assumption) | (with_reducible apply btrans; rotate_left; with_reducible assumption) | exact Below.refl _ _ | assumption | (apply btrans0; rotate_left; assumption) | (apply btrans; rotate_left; assumption) | (simp; done) | omega | (simp; omega)))⟩
  have hB1 : Below w.heap.size w w1 := (by repeat' (first | (with_reducible refine bset ?_ ?_) | (with_reducible exact Below.refl _ _) | (with_reducible assumption) | (with_reducible refine bdrewN ?_ _) | (with_reducible refine bdrew ?_) | (with_reducible refine balloc0 ?_) | (with_reducible refine balloc ?_ ?_) | (with_reducible apply btrans0; rotate_left; with_reducible assumption) | (with_reducible apply btrans; rotate_left; with_reducible assumption) | exact Below.refl _ _ | assumption | (apply btrans0; rotate_left; assumption) | (apply btrans; rotate_left; assumption) | (simp; done) | omega | (simp; omega)))
  have G1 : w1.heap[w.heap.size]? = some (.cells (bunC b (.slice ua b.blocks.length uc)).toArray 28 (0, 0)) := (hb1.block _ (by simp)).trans heap_new
  clear k1 f1
  have ca := fun o => cellB G1 o
  simp only [bunC] at ca
  by_cases hp0 : b.payload.length = 0
  · have hp1 : ((b.payload.length : Int) == 0) = true := beq_iff_eq.2 (by omega)
    go_wp2_with fail
    refine (awake_any _).mono ?_
    rintro e w9 ⟨rfl, hb9⟩
    go_wp2
    go_ret
    exact ⟨rfl, (by repeat' (first | (with_reducible refine bset ?_ ?_) | (with_reducible exact Below.refl _ _) | (with_reducible assumption) | (with_reducible refine bdrewN ?_ _) | (with_reducible refine bdrew ?_) | (with_reducible refine balloc0 ?_) | (with_reducible refine balloc ?_ ?_) | (with_reducible apply btrans0; rotate_left; with_reducible assumption) | (with_reducible apply btrans; rotate_left; with_reducible assumption) | exact Below.refl _ _ | assumption | (apply btrans0; rotate_left; assumption) | (apply btrans; rotate_left; assumption) | (simp; done) | omega | (simp; omega)))⟩
  have hp1 : ((b.payload.length : Int) == 0) = false := beq_eq_false_iff_ne.2 (by omega)
  have hp2 : 0 < b.payload.length := by omega
  go_wp2_with fail
  refine (spanr_any b _ _ (HR.out.below (C := w.heap.size) hB1 (Nat.le_refl _) (by omega)) HF.out).mono ?_
  by_cases hv : chkE b = 0
  case neg =>
    have hs : spanR b = (0, 0, 1) := by unfold spanR; rw [if_pos hv]
    rw [hs]
    rintro e w3 ⟨rfl, hb3⟩
    clear ca
    go_wp2_with fail
    refine (awake_any _).mono ?_
    rintro e w9 ⟨rfl, hb9⟩
    go_wp2
    go_ret
    exact ⟨rfl, (by repeat' (first | (with_reducible refine bset ?_ ?_) | (with_reducible exact Below.refl _ _) | (with_reducible assumption) | (with_reducible refine bdrewN ?_ _) | (with_reducible refine bdrew ?_) | (with_reducible refine balloc0 ?_) | (with_reducible refine balloc ?_ ?_) | (with_reducible apply btrans0; rotate_left; with_reducible assumption) | (with_reducible apply btrans; rotate_left; with_reducible assumption) | exact Below.refl _ _ | assumption | (apply btrans0; rotate_left; assumption) | (apply btrans; rotate_left; assumption) | (simp; done) | omega | (simp; omega)))⟩
  obtain ⟨v1, v2, v3, v4, v5, _⟩ := valid_facts hv
  have hs : spanR b = (b.off, b.off + b.payload.length, 0) := by unfold spanR; rw [if_neg (by simp [hv])]
  rw [hs]
  rintro e w3 ⟨rfl, hb3⟩
  have l3 : w1.heap.size ≤ w3.heap.size := hb3.size
  have z3 : w.heap.size < w3.heap.size := by omega
  have hB3 : Below w.heap.size w w3 := (by repeat' (first | (with_reducible refine bset ?_ ?_) | (with_reducible exact Below.refl _ _) | (with_reducible assumption) | (with_reducible refine bdrewN ?_ _) | (with_reducible refine bdrew ?_) | (with_reducible refine balloc0 ?_) | (with_reducible refine balloc ?_ ?_) | (with_reducible apply btrans0; rotate_left; with_reducible assumption) | (with_reducible apply btrans; rotate_left; with_reducible assumption) | exact Below.refl _ _ | assumption | (apply btrans0; rotate_left; assumption) | (apply btrans; rotate_left; assumption) | (simp; done) | omega | (simp; omega)))
  have G3 := (hb3.block w.heap.size (by omega)).trans G1
  clear ca hb3 hB1 G1 hb1 hs
  have HV := Lib.hid hv
  clear hv
  obtain ⟨T, hT⟩ : ∃ T : Int, b.off + (b.payload.length : Int) = T := ⟨_, rfl⟩
  rw [hT]
  go_wp2
  have hB4 : Below w.heap.size w (w3.alloc (.cells #[.int .i64 b.off, .int .i64 T] 46)) := (by repeat' (first | (with_reducible refine bset ?_ ?_) | (with_reducible exact Below.refl _ _) | (with_reducible assumption) | (with_reducible refine bdrewN ?_ _) | (with_reducible refine bdrew ?_) | (with_reducible refine balloc0 ?_) | (with_reducible refine balloc ?_ ?_) | (with_reducible apply btrans0; rotate_left; with_reducible assumption) | (with_reducible apply btrans; rotate_left; with_reducible assumption) | exact Below.refl _ _ | assumption | (apply btrans0; rotate_left; assumption) | (apply btrans; rotate_left; assumption) | (simp; done) | omega | (simp; omega)))
  have N4 := (Below.heap_alloc w3 (.cells #[.int .i64 b.off, .int .i64 T] 46) _ z3).trans G3
  have X4 : (w3.alloc (.cells #[.int .i64 b.off, .int .i64 T] 46)).heap[w3.heap.size]? = _ := heap_new
  have S4 : (w3.alloc (.cells #[.int .i64 b.off, .int .i64 T] 46)).heap.size = w3.heap.size + 1 := by simp
  clear G3 hB3
  generalize w3.alloc (.cells _ _) = W at *
  obtain ⟨wa1, wa2⟩ := wa
  obtain ⟨wc1, wc2⟩ := wc
  obtain ⟨wf1, wf2⟩ := wf
  obtain ⟨wt1, wt2⟩ := wt
  have hwa : IntKind.i64.wrap a = a := by rw [IntKind.wrap_i64]; omega
  have hwc : IntKind.i64.wrap c = c := by rw [IntKind.wrap_i64]; omega
  have hwf : IntKind.i64.wrap f = f := by rw [IntKind.wrap_i64]; omega
  have hwt : IntKind.i64.wrap t = t := by rw [IntKind.wrap_i64]; omega
  have hp3 : ¬ ((b.payload.length : Int) = 0) := by omega
  obtain ⟨r1, hr1, r1a, r1b⟩ := tmod_fact a (b.payload.length : Int) wa1 (by omega)
  obtain ⟨F1, hF1⟩ : ∃ F1, b.off + r1 = F1 := ⟨_, rfl⟩
  have hwF1 : IntKind.i64.wrap F1 = F1 := by rw [IntKind.wrap_i64]; omega
  have CG := fun o => cellB N4 o
  have CX := fun o => cellB X4 o
  refine wp_region_plan (fun V => (∀ o, V.cell? ⟨w.heap.size, o, none⟩ = (bunC b (.slice ua b.blocks.length uc)).toArray[o]?) ∧ (∀ o, V.cell? ⟨w3.heap.size, o, none⟩ = #[Value.int .i64 b.off, Value.int .i64 T][o]?)) [0, 1, 0, 0, 0, 1, 0, 0, 0, 0] [0, 1, 2, 3, 4, 5, 6, 7, 8, 9] (by kernel_rfl) (by kernel_rfl) ?_ ?_
  case refine_1 => exact ⟨CG, CX⟩
  (iterate 10 (refine plan_held rfl (by decide) (by rfl) (fun w1 hS => by (try (have hS := hS rfl; obtain hS := hS; repeat (obtain ⟨_, hS⟩ := hS))); go_simp; rfl) ?_; simp only [Act.put, List.setIfInBounds_toArray, List.set_cons_zero, List.set_cons_succ]))
  refine plan_done ?_
  have F1a : b.off ≤ F1 := by omega
  have F1b : F1 < T := by omega
  have HR1 := Lib.hid hF1
  have HTT := Lib.hid hT
  obtain ⟨D1, hD1⟩ : ∃ D1, T - F1 = D1 := ⟨_, rfl⟩
  have D1a : 0 < D1 := by omega
  have D1b : ¬ (D1 = 0) := by omega
  obtain ⟨r2, hr2, r2a, r2b⟩ := tmod_fact c D1 wc1 D1a
  have hwD1 : IntKind.i64.wrap (T - F1) = D1 := by rw [hD1, IntKind.wrap_i64]; omega
  obtain ⟨L1, hL1⟩ : ∃ L1, F1 + 1 + r2 = L1 := ⟨_, rfl⟩
  have L1a : F1 < L1 := by omega
  have L1b : L1 ≤ T := by omega
  clear hr1 hF1
  go_wp2_with fail
  refine (cutr_any b _ F1 L1 w.heap.size _ (by simp; omega) (HR.out.below (C := w.heap.size) (show Below w.heap.size w W.drew from bdrew hB4) (Nat.le_refl _) (Nat.le_refl _)) HF.out).mono ?_
  have hcE : cutE b ≠ 0 → cutE b = 19 := fun h => by
    unfold cutE at h ⊢
    split
    · rfl
    · rw [if_neg ‹_›, if_neg (fun e => by rw [e] at hp2; simp at hp2)] at h; exact absurd rfl h
  by_cases hce : cutE b = 0
  case neg =>
    have hc1 : cutR b F1 L1 = (zBun, 19) := by unfold cutR; rw [if_neg (by simp [HV.out]), if_pos hce, hcE hce]
    obtain ⟨z, hz⟩ : ∃ z, zBun = z := ⟨_, rfl⟩
    rw [hz] at hc1
    rw [hc1]
    rintro e w4 ⟨u4, rfl, hr4, hb4⟩
    obtain ⟨a4, c4, rfl, _⟩ := id hr4
    clear hcE hce hz hc1
    simp only [bunC]
    go_wp2_with fail
    refine (awake_any _).mono ?_
    rintro e w9 ⟨rfl, hb9⟩
    go_wp2
    go_ret
    exact ⟨rfl, (by repeat' (first | (with_reducible refine bset ?_ ?_) | (with_reducible exact Below.refl _ _) | (with_reducible assumption) | (with_reducible refine bdrewN ?_ _) | (with_reducible refine bdrew ?_) | (with_reducible refine balloc0 ?_) | (with_reducible refine balloc ?_ ?_) | (with_reducible apply btrans0; rotate_left; with_reducible assumption) | (with_reducible apply btrans; rotate_left; with_reducible assumption) | exact Below.refl _ _ | assumption | (apply btrans0; rotate_left; assumption) | (apply btrans; rotate_left; assumption) | (simp; done) | omega | (simp; omega)))⟩
  have hc1 : cutR b F1 L1 = (cutS b F1 L1, 0) := by unfold cutR; rw [if_neg (by simp [HV.out]), if_neg (by simp [hce]), if_neg (by omega)]
  obtain ⟨o, ho⟩ : ∃ o, cutS b F1 L1 = o := ⟨_, rfl⟩
  rw [hc1, ho]
  rintro e w4 ⟨u4, rfl, hr4, hb4⟩
  have l4 : W.heap.size ≤ w4.heap.size := by have := hb4.size; simpa using this
  have R4 := Lib.hid (hr4.bnd (by omega))
  obtain ⟨a4, c4, rfl, _⟩ := id hr4
  have hB5 : Below w.heap.size w w4 := (by repeat' (first | (with_reducible refine bset ?_ ?_) | (with_reducible exact Below.refl _ _) | (with_reducible assumption) | (with_reducible refine bdrewN ?_ _) | (with_reducible refine bdrew ?_) | (with_reducible refine balloc0 ?_) | (with_reducible refine balloc ?_ ?_) | (with_reducible apply btrans0; rotate_left; with_reducible assumption) | (with_reducible apply btrans; rotate_left; with_reducible assumption) | exact Below.refl _ _ | assumption | (apply btrans0; rotate_left; assumption) | (apply btrans; rotate_left; assumption) | (simp; done) | omega | (simp; omega)))
  have G4 := (hb4.block w.heap.size (by simp; omega)).trans N4
  have X5 := (hb4.block w3.heap.size (by simp; omega)).trans X4
  have ochk : chkE o = 0 := by rw [← ho]; exact chk_cutS HV.out hce (by omega) (by omega) (by omega)
  have OC := Lib.hid ochk
  have OE : Hid (cutE o = 0) := Lib.hid (by rw [← ho]; exact isF_cutS hce (by omega) (by omega) (by omega))
  have OO : Hid (o.off = F1) := Lib.hid (by rw [← ho]; rfl)
  have OL : Hid ((o.payload.length : Int) = L1 - F1) := Lib.hid (by rw [← ho]; exact cutS_pay (by omega) (by omega) (by omega))
  have OD := Lib.hid ho
  have HCE := Lib.hid hce
  clear ho hc1 hcE hce ochk hr4 hb4 N4 X4 CG CX hB4
  obtain ⟨D2, hD2⟩ : ∃ D, L1 - F1 = D := ⟨_, rfl⟩
  have D2a : 0 < D2 := by omega
  have D2b : ¬ (D2 = 0) := by omega
  have hwD2 : IntKind.i64.wrap (L1 - F1) = D2 := by rw [hD2, IntKind.wrap_i64]; omega
  obtain ⟨r3, hr3, r3a, r3b⟩ := tmod_fact f D2 wf1 D2a
  obtain ⟨M1, hM1⟩ : ∃ M, F1 + r3 = M := ⟨_, rfl⟩
  have hwM1 : IntKind.i64.wrap M1 = M1 := by rw [IntKind.wrap_i64]; omega
  obtain ⟨D3, hD3⟩ : ∃ D, L1 - M1 = D := ⟨_, rfl⟩
  have D3a : 0 < D3 := by omega
  have D3b : ¬ (D3 = 0) := by omega
  have hwD3 : IntKind.i64.wrap (L1 - M1) = D3 := by rw [hD3, IntKind.wrap_i64]; omega
  obtain ⟨r4, hr4, r4a, r4b⟩ := tmod_fact t D3 wt1 D3a
  obtain ⟨N1, hN1⟩ : ∃ N, M1 + 1 + r4 = N := ⟨_, rfl⟩
  have M1a : F1 ≤ M1 := by omega
  have M1b : M1 < N1 := by omega
  have N1a : N1 ≤ L1 := by omega
  have y4 : w.heap.size < w4.heap.size := by omega
  have y4' : w3.heap.size < w4.heap.size := by omega
  simp only [bunC]
  go_wp2_with fail
  refine (cutr_any o _ M1 N1 w4.heap.size _ (by simp) (R4.out.below (C := w4.heap.size) (balloc0 (Below.refl _ _)) (Nat.le_refl _) (Nat.le_refl _)) (chk_fits OC.out)).mono ?_
  have hc2 : cutR o M1 N1 = (cutS o M1 N1, 0) := by
    have := OO.out
    have := OL.out
    unfold cutR; rw [if_neg (by simp [OC.out]), if_neg (by simp [OE.out]), if_neg (by omega)]
  obtain ⟨q, hq⟩ : ∃ q, cutS o M1 N1 = q := ⟨_, rfl⟩
  rw [hc2, hq]
  rintro e w5 ⟨u5, rfl, hr5, hb5⟩
  have l5 : w4.heap.size < w5.heap.size := by have := hb5.size; simp at this; omega
  obtain ⟨a5, c5, rfl, _⟩ := id hr5
  have hB6 : Below w.heap.size w w5 := (by repeat' (first | (with_reducible refine bset ?_ ?_) | (with_reducible exact Below.refl _ _) | (with_reducible assumption) | (with_reducible refine bdrewN ?_ _) | (with_reducible refine bdrew ?_) | (with_reducible refine balloc0 ?_) | (with_reducible refine balloc ?_ ?_) | (with_reducible apply btrans0; rotate_left; with_reducible assumption) | (with_reducible apply btrans; rotate_left; with_reducible assumption) | exact Below.refl _ _ | assumption | (apply btrans0; rotate_left; assumption) | (apply btrans; rotate_left; assumption) | (simp; done) | omega | (simp; omega)))
  have G5 := (hb5.block w.heap.size (by simp; omega)).trans ((Below.heap_alloc _ _ _ (by omega)).trans G4)
  have X6 := (hb5.block w3.heap.size (by simp; omega)).trans ((Below.heap_alloc _ _ _ (by omega)).trans X5)
  have QD := Lib.hid hq
  clear hc2 hq hr5 hb5 G4 X5 hB5 R4
  have y5 : w.heap.size < w5.heap.size := by omega
  have y5' : w3.heap.size < w5.heap.size := by omega
  have ca := fun o => cellB G5 o
  simp only [bunC] at ca
  go_wp2_with fail
  clear ca
  have hB7 : Below w.heap.size w (w5.alloc (.cells (bunC q (.slice a5 q.blocks.length c5)).toArray 28)) := (by repeat' (first | (with_reducible refine bset ?_ ?_) | (with_reducible exact Below.refl _ _) | (with_reducible assumption) | (with_reducible refine bdrewN ?_ _) | (with_reducible refine bdrew ?_) | (with_reducible refine balloc0 ?_) | (with_reducible refine balloc ?_ ?_) | (with_reducible apply btrans0; rotate_left; with_reducible assumption) | (with_reducible apply btrans; rotate_left; with_reducible assumption) | exact Below.refl _ _ | assumption | (apply btrans0; rotate_left; assumption) | (apply btrans; rotate_left; assumption) | (simp; done) | omega | (simp; omega)))
  refine (cutr_any b _ M1 N1 w.heap.size _ (by simp; omega) (HR.out.below (C := w.heap.size) hB7 (Nat.le_refl _) (Nat.le_refl _)) HF.out).mono ?_
  have hc3 : cutR b M1 N1 = (cutS b M1 N1, 0) := by unfold cutR; rw [if_neg (by simp [HV.out]), if_neg (by simp [HCE.out]), if_neg (by omega)]
  obtain ⟨d, hd⟩ : ∃ d, cutS b M1 N1 = d := ⟨_, rfl⟩
  rw [hc3, hd]
  rintro e w6 ⟨u6, rfl, hr6, hb6⟩
  have l6 : w5.heap.size < w6.heap.size := by have := hb6.size; simp at this; omega
  obtain ⟨a6, c6, rfl, _⟩ := id hr6
  have hB8 : Below w.heap.size w w6 := (by repeat' (first | (with_reducible refine bset ?_ ?_) | (with_reducible exact Below.refl _ _) | (with_reducible assumption) | (with_reducible refine bdrewN ?_ _) | (with_reducible refine bdrew ?_) | (with_reducible refine balloc0 ?_) | (with_reducible refine balloc ?_ ?_) | (with_reducible apply btrans0; rotate_left; with_reducible assumption) | (with_reducible apply btrans; rotate_left; with_reducible assumption) | exact Below.refl _ _ | assumption | (apply btrans0; rotate_left; assumption) | (apply btrans; rotate_left; assumption) | (simp; done) | omega | (simp; omega)))
  have G6 := (hb6.block w.heap.size (by simp; omega)).trans ((Below.heap_alloc _ _ _ (by omega)).trans G5)
  have X7 := (hb6.block w3.heap.size (by simp; omega)).trans ((Below.heap_alloc _ _ _ (by omega)).trans X6)
  have Q6 : w6.heap[w5.heap.size]? = some (.cells (bunC q (.slice a5 q.blocks.length c5)).toArray 28 (0, 0)) := (hb6.block _ (by simp)).trans heap_new
  have DD := Lib.hid hd
  clear hc3 hd hr6 hb6 G5 X6 hB6 hB7
  have y6 : w.heap.size < w6.heap.size := by omega
  have y6' : w3.heap.size < w6.heap.size := by omega
  have ca := fun o => cellB G6 o
  have cx := fun o => cellB X7 o
  simp only [bunC] at ca
  go_wp2_with fail
  clear ca cx
  have hB9 : Below w.heap.size w (w6.alloc (.cells (bunC d (.slice a6 d.blocks.length c6)).toArray 28)) := (by repeat' (first | (with_reducible refine bset ?_ ?_) | (with_reducible exact Below.refl _ _) | (with_reducible assumption) | (with_reducible refine bdrewN ?_ _) | (with_reducible refine bdrew ?_) | (with_reducible refine balloc0 ?_) | (with_reducible refine balloc ?_ ?_) | (with_reducible apply btrans0; rotate_left; with_reducible assumption) | (with_reducible apply btrans; rotate_left; with_reducible assumption) | exact Below.refl _ _ | assumption | (apply btrans0; rotate_left; assumption) | (apply btrans; rotate_left; assumption) | (simp; done) | omega | (simp; omega)))
  refine (cutr_any b _ b.off T w.heap.size _ (by simp; omega) (HR.out.below (C := w.heap.size) hB9 (Nat.le_refl _) (Nat.le_refl _)) HF.out).mono ?_
  have hc4 : cutR b b.off T = (cutS b b.off T, 0) := by unfold cutR; rw [if_neg (by simp [HV.out]), if_neg (by simp [HCE.out]), if_neg (by omega)]
  have hall : (cutS b b.off T).payload = b.payload := by
    unfold cutS
    show (b.payload.drop (b.off - b.off).toNat).take (T - b.off).toNat = _
    rw [show (b.off - b.off).toNat = 0 by omega, show (T - b.off).toNat = b.payload.length by omega]
    simp
  obtain ⟨z, hz⟩ : ∃ z, cutS b b.off T = z := ⟨_, rfl⟩
  rw [hz] at hall
  rw [hc4, hz]
  rintro e w7 ⟨u7, rfl, hr7, hb7⟩
  have l7 : w6.heap.size < w7.heap.size := by have := hb7.size; simp at this; omega
  obtain ⟨a7, c7, rfl, _⟩ := id hr7
  have hB10 : Below w.heap.size w w7 := (by repeat' (first | (with_reducible refine bset ?_ ?_) | (with_reducible exact Below.refl _ _) | (with_reducible assumption) | (with_reducible refine bdrewN ?_ _) | (with_reducible refine bdrew ?_) | (with_reducible refine balloc0 ?_) | (with_reducible refine balloc ?_ ?_) | (with_reducible apply btrans0; rotate_left; with_reducible assumption) | (with_reducible apply btrans; rotate_left; with_reducible assumption) | exact Below.refl _ _ | assumption | (apply btrans0; rotate_left; assumption) | (apply btrans; rotate_left; assumption) | (simp; done) | omega | (simp; omega)))
  have G7 := (hb7.block w.heap.size (by simp; omega)).trans ((Below.heap_alloc _ _ _ (by omega)).trans G6)
  have X8 := (hb7.block w3.heap.size (by simp; omega)).trans ((Below.heap_alloc _ _ _ (by omega)).trans X7)
  have Q7 := (hb7.block w5.heap.size (by simp; omega)).trans ((Below.heap_alloc _ _ _ (by omega)).trans Q6)
  have D7 : w7.heap[w6.heap.size]? = some (.cells (bunC d (.slice a6 d.blocks.length c6)).toArray 28 (0, 0)) := (hb7.block _ (by simp)).trans heap_new
  have y7 : w.heap.size < w7.heap.size := by omega
  have y7' : w3.heap.size < w7.heap.size := by omega
  have y7'' : w5.heap.size < w7.heap.size := by omega
  clear hc4 hz hr7 hb7 G6 X7 Q6 hB8 hB9
  have ca := fun o => cellB G7 o
  have cq := fun o => cellB Q7 o
  have cd := fun o => cellB D7 o
  have fq := fun o => frozenB Q7 o
  have fd := fun o => frozenB D7 o
  simp only [bunC] at ca cq cd ⊢
  rw [hall]
  clear hall
  go_wp2
  clear ca cq cd fq fd
  obtain ⟨Z, hZ⟩ : ∃ Z, (((w7.setCell ⟨w5.heap.size, 10, none⟩ (.slice none 0 0)).setCell ⟨w6.heap.size, 10, none⟩ (.slice none 0 0)).alloc (.cells #[.int .i64 z.src, .int .i64 z.crt, .int .i64 z.seq, .int .i64 z.off, .int .i64 z.tot, .int .i64 z.dk, .int .i64 z.dn, .int .i64 z.life, .int .i64 z.prio, .int .i64 z.flags, .slice a7 z.blocks.length c7, .string (B b.payload)] 28)) = Z := ⟨_, rfl⟩
  rw [hZ]
  have hB11 : Below w.heap.size w Z := by rw [← hZ]; exact (by repeat' (first | (with_reducible refine bset ?_ ?_) | (with_reducible exact Below.refl _ _) | (with_reducible assumption) | (with_reducible refine bdrewN ?_ _) | (with_reducible refine bdrew ?_) | (with_reducible refine balloc0 ?_) | (with_reducible refine balloc ?_ ?_) | (with_reducible apply btrans0; rotate_left; with_reducible assumption) | (with_reducible apply btrans; rotate_left; with_reducible assumption) | exact Below.refl _ _ | assumption | (apply btrans0; rotate_left; assumption) | (apply btrans; rotate_left; assumption) | (simp; done) | omega | (simp; omega)))
  have sZ : Z.heap.size = w7.heap.size + 1 := by rw [← hZ]; simp
  have GZ : Z.heap[w.heap.size]? = some (.cells (bunC b (.slice ua b.blocks.length uc)).toArray 28 (0, 0)) := by
    rw [← hZ, Below.heap_alloc _ _ _ (by simp; omega), Below.heap_setCell _ _ _ _ (by show w.heap.size ≠ w6.heap.size; omega), Below.heap_setCell _ _ _ _ (by show w.heap.size ≠ w5.heap.size; omega)]
    exact G7
  have XZ : Z.heap[w3.heap.size]? = some (.cells #[.int .i64 b.off, .int .i64 T] 46 (0, 0)) := by
    rw [← hZ, Below.heap_alloc _ _ _ (by simp; omega), Below.heap_setCell _ _ _ _ (by show w3.heap.size ≠ w6.heap.size; omega), Below.heap_setCell _ _ _ _ (by show w3.heap.size ≠ w5.heap.size; omega)]
    exact X8
  have QZ : Z.heap[w5.heap.size]? = some (.cells (bunC { q with blocks := [] } (.slice none 0 0)).toArray 28 (0, 0)) := by
    rw [← hZ, Below.heap_alloc _ _ _ (by simp; omega), Below.heap_setCell _ _ _ _ (by show w5.heap.size ≠ w6.heap.size; omega), setB Q7 10 _]
    simp [bunC]
  have DZ : Z.heap[w6.heap.size]? = some (.cells (bunC { d with blocks := [] } (.slice none 0 0)).toArray 28 (0, 0)) := by
    rw [← hZ, Below.heap_alloc _ _ _ (by simp; omega), setB ((Below.heap_setCell _ _ _ _ (by show w6.heap.size ≠ w5.heap.size; omega)).trans D7) 10 _]
    simp [bunC]
  have hqd : ({ q with blocks := [] } : Bun) = { d with blocks := [] } := by
    rw [← QD.out, ← DD.out, ← OD.out]
    exact cut_cut (by omega) (by omega) (by omega) (by omega) (by have := HTT.out; omega) v1 (by omega)
  rw [hqd] at QZ
  obtain ⟨i, hi⟩ : ∃ i : Nat, M1 - b.off = i := ⟨(M1 - b.off).toNat, by omega⟩
  obtain ⟨j, hj⟩ : ∃ j : Nat, N1 - b.off = j := ⟨(N1 - b.off).toNat, by omega⟩
  have i1 : i ≤ j := by omega
  have i2 : j ≤ b.payload.length := by have := HTT.out; omega
  obtain ⟨pp, hpp⟩ : ∃ pp, (b.payload.drop i).take (j - i) = pp := ⟨_, rfl⟩
  have hdp : d.payload = pp := by
    rw [← DD.out, ← hpp]
    unfold cutS
    show (b.payload.drop (M1 - b.off).toNat).take (N1 - M1).toNat = _
    rw [show (M1 - b.off).toNat = i by omega, show (N1 - M1).toNat = j - i by omega]
  have hNN : (N1 - b.off - (M1 - b.off)) = (j : Int) - i := by omega
  have i3 : (0 : Int) ≤ (i : Int) := by omega
  have i4 : (i : Int) ≤ (j : Int) := by omega
  have i5 : (j : Int) ≤ (b.payload.length : Int) := by omega
  have i6 : (0 : Int) ≤ (j : Int) := by omega
  have hwi : IntKind.i64.wrap (i : Int) = (i : Int) := by rw [IntKind.wrap_i64]; omega
  have hwj : IntKind.i64.wrap (j : Int) = (j : Int) := by rw [IntKind.wrap_i64]; omega
  obtain ⟨E, hE, hEb, hEp⟩ : ∃ E : Bun, ({ d with blocks := [] } : Bun) = E ∧ E.blocks = [] ∧ E.payload = pp := ⟨_, rfl, rfl, hdp⟩
  rw [hE] at QZ DZ
  have EB := Lib.hid hEb
  have CG := fun o => cellB GZ o
  have CX := fun o => cellB XZ o
  have CQ := fun o => cellB QZ o
  have CD := fun o => cellB DZ o
  have y8 : w5.heap.size < Z.heap.size := by omega
  have y8' : w6.heap.size < Z.heap.size := by omega
  have y9 : w.heap.size < Z.heap.size := by omega
  have y9' : w3.heap.size < Z.heap.size := by omega
  subst hEp
  simp only [bunC] at CG CX CQ CD
  clear hE hEb hZ G7 X8 Q7 D7 QZ DZ GZ XZ hqd QD DD OD hdp hB10 hNN
  refine wp_region_plan (fun V => (∀ o, V.cell? ⟨w.heap.size, o, none⟩ = (bunC b (.slice ua b.blocks.length uc)).toArray[o]?) ∧ (∀ o, V.cell? ⟨w3.heap.size, o, none⟩ = #[Value.int .i64 b.off, Value.int .i64 T][o]?) ∧ (∀ o, V.cell? ⟨w5.heap.size, o, none⟩ = #[Value.int .i64 E.src, Value.int .i64 E.crt, Value.int .i64 E.seq, Value.int .i64 E.off, Value.int .i64 E.tot, Value.int .i64 E.dk, Value.int .i64 E.dn, Value.int .i64 E.life, Value.int .i64 E.prio, Value.int .i64 E.flags, Value.slice none 0 0, Value.string (B E.payload)][o]?) ∧ (∀ o, V.cell? ⟨w6.heap.size, o, none⟩ = #[Value.int .i64 E.src, Value.int .i64 E.crt, Value.int .i64 E.seq, Value.int .i64 E.off, Value.int .i64 E.tot, Value.int .i64 E.dk, Value.int .i64 E.dn, Value.int .i64 E.life, Value.int .i64 E.prio, Value.int .i64 E.flags, Value.slice none 0 0, Value.string (B E.payload)][o]?)) [1, 1, 2, 0, 0, 1, 0, 1, 0, 0, 1, 0, 0, 0, 1, 0, 0, 0, 0, 0, 3, 0, 0] [0, 1, 2, 3, 4, 5, 6, 7, 8, 9, 10, 11, 12, 13, 14, 15, 16, 17, 18, 19, 20, 21, 22] (by kernel_rfl) (by kernel_rfl) ?_ ?_
  case refine_1 => exact ⟨CG, CX, CQ, CD⟩
  (iterate 2 (refine plan_held rfl (by decide) (by rfl) (fun w1 hS => by (try (have hS := hS rfl; obtain hS := hS; repeat (obtain ⟨_, hS⟩ := hS))); go_simp; rfl) ?_; simp only [Act.put, List.setIfInBounds_toArray, List.set_cons_zero, List.set_cons_succ]))
  (refine plan_keep rfl rfl (by rfl) (fun K hK => ?_); go_simp)
  have nilR : ∀ V : World, RBlks V V.heap.size (.slice none 0 0) E.blocks := fun V => by
    rw [EB.out]
    exact RBlksD.to (RBlksD.nil V (fun _ => False)) (fun _ h => h.elim)
  refine (same_any E (.slice none 0 0) (.slice none 0 0) Z.drew (nilR _) (nilR _)).mono ?_
  rintro e w8 ⟨rfl, hb8⟩
  have l8 : Z.heap.size ≤ w8.heap.size := by have := hb8.size; simpa using this
  have kk : ∀ g o, g < Z.heap.size → w8.cell? ⟨g, o, none⟩ = Z.cell? ⟨g, o, none⟩ := fun g o hg => hb8.cell (p := ⟨g, o, none⟩) (by simpa using hg)
  (refine hK _ _ (by exact ⟨fun o => (kk _ _ (by omega)).trans (CG o), fun o => (kk _ _ (by omega)).trans (CX o), fun o => (kk _ _ (by omega)).trans (CQ o), fun o => (kk _ _ (by omega)).trans (CD o)⟩) ?_; clear hK K; (try simp only [Act.put, List.setIfInBounds_toArray, List.set_cons_zero, List.set_cons_succ]))
  (iterate 17 (refine plan_held rfl (by decide) (by rfl) (fun w1 hS => by (try (have hS := hS rfl; obtain hS := hS; repeat (obtain ⟨_, hS⟩ := hS))); go_simp; rfl) ?_; simp only [Act.put, List.setIfInBounds_toArray, List.set_cons_zero, List.set_cons_succ]))
  (refine plan_late rfl rfl (by rfl) (fun K hK => ?_); go_simp)
  refine (awake_any _).mono ?_
  rintro e w9 ⟨rfl, hb9⟩
  (refine hK _ _ ?_; clear hK K; (try simp only [Act.put, List.setIfInBounds_toArray, List.set_cons_zero, List.set_cons_succ]))
  (iterate 2 (refine plan_held rfl (by decide) (by rfl) (fun w1 hS => by (try (have hS := hS rfl; obtain hS := hS; repeat (obtain ⟨_, hS⟩ := hS))); go_simp; rfl) ?_; simp only [Act.put, List.setIfInBounds_toArray, List.set_cons_zero, List.set_cons_succ]))
  refine plan_done ?_
  clear CG CX CQ CD
  go_wp2
  go_ret
  exact ⟨rfl, (by repeat' (first | (with_reducible refine bset ?_ ?_) | (with_reducible exact Below.refl _ _) | (with_reducible assumption) | (with_reducible refine bdrewN ?_ _) | (with_reducible refine bdrew ?_) | (with_reducible refine balloc0 ?_) | (with_reducible refine balloc ?_ ?_) | (with_reducible apply btrans0; rotate_left; with_reducible assumption) | (with_reducible apply btrans; rotate_left; with_reducible assumption) | exact Below.refl _ _ | assumption | (apply btrans0; rotate_left; assumption) | (apply btrans; rotate_left; assumption) | (simp; done) | omega | (simp; omega)))⟩

set_option maxRecDepth 100000 in
theorem lifted (os : Os) (started : os.Started) (H : Type) (enc : TypeId × Value → H) :
    ReturnsInHanded {} Try.checked os 8 .any (Rows.fragmentTwiceSpec.pre6 enc Try.prog Try.f8 Rows.fragmentTwiceRow.domain false) (Rows.fragmentTwiceSpec.post enc Try.prog Try.f8 false true false false) := by
  refine returnsInHanded_of_change (C := Try.checked) own started (by kernel_rfl) Try.func8
    (ChangeSpec.witness6 (enc := enc) (C := Try.checked) false ⟨#[], #[.agg bun0, .int .u8 0, .int .u8 0, .int .u8 0, .int .u8 0], []⟩ 8 (by kernel_rfl) (by kernel_rfl) (by kernel_rfl) (by kernel_rfl)) ?_
  intro W base args ds gs before hval0 hW hcnd _
  have hval : ∀ (j : Nat) t v, Try.f8.params[j]? = some t → args[j]? = some v → Value.okWide Try.prog W .any base t v := hval0
  have hW' := hW
  obtain ⟨p, q, hA0, hV, rfl, hfz, hnd⟩ := hW
  have hA : DataW.TrodAll enc Try.prog W 0 (fun _ => true) true Try.f8.params.toList args.toList ds p := hA0
  rw [Try.params8] at hA hval
  obtain ⟨v0, vs0, d0, ds0, p0, q0, hargs, rfl, rfl, h0, r0⟩ := trodAll_cons hA
  obtain ⟨v1, vs1, d1, ds1, p1, q1, rfl, rfl, rfl, h1, r1⟩ := trodAll_cons r0
  obtain ⟨v2, vs2, d2, ds2, p2, q2, rfl, rfl, rfl, h2, r2⟩ := trodAll_cons r1
  obtain ⟨v3, vs3, d3, ds3, p3, q3, rfl, rfl, rfl, h3, r3⟩ := trodAll_cons r2
  obtain ⟨v4, vs4, d4, ds4, p4, q4, rfl, rfl, rfl, h4, r4⟩ := trodAll_cons r3
  obtain ⟨rfl, rfl, rfl⟩ := trodAll_nil r4
  obtain rfl : args = #[v0, v1, v2, v3, v4] := by cases args; simp_all
  obtain ⟨b, u, rfl, hr, hf⟩ := open_bun (hval 0 28 v0 rfl rfl) h0
  obtain ⟨x1, rfl, _, _, wx1⟩ := open_int Try.underlying5 (hval 1 5 v1 rfl rfl) h1
  obtain ⟨x2, rfl, _, _, wx2⟩ := open_int Try.underlying5 (hval 2 5 v2 rfl rfl) h2
  obtain ⟨x3, rfl, _, _, wx3⟩ := open_int Try.underlying5 (hval 3 5 v3 rfl rfl) h3
  obtain ⟨x4, rfl, _, _, wx4⟩ := open_int Try.underlying5 (hval 4 5 v4 rfl rfl) h4
  refine (walk b u x1 x2 x3 x4 W (by have := wx1; simp [Lit.wf, IntKind.min, IntKind.max, IntKind.signed, IntKind.bits] at this; omega) (by have := wx2; simp [Lit.wf, IntKind.min, IntKind.max, IntKind.signed, IntKind.bits] at this; omega) (by have := wx3; simp [Lit.wf, IntKind.min, IntKind.max, IntKind.signed, IntKind.bits] at this; omega) (by have := wx4; simp [Lit.wf, IntKind.min, IntKind.max, IntKind.signed, IntKind.bits] at this; omega) hr hf).mono fun e W' ⟨he, hB⟩ => ?_
  subst he
  refine ⟨_, rfl, law_post (by kernel_rfl) (by kernel_rfl) rfl Try.underlying4 rfl ?_ hW' hB⟩
  intro es hes
  match es, hes with
  | [_, _, _, _, _], _ => rfl

theorem proved : Rows.FragmentTwiceSaid :=
  OpenClaim.holds_of_wide 8 Try.f8 rfl rfl rfl rfl rfl rfl rfl ⟨rfl, rfl, rfl, rfl, rfl⟩ rfl rfl rfl rfl rfl (by kernel_rfl) Try.func8 (by kernel_rfl)
    (of_decide_eq_true (by kernel_rfl)) (by unfold Func.isWrapper; first | (rw [if_pos (by decide +kernel)]; kernel_rfl) | (rw [if_neg (by decide +kernel)]; exact ⟨rfl, rfl⟩))
    (fun os started H enc _ => lifted os started H enc)
#print axioms proved
end Go.Proofs.Ytibfchdhppdccaa.fragmentTwice
