/- Layer 20 (report), the reference: Text. -/
import Derived.Test.YtcmkpnjbnjbegaaDoorVn
set_option linter.unusedVariables false
set_option linter.unusedSimpArgs false
namespace Go.Proofs.YtcmkpnjbnjbegaaDoor
open Go Go.RowKit
attribute [local go_sem] B_getElem B_size B_app B_extract B_get B_toList
theorem B_lit_r8 (l : List UInt8) (a b c d e f g h : UInt8) : B l ++ (⟨#[a, b, c, d, e, f, g, h]⟩ : ByteArray) = B (l ++ [a, b, c, d, e, f, g, h]) := B_app l [a, b, c, d, e, f, g, h]
attribute [local go_sem] B_lit_r B_lit_l1 B_lit_l6 B_lit_r6 B_lit_l8 B_lit_r8
def KindA : Array Value := #[.string (B (kindS 0)), .string (B (kindS 1)), .string (B (kindS 2)), .string (B (kindS 3)), .string (B (kindS 4)), .string (B (kindS 5)), .string (B (kindS 6))]
def ReasA : Array Value := #[.string (B (reasonS 0)), .string (B (reasonS 1)), .string (B (reasonS 2)), .string (B (reasonS 3)), .string (B (reasonS 4)), .string (B (reasonS 5)), .string (B (reasonS 6)), .string (B (reasonS 7))]
theorem kindA_get (k : Nat) (h : k < 7) : KindA[k]? = some (.string (B (kindS k))) := by
  rcases (show k = 0 ∨ k = 1 ∨ k = 2 ∨ k = 3 ∨ k = 4 ∨ k = 5 ∨ k = 6 by omega) with rfl | rfl | rfl | rfl | rfl | rfl | rfl <;> rfl
theorem reasA_get (k : Nat) (h : k < 8) : ReasA[k]? = some (.string (B (reasonS k))) := by
  rcases (show k = 0 ∨ k = 1 ∨ k = 2 ∨ k = 3 ∨ k = 4 ∨ k = 5 ∨ k = 6 ∨ k = 7 by omega) with rfl | rfl | rfl | rfl | rfl | rfl | rfl | rfl <;> rfl

set_option maxRecDepth 100000 in
set_option maxHeartbeats 3000000 in
theorem rrepText_any (r : Rep) (w : World) :
    Calls Tryd.prog 20 #[repV r] w fun e w' => e = .returned (.tuple #[.string (B (textR r)), .int .i64 (repE r)]) ∧ Below w.heap.size w w' := by
  obtain ⟨E, hE⟩ : ∃ E, repE r = E := ⟨_, rfl⟩
  have HE := Lib.hid hE
  by_cases z : E = 0
  case neg =>
    have z' : (E != 0) = true := by simpa using z
    rw [textR_bad (by rw [hE]; exact z), hE]
    clear hE z
    unfold repV
    go_enter Tryd.func20, Tryd.ntmps20
    go_wp2_with fail
    refine (rrepCheck_any r _).mono ?_
    rintro e w1 ⟨rfl, hb1⟩
    rw [HE.out]
    go_wp2
    go_ret2
    exact ⟨rfl, (by repeat' (first | (with_reducible refine bset ?_ ?_) | (with_reducible exact Below.refl _ _) | (with_reducible assumption) | (with_reducible refine bdrewN ?_ _) | (with_reducible refine bdrew ?_) | (with_reducible refine balloc0 ?_) | (with_reducible refine balloc ?_ ?_) | (with_reducible apply btrans0; rotate_left; with_reducible assumption) | (with_reducible apply btrans; rotate_left; with_reducible assumption) | exact Below.refl _ _ | assumption | (apply btrans0; rotate_left; assumption) | (apply btrans; rotate_left; assumption) | (simp; done) | omega | (simp; omega)))⟩
  subst z
  obtain ⟨R, hR⟩ : ∃ R, textR r = R := ⟨_, rfl⟩
  have HR := Lib.hid hR
  rw [hR, hE]
  obtain ⟨a1, a2, a3, a4, a5, a6, a7, a8, a9, a10⟩ := rep_facts hE
  obtain ⟨i1, i2, i3, i4, i5, i6, i7⟩ := rid_facts a3
  obtain ⟨kind, src, crt, seq, off, tot, node, time, reason⟩ := r
  simp only at a1 a2 a4 a5 a6 a7 a8 a9 a10 i1 i2 i3 i4 i5 i6 i7
  obtain ⟨kn, rfl⟩ : ∃ k : Nat, kind = k := ⟨kind.toNat, by omega⟩
  obtain ⟨rn, rfl⟩ : ∃ k : Nat, reason = k := ⟨reason.toNat, by omega⟩
  unfold textR at hR
  rw [if_neg (by simp [hE])] at hR
  simp only [Int.toNat_natCast] at hR
  have kk : kn < 7 := by omega
  have rk : rn < 8 := by omega
  obtain ⟨K, hK0⟩ : ∃ q, kindS kn = q := ⟨_, rfl⟩
  obtain ⟨N, hN0⟩ : ∃ q, reasonS rn = q := ⟨_, rfl⟩
  obtain ⟨A, hA⟩ : ∃ q, Lib.itoa src = q := ⟨_, rfl⟩
  obtain ⟨C, hC⟩ : ∃ q, Lib.itoa crt = q := ⟨_, rfl⟩
  obtain ⟨D, hD⟩ : ∃ q, Lib.itoa seq = q := ⟨_, rfl⟩
  obtain ⟨F, hF⟩ : ∃ q, Lib.itoa off = q := ⟨_, rfl⟩
  obtain ⟨G, hG⟩ : ∃ q, Lib.itoa tot = q := ⟨_, rfl⟩
  obtain ⟨J, hJ⟩ : ∃ q, Lib.itoa node = q := ⟨_, rfl⟩
  obtain ⟨M, hM⟩ : ∃ q, Lib.itoa time = q := ⟨_, rfl⟩
  have lK : K.length ≤ 14 := hK0 ▸ kindS_len kn kk
  have lN : N.length ≤ 14 := hN0 ▸ reasonS_len rn rk
  have lA : A.length ≤ 21 := hA ▸ Lib.itoa_le (by omega) (by omega)
  have lC : C.length ≤ 21 := hC ▸ Lib.itoa_le (by omega) (by omega)
  have lD : D.length ≤ 21 := hD ▸ Lib.itoa_le (by omega) (by omega)
  have lF : F.length ≤ 21 := hF ▸ Lib.itoa_le (by omega) (by omega)
  have lG : G.length ≤ 21 := hG ▸ Lib.itoa_le (by omega) (by omega)
  have lJ : J.length ≤ 21 := hJ ▸ Lib.itoa_le (by omega) (by omega)
  have lM : M.length ≤ 21 := hM ▸ Lib.itoa_le (by omega) (by omega)
  rw [hK0, hN0, hA, hC, hD, hF, hG, hJ, hM] at hR
  have HA := Lib.hid hA; have HC := Lib.hid hC; have HD := Lib.hid hD; have HF := Lib.hid hF; have HG := Lib.hid hG; have HJ := Lib.hid hJ; have HM := Lib.hid hM; have HR1 := Lib.hid hR
  have HK := Lib.hid hK0; have HN := Lib.hid hN0
  have n1 : (0 : Int) ≤ (kn : Int) := by omega
  have n2 : (kn : Int) < 7 := by omega
  have n3 : (0 : Int) ≤ (rn : Int) := by omega
  have n4 : (rn : Int) < 8 := by omega
  have c1 : ¬ 9223372036854775807 < K.length + 1 := by omega
  have c2 : ¬ 9223372036854775807 < K.length + 1 + A.length := by omega
  have c3 : ¬ 9223372036854775807 < K.length + (A.length + 1) + 1 := by omega
  have c4 : ¬ 9223372036854775807 < K.length + (A.length + 1 + 1) + C.length := by omega
  have c5 : ¬ 9223372036854775807 < K.length + (A.length + 2) + C.length := by omega
  have c6 : ¬ 9223372036854775807 < K.length + (A.length + (C.length + 1) + 1) + 1 := by omega
  have c7 : ¬ 9223372036854775807 < K.length + (A.length + (C.length + 1 + 1) + 1) + D.length := by omega
  have c8 : ¬ 9223372036854775807 < K.length + (A.length + (C.length + 2) + 1) + D.length := by omega
  have c9 : ¬ 9223372036854775807 < 1 + F.length := by omega
  have c10 : ¬ 9223372036854775807 < F.length + 1 + 1 := by omega
  have c11 : ¬ 9223372036854775807 < F.length + 1 + 1 + G.length := by omega
  have c12 : ¬ 9223372036854775807 < F.length + 2 + G.length := by omega
  have c13 : ¬ 9223372036854775807 < 6 + J.length := by omega
  have c14 : ¬ 9223372036854775807 < J.length + 6 + M.length := by omega
  clear hA hC hD hF hG hJ hM hR hK0 hN0 hE HR a3 a10
  unfold repV
  simp only
  go_enter Tryd.func20, Tryd.ntmps20
  go_wp2_with fail
  refine (rrepCheck_any ⟨(kn : Int), src, crt, seq, off, tot, node, time, (rn : Int)⟩ _).mono ?_
  rw [HE.out]
  rintro e w1 ⟨rfl, hb1⟩
  have hB1 : Below w.heap.size w w1 := (by repeat' (first | (with_reducible refine bset ?_ ?_) | (with_reducible exact Below.refl _ _) | (with_reducible assumption) | (with_reducible refine bdrewN ?_ _) | (with_reducible refine bdrew ?_) | (with_reducible refine balloc0 ?_) | (with_reducible refine balloc ?_ ?_) | (with_reducible apply btrans0; rotate_left; with_reducible assumption) | (with_reducible apply btrans; rotate_left; with_reducible assumption) | exact Below.refl _ _ | assumption | (apply btrans0; rotate_left; assumption) | (apply btrans; rotate_left; assumption) | (simp; done) | omega | (simp; omega)))
  have z1 : w.heap.size < w1.heap.size := by have := hb1.size; simp at this; omega
  have G1 : w1.heap[w.heap.size]? = some (.cells #[.int .i64 kn, .int .i64 src, .int .i64 crt, .int .i64 seq, .int .i64 off, .int .i64 tot, .int .i64 node, .int .i64 time, .int .i64 rn] 25 (0, 0)) := (hb1.block _ (by simp)).trans heap_new
  have cg := fun o => cellB G1 o
  have CG1 : ∀ o, w1.cell? ⟨w.heap.size, o, none⟩ = (#[.int .i64 kn, .int .i64 src, .int .i64 crt, .int .i64 seq, .int .i64 off, .int .i64 tot, .int .i64 node, .int .i64 time, .int .i64 rn] : Array Value)[o]? := cg
  have kd1 := kindA_get kn kk
  have rd1 := reasA_get rn rk
  rw [HK.out] at kd1
  rw [HN.out] at rd1
  clear hb1 G1 cg
  go_wp2
  show Code.wp _ _ _ _ ((w1.alloc (.cells KindA 9)).alloc (.cells ReasA 9))
  have ck0 : ((w1.alloc (.cells KindA 9)).alloc (.cells ReasA 9)).cell? ⟨w1.heap.size, kn, none⟩ = some (.string (B K)) := by rw [World.cell?_alloc_past _ _ _ (by simp), World.cell?_alloc_new]; exact kd1
  have cr0 : ((w1.alloc (.cells KindA 9)).alloc (.cells ReasA 9)).cell? ⟨w1.heap.size + 1, rn, none⟩ = some (.string (B N)) := by rw [World.cell?_alloc_at _ _ _ _ (by simp)]; exact rd1
  have b12 : Below w1.heap.size w1 ((w1.alloc (.cells KindA 9)).alloc (.cells ReasA 9)) := balloc0 (balloc0 (Below.refl w1.heap.size w1))
  have s12 : w1.heap.size + 1 < ((w1.alloc (.cells KindA 9)).alloc (.cells ReasA 9)).heap.size := by simp
  generalize ((w1.alloc (.cells KindA 9)).alloc (.cells ReasA 9)) = w2 at *
  have ck : w2.cell? ⟨w1.heap.size, kn, none⟩ = some (.string (B K)) := ck0
  have cr2 : w2.cell? ⟨w1.heap.size + 1, rn, none⟩ = some (.string (B N)) := cr0
  have z2 : w.heap.size < w2.heap.size := by omega
  have s0 : w1.heap.size < w2.heap.size := by omega
  have hB2 : Below w.heap.size w w2 := (by repeat' (first | (with_reducible refine bset ?_ ?_) | (with_reducible exact Below.refl _ _) | (with_reducible assumption) | (with_reducible refine bdrewN ?_ _) | (with_reducible refine bdrew ?_) | (with_reducible refine balloc0 ?_) | (with_reducible refine balloc ?_ ?_) | (with_reducible apply btrans0; rotate_left; with_reducible assumption) | (with_reducible apply btrans; rotate_left; with_reducible assumption) | exact Below.refl _ _ | assumption | (apply btrans0; rotate_left; assumption) | (apply btrans; rotate_left; assumption) | (simp; done) | omega | (simp; omega)))
  have CG2 : ∀ o, w2.cell? ⟨w.heap.size, o, none⟩ = (#[.int .i64 kn, .int .i64 src, .int .i64 crt, .int .i64 seq, .int .i64 off, .int .i64 tot, .int .i64 node, .int .i64 time, .int .i64 rn] : Array Value)[o]? := fun o => ((bcell b12).1 _ _ z1).trans (CG1 o)
  clear ck0 cr0 CG1 hB1 b12 kd1 rd1
  refine wp_region_plan (fun V => Below (w2).heap.size (w2) V) [0, 0, 1, 0, 1, 0, 0, 0, 1, 2, 0, 0, 0, 0, 1, 2, 0, 0, 0, 0, 1, 2, 0, 0] [0, 1, 2, 3, 4, 5, 6, 7, 8, 12, 13, 14, 18, 19, 20, 9, 10, 11, 15, 16, 17, 21, 22, 23] (by kernel_rfl) (by kernel_rfl) ?_ ?_
  case refine_1 => exact (by repeat' (first | (with_reducible refine bset ?_ ?_) | (with_reducible exact Below.refl _ _) | (with_reducible assumption) | (with_reducible refine bdrewN ?_ _) | (with_reducible refine bdrew ?_) | (with_reducible refine balloc0 ?_) | (with_reducible refine balloc ?_ ?_) | (with_reducible apply btrans0; rotate_left; with_reducible assumption) | (with_reducible apply btrans; rotate_left; with_reducible assumption) | exact Below.refl _ _ | assumption | (apply btrans0; rotate_left; assumption) | (apply btrans; rotate_left; assumption) | (simp; done) | omega | (simp; omega)))
  (iterate 15 (first | (refine plan_held rfl (by decide) (by rfl) (fun w1 hS => by (try (obtain ⟨_, _⟩ := bcell (hS rfl))); go_simp; rfl) ?_; simp only [Act.put, List.setIfInBounds_toArray, List.set_cons_zero, List.set_cons_succ]) | (refine plan_skip rfl (by decide) (by rfl) ?_; simp only [Act.put, List.setIfInBounds_toArray, List.set_cons_zero, List.set_cons_succ])))
  (refine plan_keep rfl rfl (by rfl) (fun K hK => ?_); go_simp)
  refine (rdec_any src _ (by omega) (by omega)).mono ?_
  rw [HA.out]
  rintro e wc24 ⟨rfl, hbc24⟩
  (refine hK _ _ (by exact (by repeat' (first | (with_reducible refine bset ?_ ?_) | (with_reducible exact Below.refl _ _) | (with_reducible assumption) | (with_reducible refine bdrewN ?_ _) | (with_reducible refine bdrew ?_) | (with_reducible refine balloc0 ?_) | (with_reducible refine balloc ?_ ?_) | (with_reducible apply btrans0; rotate_left; with_reducible assumption) | (with_reducible apply btrans; rotate_left; with_reducible assumption) | exact Below.refl _ _ | assumption | (apply btrans0; rotate_left; assumption) | (apply btrans; rotate_left; assumption) | (simp; done) | omega | (simp; omega)))) ?_; clear hK K; (try simp only [Act.put, List.setIfInBounds_toArray, List.set_cons_zero, List.set_cons_succ]))
  (iterate 2 (first | (refine plan_held rfl (by decide) (by rfl) (fun w1 hS => by (try (obtain ⟨_, _⟩ := bcell (hS rfl))); go_simp; rfl) ?_; simp only [Act.put, List.setIfInBounds_toArray, List.set_cons_zero, List.set_cons_succ]) | (refine plan_skip rfl (by decide) (by rfl) ?_; simp only [Act.put, List.setIfInBounds_toArray, List.set_cons_zero, List.set_cons_succ])))
  (refine plan_keep rfl rfl (by rfl) (fun K hK => ?_); go_simp)
  refine (rdec_any crt _ (by omega) (by omega)).mono ?_
  rw [HC.out]
  rintro e wc30 ⟨rfl, hbc30⟩
  (refine hK _ _ (by exact (by repeat' (first | (with_reducible refine bset ?_ ?_) | (with_reducible exact Below.refl _ _) | (with_reducible assumption) | (with_reducible refine bdrewN ?_ _) | (with_reducible refine bdrew ?_) | (with_reducible refine balloc0 ?_) | (with_reducible refine balloc ?_ ?_) | (with_reducible apply btrans0; rotate_left; with_reducible assumption) | (with_reducible apply btrans; rotate_left; with_reducible assumption) | exact Below.refl _ _ | assumption | (apply btrans0; rotate_left; assumption) | (apply btrans; rotate_left; assumption) | (simp; done) | omega | (simp; omega)))) ?_; clear hK K; (try simp only [Act.put, List.setIfInBounds_toArray, List.set_cons_zero, List.set_cons_succ]))
  (iterate 2 (first | (refine plan_held rfl (by decide) (by rfl) (fun w1 hS => by (try (obtain ⟨_, _⟩ := bcell (hS rfl))); go_simp; rfl) ?_; simp only [Act.put, List.setIfInBounds_toArray, List.set_cons_zero, List.set_cons_succ]) | (refine plan_skip rfl (by decide) (by rfl) ?_; simp only [Act.put, List.setIfInBounds_toArray, List.set_cons_zero, List.set_cons_succ])))
  (refine plan_keep rfl rfl (by rfl) (fun K hK => ?_); go_simp)
  refine (rdec_any seq _ (by omega) (by omega)).mono ?_
  rw [HD.out]
  rintro e wc36 ⟨rfl, hbc36⟩
  (refine hK _ _ (by exact (by repeat' (first | (with_reducible refine bset ?_ ?_) | (with_reducible exact Below.refl _ _) | (with_reducible assumption) | (with_reducible refine bdrewN ?_ _) | (with_reducible refine bdrew ?_) | (with_reducible refine balloc0 ?_) | (with_reducible refine balloc ?_ ?_) | (with_reducible apply btrans0; rotate_left; with_reducible assumption) | (with_reducible apply btrans; rotate_left; with_reducible assumption) | exact Below.refl _ _ | assumption | (apply btrans0; rotate_left; assumption) | (apply btrans; rotate_left; assumption) | (simp; done) | omega | (simp; omega)))) ?_; clear hK K; (try simp only [Act.put, List.setIfInBounds_toArray, List.set_cons_zero, List.set_cons_succ]))
  (iterate 2 (first | (refine plan_held rfl (by decide) (by rfl) (fun w1 hS => by (try (obtain ⟨_, _⟩ := bcell (hS rfl))); go_simp; rfl) ?_; simp only [Act.put, List.setIfInBounds_toArray, List.set_cons_zero, List.set_cons_succ]) | (refine plan_skip rfl (by decide) (by rfl) ?_; simp only [Act.put, List.setIfInBounds_toArray, List.set_cons_zero, List.set_cons_succ])))
  refine plan_done ?_
  obtain ⟨P1, hP1⟩ : ∃ q, K ++ 32 :: (A ++ 46 :: (C ++ 46 :: D)) = q := ⟨_, rfl⟩
  have lP1 : P1.length ≤ 150 := by rw [← hP1]; simp; omega
  rw [hP1]
  have e0 : ¬ 9223372036854775807 < P1.length + 1 := by omega
  have e1 : ¬ 9223372036854775807 < P1.length + 1 + F.length := by omega
  have e2 : ¬ 9223372036854775807 < P1.length + (F.length + 1) + 1 := by omega
  have e3 : ¬ 9223372036854775807 < P1.length + (F.length + 1 + 1) + G.length := by omega
  have e4 : ¬ 9223372036854775807 < P1.length + 6 := by omega
  have e5 : ¬ 9223372036854775807 < P1.length + 6 + J.length := by omega
  have e6 : ¬ 9223372036854775807 < P1.length + (J.length + 1 + 1 + 1 + 1 + 1 + 1) + 6 := by omega
  have e7 : ¬ 9223372036854775807 < P1.length + (J.length + 6 + 1 + 1 + 1 + 1 + 1 + 1) + M.length := by omega
  have p1 : ¬ 9223372036854775807 < P1.length + (F.length + (G.length + 1) + 1) := by omega
  have p3 : ¬ 9223372036854775807 < J.length + 6 + 1 + 1 + 1 + 1 + 1 + 1 + M.length := by omega
  have p4 : ¬ 9223372036854775807 < P1.length + (J.length + (M.length + 1 + 1 + 1 + 1 + 1 + 1) + 1 + 1 + 1 + 1 + 1 + 1) := by omega
  have p5 : ¬ 9223372036854775807 < 8 + N.length := by omega
  have p2 : ¬ 9223372036854775807 < J.length + 1 + 1 + 1 + 1 + 1 + 1 + 6 := by omega
  have HP1 := Lib.hid hP1
  have bQ5 : Below w2.heap.size w2 wc36 := (by repeat' (first | (with_reducible refine bset ?_ ?_) | (with_reducible exact Below.refl _ _) | (with_reducible assumption) | (with_reducible refine bdrewN ?_ _) | (with_reducible refine bdrew ?_) | (with_reducible refine balloc0 ?_) | (with_reducible refine balloc ?_ ?_) | (with_reducible apply btrans0; rotate_left; with_reducible assumption) | (with_reducible apply btrans; rotate_left; with_reducible assumption) | exact Below.refl _ _ | assumption | (apply btrans0; rotate_left; assumption) | (apply btrans; rotate_left; assumption) | (simp; done) | omega | (simp; omega)))
  have hB5 : Below w.heap.size w wc36 := (by repeat' (first | (with_reducible refine bset ?_ ?_) | (with_reducible exact Below.refl _ _) | (with_reducible assumption) | (with_reducible refine bdrewN ?_ _) | (with_reducible refine bdrew ?_) | (with_reducible refine balloc0 ?_) | (with_reducible refine balloc ?_ ?_) | (with_reducible apply btrans0; rotate_left; with_reducible assumption) | (with_reducible apply btrans; rotate_left; with_reducible assumption) | exact Below.refl _ _ | assumption | (apply btrans0; rotate_left; assumption) | (apply btrans; rotate_left; assumption) | (simp; done) | omega | (simp; omega)))
  have z5 : w.heap.size < wc36.heap.size := by have := bQ5.size; omega
  have s5 : w1.heap.size + 1 < wc36.heap.size := by have := bQ5.size; omega
  have cr5 : wc36.cell? ⟨w1.heap.size + 1, rn, none⟩ = some (.string (B N)) := ((bcell bQ5).1 _ _ s12).trans cr2
  have CG5 : ∀ o, wc36.cell? ⟨w.heap.size, o, none⟩ = (#[.int .i64 kn, .int .i64 src, .int .i64 crt, .int .i64 seq, .int .i64 off, .int .i64 tot, .int .i64 node, .int .i64 time, .int .i64 rn] : Array Value)[o]? := fun o => ((bcell bQ5).1 _ _ z2).trans (CG2 o)
  clear ck hP1
  by_cases ht : tot = 0
  · subst ht
    have HTOT : Hid True := Lib.hid trivial
    go_wp2
    refine wp_region_plan (fun V => Below (wc36).heap.size (wc36) V) [0, 0, 0, 1, 2, 0, 0, 0, 1, 3, 0, 0] [0, 1, 2, 3, 7, 8, 4, 5, 6, 9, 10, 11] (by kernel_rfl) (by kernel_rfl) ?_ ?_
    case refine_1 => exact (by repeat' (first | (with_reducible refine bset ?_ ?_) | (with_reducible exact Below.refl _ _) | (with_reducible assumption) | (with_reducible refine bdrewN ?_ _) | (with_reducible refine bdrew ?_) | (with_reducible refine balloc0 ?_) | (with_reducible refine balloc ?_ ?_) | (with_reducible apply btrans0; rotate_left; with_reducible assumption) | (with_reducible apply btrans; rotate_left; with_reducible assumption) | exact Below.refl _ _ | assumption | (apply btrans0; rotate_left; assumption) | (apply btrans; rotate_left; assumption) | (simp; done) | omega | (simp; omega)))
    (iterate 6 (first | (refine plan_held rfl (by decide) (by rfl) (fun w1 hS => by (try (obtain ⟨_, _⟩ := bcell (hS rfl))); go_simp; rfl) ?_; simp only [Act.put, List.setIfInBounds_toArray, List.set_cons_zero, List.set_cons_succ]) | (refine plan_skip rfl (by decide) (by rfl) ?_; simp only [Act.put, List.setIfInBounds_toArray, List.set_cons_zero, List.set_cons_succ])))
    (refine plan_keep rfl rfl (by rfl) (fun K hK => ?_); go_simp)
    refine (rdec_any node _ (by omega) (by omega)).mono ?_
    rw [HJ.out]
    rintro e wc59 ⟨rfl, hbc59⟩
    (refine hK _ _ (by exact (by repeat' (first | (with_reducible refine bset ?_ ?_) | (with_reducible exact Below.refl _ _) | (with_reducible assumption) | (with_reducible refine bdrewN ?_ _) | (with_reducible refine bdrew ?_) | (with_reducible refine balloc0 ?_) | (with_reducible refine balloc ?_ ?_) | (with_reducible apply btrans0; rotate_left; with_reducible assumption) | (with_reducible apply btrans; rotate_left; with_reducible assumption) | exact Below.refl _ _ | assumption | (apply btrans0; rotate_left; assumption) | (apply btrans; rotate_left; assumption) | (simp; done) | omega | (simp; omega)))) ?_; clear hK K; (try simp only [Act.put, List.setIfInBounds_toArray, List.set_cons_zero, List.set_cons_succ]))
    (iterate 2 (first | (refine plan_held rfl (by decide) (by rfl) (fun w1 hS => by (try (obtain ⟨_, _⟩ := bcell (hS rfl))); go_simp; rfl) ?_; simp only [Act.put, List.setIfInBounds_toArray, List.set_cons_zero, List.set_cons_succ]) | (refine plan_skip rfl (by decide) (by rfl) ?_; simp only [Act.put, List.setIfInBounds_toArray, List.set_cons_zero, List.set_cons_succ])))
    (refine plan_late rfl rfl (by rfl) (fun K hK => ?_); go_simp)
    refine (rdec_any time _ (by omega) (by omega)).mono ?_
    rw [HM.out]
    rintro e wc64 ⟨rfl, hbc64⟩
    (refine hK _ _ ?_; clear hK K; (try simp only [Act.put, List.setIfInBounds_toArray, List.set_cons_zero, List.set_cons_succ]))
    (iterate 2 (first | (refine plan_held rfl (by decide) (by rfl) (fun w1 hS => by (try (obtain ⟨_, _⟩ := bcell (hS rfl))); go_simp; rfl) ?_; simp only [Act.put, List.setIfInBounds_toArray, List.set_cons_zero, List.set_cons_succ]) | (refine plan_skip rfl (by decide) (by rfl) ?_; simp only [Act.put, List.setIfInBounds_toArray, List.set_cons_zero, List.set_cons_succ])))
    refine plan_done ?_
    obtain ⟨P3, hP3⟩ : ∃ q, P1 ++ 32 :: 110 :: 111 :: 100 :: 101 :: 32 :: (J ++ 32 :: 116 :: 105 :: 109 :: 101 :: 32 :: M) = q := ⟨_, rfl⟩
    have lP3 : P3.length ≤ 400 := by rw [← hP3]; simp; omega
    rw [hP3]
    have e20 : ¬ 9223372036854775807 < P3.length + 8 := by omega
    have e21 : ¬ 9223372036854775807 < P3.length + 8 + N.length := by omega
    have p7 : ¬ 9223372036854775807 < P3.length + (N.length + 1 + 1 + 1 + 1 + 1 + 1 + 1 + 1) := by omega
    have HP3 := Lib.hid hP3
    have bQ8 : Below wc36.heap.size wc36 wc64 := (by repeat' (first | (with_reducible refine bset ?_ ?_) | (with_reducible exact Below.refl _ _) | (with_reducible assumption) | (with_reducible refine bdrewN ?_ _) | (with_reducible refine bdrew ?_) | (with_reducible refine balloc0 ?_) | (with_reducible refine balloc ?_ ?_) | (with_reducible apply btrans0; rotate_left; with_reducible assumption) | (with_reducible apply btrans; rotate_left; with_reducible assumption) | exact Below.refl _ _ | assumption | (apply btrans0; rotate_left; assumption) | (apply btrans; rotate_left; assumption) | (simp; done) | omega | (simp; omega)))
    have hB8 : Below w.heap.size w wc64 := (by repeat' (first | (with_reducible refine bset ?_ ?_) | (with_reducible exact Below.refl _ _) | (with_reducible assumption) | (with_reducible refine bdrewN ?_ _) | (with_reducible refine bdrew ?_) | (with_reducible refine balloc0 ?_) | (with_reducible refine balloc ?_ ?_) | (with_reducible apply btrans0; rotate_left; with_reducible assumption) | (with_reducible apply btrans; rotate_left; with_reducible assumption) | exact Below.refl _ _ | assumption | (apply btrans0; rotate_left; assumption) | (apply btrans; rotate_left; assumption) | (simp; done) | omega | (simp; omega)))
    have z8 : w.heap.size < wc64.heap.size := by have := bQ8.size; omega
    have s8 : w1.heap.size + 1 < wc64.heap.size := by have := bQ8.size; omega
    have cr8 : wc64.cell? ⟨w1.heap.size + 1, rn, none⟩ = some (.string (B N)) := ((bcell bQ8).1 _ _ s5).trans cr5
    have CG8 : ∀ o, wc64.cell? ⟨w.heap.size, o, none⟩ = (#[.int .i64 kn, .int .i64 src, .int .i64 crt, .int .i64 seq, .int .i64 off, .int .i64 0, .int .i64 node, .int .i64 time, .int .i64 rn] : Array Value)[o]? := fun o => ((bcell bQ8).1 _ _ z5).trans (CG5 o)
    by_cases hr : rn = 0
    · subst hr
      go_wp2
      go_ret2
      refine ⟨?_, (by repeat' (first | (with_reducible refine bset ?_ ?_) | (with_reducible exact Below.refl _ _) | (with_reducible assumption) | (with_reducible refine bdrewN ?_ _) | (with_reducible refine bdrew ?_) | (with_reducible refine balloc0 ?_) | (with_reducible refine balloc ?_ ?_) | (with_reducible apply btrans0; rotate_left; with_reducible assumption) | (with_reducible apply btrans; rotate_left; with_reducible assumption) | exact Below.refl _ _ | assumption | (apply btrans0; rotate_left; assumption) | (apply btrans; rotate_left; assumption) | (simp; done) | omega | (simp; omega)))⟩
      rw [← HR1.out, ← HP3.out, ← HP1.out]
      simp [HTOT.out]
    · have hr1 : ((rn : Int) != 0) = true := by rw [bne_iff_ne]; omega
      have hr2 : ¬ (rn : Int) = 0 := by omega
      go_wp2
      go_ret2
      refine ⟨?_, (by repeat' (first | (with_reducible refine bset ?_ ?_) | (with_reducible exact Below.refl _ _) | (with_reducible assumption) | (with_reducible refine bdrewN ?_ _) | (with_reducible refine bdrew ?_) | (with_reducible refine balloc0 ?_) | (with_reducible refine balloc ?_ ?_) | (with_reducible apply btrans0; rotate_left; with_reducible assumption) | (with_reducible apply btrans; rotate_left; with_reducible assumption) | exact Below.refl _ _ | assumption | (apply btrans0; rotate_left; assumption) | (apply btrans; rotate_left; assumption) | (simp; done) | omega | (simp; omega)))⟩
      rw [← HR1.out, ← HP3.out, ← HP1.out]
      simp [hr, HTOT.out]
  · have HTOT : Hid (¬ tot = 0) := Lib.hid ht
    have ht1 : (tot != 0) = true := by rw [bne_iff_ne]; exact ht
    go_wp2
    refine wp_region_plan (fun V => Below (wc36).heap.size (wc36) V) [0, 0, 0, 0, 1, 2, 0, 0, 0, 0, 1, 3, 0, 0] [0, 1, 2, 3, 4, 8, 9, 10, 5, 6, 7, 11, 12, 13] (by kernel_rfl) (by kernel_rfl) ?_ ?_
    case refine_1 => exact (by repeat' (first | (with_reducible refine bset ?_ ?_) | (with_reducible exact Below.refl _ _) | (with_reducible assumption) | (with_reducible refine bdrewN ?_ _) | (with_reducible refine bdrew ?_) | (with_reducible refine balloc0 ?_) | (with_reducible refine balloc ?_ ?_) | (with_reducible apply btrans0; rotate_left; with_reducible assumption) | (with_reducible apply btrans; rotate_left; with_reducible assumption) | exact Below.refl _ _ | assumption | (apply btrans0; rotate_left; assumption) | (apply btrans; rotate_left; assumption) | (simp; done) | omega | (simp; omega)))
    (iterate 8 (first | (refine plan_held rfl (by decide) (by rfl) (fun w1 hS => by (try (obtain ⟨_, _⟩ := bcell (hS rfl))); go_simp; rfl) ?_; simp only [Act.put, List.setIfInBounds_toArray, List.set_cons_zero, List.set_cons_succ]) | (refine plan_skip rfl (by decide) (by rfl) ?_; simp only [Act.put, List.setIfInBounds_toArray, List.set_cons_zero, List.set_cons_succ])))
    (refine plan_keep rfl rfl (by rfl) (fun K hK => ?_); go_simp)
    refine (rdec_any off _ (by omega) (by omega)).mono ?_
    rw [HF.out]
    rintro e wc47 ⟨rfl, hbc47⟩
    (refine hK _ _ (by exact (by repeat' (first | (with_reducible refine bset ?_ ?_) | (with_reducible exact Below.refl _ _) | (with_reducible assumption) | (with_reducible refine bdrewN ?_ _) | (with_reducible refine bdrew ?_) | (with_reducible refine balloc0 ?_) | (with_reducible refine balloc ?_ ?_) | (with_reducible apply btrans0; rotate_left; with_reducible assumption) | (with_reducible apply btrans; rotate_left; with_reducible assumption) | exact Below.refl _ _ | assumption | (apply btrans0; rotate_left; assumption) | (apply btrans; rotate_left; assumption) | (simp; done) | omega | (simp; omega)))) ?_; clear hK K; (try simp only [Act.put, List.setIfInBounds_toArray, List.set_cons_zero, List.set_cons_succ]))
    (iterate 2 (first | (refine plan_held rfl (by decide) (by rfl) (fun w1 hS => by (try (obtain ⟨_, _⟩ := bcell (hS rfl))); go_simp; rfl) ?_; simp only [Act.put, List.setIfInBounds_toArray, List.set_cons_zero, List.set_cons_succ]) | (refine plan_skip rfl (by decide) (by rfl) ?_; simp only [Act.put, List.setIfInBounds_toArray, List.set_cons_zero, List.set_cons_succ])))
    (refine plan_late rfl rfl (by rfl) (fun K hK => ?_); go_simp)
    refine (rdec_any tot _ (by omega) (by omega)).mono ?_
    rw [HG.out]
    rintro e wc53 ⟨rfl, hbc53⟩
    (refine hK _ _ ?_; clear hK K; (try simp only [Act.put, List.setIfInBounds_toArray, List.set_cons_zero, List.set_cons_succ]))
    (iterate 2 (first | (refine plan_held rfl (by decide) (by rfl) (fun w1 hS => by (try (obtain ⟨_, _⟩ := bcell (hS rfl))); go_simp; rfl) ?_; simp only [Act.put, List.setIfInBounds_toArray, List.set_cons_zero, List.set_cons_succ]) | (refine plan_skip rfl (by decide) (by rfl) ?_; simp only [Act.put, List.setIfInBounds_toArray, List.set_cons_zero, List.set_cons_succ])))
    refine plan_done ?_
    obtain ⟨P2, hP2⟩ : ∃ q, P1 ++ 46 :: (F ++ 47 :: G) = q := ⟨_, rfl⟩
    have lP2 : P2.length ≤ 250 := by rw [← hP2]; simp; omega
    rw [hP2]
    have g0 : ¬ 9223372036854775807 < P2.length + 6 := by omega
    have g1 : ¬ 9223372036854775807 < P2.length + 6 + J.length := by omega
    have g2 : ¬ 9223372036854775807 < P2.length + (J.length + 1 + 1 + 1 + 1 + 1 + 1) + 6 := by omega
    have g3 : ¬ 9223372036854775807 < P2.length + (J.length + 6 + 1 + 1 + 1 + 1 + 1 + 1) + M.length := by omega
    have p6 : ¬ 9223372036854775807 < P2.length + (J.length + (M.length + 1 + 1 + 1 + 1 + 1 + 1) + 1 + 1 + 1 + 1 + 1 + 1) := by omega
    have HP2 := Lib.hid hP2
    have bQ7 : Below wc36.heap.size wc36 wc53 := (by repeat' (first | (with_reducible refine bset ?_ ?_) | (with_reducible exact Below.refl _ _) | (with_reducible assumption) | (with_reducible refine bdrewN ?_ _) | (with_reducible refine bdrew ?_) | (with_reducible refine balloc0 ?_) | (with_reducible refine balloc ?_ ?_) | (with_reducible apply btrans0; rotate_left; with_reducible assumption) | (with_reducible apply btrans; rotate_left; with_reducible assumption) | exact Below.refl _ _ | assumption | (apply btrans0; rotate_left; assumption) | (apply btrans; rotate_left; assumption) | (simp; done) | omega | (simp; omega)))
    have hB7 : Below w.heap.size w wc53 := (by repeat' (first | (with_reducible refine bset ?_ ?_) | (with_reducible exact Below.refl _ _) | (with_reducible assumption) | (with_reducible refine bdrewN ?_ _) | (with_reducible refine bdrew ?_) | (with_reducible refine balloc0 ?_) | (with_reducible refine balloc ?_ ?_) | (with_reducible apply btrans0; rotate_left; with_reducible assumption) | (with_reducible apply btrans; rotate_left; with_reducible assumption) | exact Below.refl _ _ | assumption | (apply btrans0; rotate_left; assumption) | (apply btrans; rotate_left; assumption) | (simp; done) | omega | (simp; omega)))
    have z7 : w.heap.size < wc53.heap.size := by have := bQ7.size; omega
    have s7 : w1.heap.size + 1 < wc53.heap.size := by have := bQ7.size; omega
    have cr7 : wc53.cell? ⟨w1.heap.size + 1, rn, none⟩ = some (.string (B N)) := ((bcell bQ7).1 _ _ s5).trans cr5
    have CG7 : ∀ o, wc53.cell? ⟨w.heap.size, o, none⟩ = (#[.int .i64 kn, .int .i64 src, .int .i64 crt, .int .i64 seq, .int .i64 off, .int .i64 tot, .int .i64 node, .int .i64 time, .int .i64 rn] : Array Value)[o]? := fun o => ((bcell bQ7).1 _ _ z5).trans (CG5 o)
    go_wp2
    refine wp_region_plan (fun V => Below (wc53).heap.size (wc53) V) [0, 0, 0, 1, 2, 0, 0, 0, 1, 3, 0, 0] [0, 1, 2, 3, 7, 8, 4, 5, 6, 9, 10, 11] (by kernel_rfl) (by kernel_rfl) ?_ ?_
    case refine_1 => exact (by repeat' (first | (with_reducible refine bset ?_ ?_) | (with_reducible exact Below.refl _ _) | (with_reducible assumption) | (with_reducible refine bdrewN ?_ _) | (with_reducible refine bdrew ?_) | (with_reducible refine balloc0 ?_) | (with_reducible refine balloc ?_ ?_) | (with_reducible apply btrans0; rotate_left; with_reducible assumption) | (with_reducible apply btrans; rotate_left; with_reducible assumption) | exact Below.refl _ _ | assumption | (apply btrans0; rotate_left; assumption) | (apply btrans; rotate_left; assumption) | (simp; done) | omega | (simp; omega)))
    (iterate 6 (first | (refine plan_held rfl (by decide) (by rfl) (fun w1 hS => by (try (obtain ⟨_, _⟩ := bcell (hS rfl))); go_simp; rfl) ?_; simp only [Act.put, List.setIfInBounds_toArray, List.set_cons_zero, List.set_cons_succ]) | (refine plan_skip rfl (by decide) (by rfl) ?_; simp only [Act.put, List.setIfInBounds_toArray, List.set_cons_zero, List.set_cons_succ])))
    (refine plan_keep rfl rfl (by rfl) (fun K hK => ?_); go_simp)
    refine (rdec_any node _ (by omega) (by omega)).mono ?_
    rw [HJ.out]
    rintro e wc59 ⟨rfl, hbc59⟩
    (refine hK _ _ (by exact (by repeat' (first | (with_reducible refine bset ?_ ?_) | (with_reducible exact Below.refl _ _) | (with_reducible assumption) | (with_reducible refine bdrewN ?_ _) | (with_reducible refine bdrew ?_) | (with_reducible refine balloc0 ?_) | (with_reducible refine balloc ?_ ?_) | (with_reducible apply btrans0; rotate_left; with_reducible assumption) | (with_reducible apply btrans; rotate_left; with_reducible assumption) | exact Below.refl _ _ | assumption | (apply btrans0; rotate_left; assumption) | (apply btrans; rotate_left; assumption) | (simp; done) | omega | (simp; omega)))) ?_; clear hK K; (try simp only [Act.put, List.setIfInBounds_toArray, List.set_cons_zero, List.set_cons_succ]))
    (iterate 2 (first | (refine plan_held rfl (by decide) (by rfl) (fun w1 hS => by (try (obtain ⟨_, _⟩ := bcell (hS rfl))); go_simp; rfl) ?_; simp only [Act.put, List.setIfInBounds_toArray, List.set_cons_zero, List.set_cons_succ]) | (refine plan_skip rfl (by decide) (by rfl) ?_; simp only [Act.put, List.setIfInBounds_toArray, List.set_cons_zero, List.set_cons_succ])))
    (refine plan_late rfl rfl (by rfl) (fun K hK => ?_); go_simp)
    refine (rdec_any time _ (by omega) (by omega)).mono ?_
    rw [HM.out]
    rintro e wc64 ⟨rfl, hbc64⟩
    (refine hK _ _ ?_; clear hK K; (try simp only [Act.put, List.setIfInBounds_toArray, List.set_cons_zero, List.set_cons_succ]))
    (iterate 2 (first | (refine plan_held rfl (by decide) (by rfl) (fun w1 hS => by (try (obtain ⟨_, _⟩ := bcell (hS rfl))); go_simp; rfl) ?_; simp only [Act.put, List.setIfInBounds_toArray, List.set_cons_zero, List.set_cons_succ]) | (refine plan_skip rfl (by decide) (by rfl) ?_; simp only [Act.put, List.setIfInBounds_toArray, List.set_cons_zero, List.set_cons_succ])))
    refine plan_done ?_
    obtain ⟨P3, hP3⟩ : ∃ q, P2 ++ 32 :: 110 :: 111 :: 100 :: 101 :: 32 :: (J ++ 32 :: 116 :: 105 :: 109 :: 101 :: 32 :: M) = q := ⟨_, rfl⟩
    have lP3 : P3.length ≤ 400 := by rw [← hP3]; simp; omega
    rw [hP3]
    have e20 : ¬ 9223372036854775807 < P3.length + 8 := by omega
    have e21 : ¬ 9223372036854775807 < P3.length + 8 + N.length := by omega
    have p7 : ¬ 9223372036854775807 < P3.length + (N.length + 1 + 1 + 1 + 1 + 1 + 1 + 1 + 1) := by omega
    have HP3 := Lib.hid hP3
    have bQ8 : Below wc53.heap.size wc53 wc64 := (by repeat' (first | (with_reducible refine bset ?_ ?_) | (with_reducible exact Below.refl _ _) | (with_reducible assumption) | (with_reducible refine bdrewN ?_ _) | (with_reducible refine bdrew ?_) | (with_reducible refine balloc0 ?_) | (with_reducible refine balloc ?_ ?_) | (with_reducible apply btrans0; rotate_left; with_reducible assumption) | (with_reducible apply btrans; rotate_left; with_reducible assumption) | exact Below.refl _ _ | assumption | (apply btrans0; rotate_left; assumption) | (apply btrans; rotate_left; assumption) | (simp; done) | omega | (simp; omega)))
    have hB8 : Below w.heap.size w wc64 := (by repeat' (first | (with_reducible refine bset ?_ ?_) | (with_reducible exact Below.refl _ _) | (with_reducible assumption) | (with_reducible refine bdrewN ?_ _) | (with_reducible refine bdrew ?_) | (with_reducible refine balloc0 ?_) | (with_reducible refine balloc ?_ ?_) | (with_reducible apply btrans0; rotate_left; with_reducible assumption) | (with_reducible apply btrans; rotate_left; with_reducible assumption) | exact Below.refl _ _ | assumption | (apply btrans0; rotate_left; assumption) | (apply btrans; rotate_left; assumption) | (simp; done) | omega | (simp; omega)))
    have z8 : w.heap.size < wc64.heap.size := by have := bQ8.size; omega
    have s8 : w1.heap.size + 1 < wc64.heap.size := by have := bQ8.size; omega
    have cr8 : wc64.cell? ⟨w1.heap.size + 1, rn, none⟩ = some (.string (B N)) := ((bcell bQ8).1 _ _ s7).trans cr7
    have CG8 : ∀ o, wc64.cell? ⟨w.heap.size, o, none⟩ = (#[.int .i64 kn, .int .i64 src, .int .i64 crt, .int .i64 seq, .int .i64 off, .int .i64 tot, .int .i64 node, .int .i64 time, .int .i64 rn] : Array Value)[o]? := fun o => ((bcell bQ8).1 _ _ z7).trans (CG7 o)
    by_cases hr : rn = 0
    · subst hr
      go_wp2
      go_ret2
      refine ⟨?_, (by repeat' (first | (with_reducible refine bset ?_ ?_) | (with_reducible exact Below.refl _ _) | (with_reducible assumption) | (with_reducible refine bdrewN ?_ _) | (with_reducible refine bdrew ?_) | (with_reducible refine balloc0 ?_) | (with_reducible refine balloc ?_ ?_) | (with_reducible apply btrans0; rotate_left; with_reducible assumption) | (with_reducible apply btrans; rotate_left; with_reducible assumption) | exact Below.refl _ _ | assumption | (apply btrans0; rotate_left; assumption) | (apply btrans; rotate_left; assumption) | (simp; done) | omega | (simp; omega)))⟩
      rw [← HR1.out, ← HP3.out, ← HP2.out, ← HP1.out]
      simp [HTOT.out]
    · have hr1 : ((rn : Int) != 0) = true := by rw [bne_iff_ne]; omega
      have hr2 : ¬ (rn : Int) = 0 := by omega
      go_wp2
      go_ret2
      refine ⟨?_, (by repeat' (first | (with_reducible refine bset ?_ ?_) | (with_reducible exact Below.refl _ _) | (with_reducible assumption) | (with_reducible refine bdrewN ?_ _) | (with_reducible refine bdrew ?_) | (with_reducible refine balloc0 ?_) | (with_reducible refine balloc ?_ ?_) | (with_reducible apply btrans0; rotate_left; with_reducible assumption) | (with_reducible apply btrans; rotate_left; with_reducible assumption) | exact Below.refl _ _ | assumption | (apply btrans0; rotate_left; assumption) | (apply btrans; rotate_left; assumption) | (simp; done) | omega | (simp; omega)))⟩
      rw [← HR1.out, ← HP3.out, ← HP2.out, ← HP1.out]
      simp [hr, HTOT.out]
end Go.Proofs.YtcmkpnjbnjbegaaDoor
