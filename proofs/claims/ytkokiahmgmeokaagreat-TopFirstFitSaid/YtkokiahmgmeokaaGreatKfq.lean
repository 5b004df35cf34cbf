/- booking.free from any time, booking.Fit. -/
import Derived.BigQuiet
import Derived.BigRegion
import Derived.Deep.DeepCutAuto
import Derived.Deep.CutBlock
import Derived.OwnWalkIn
import Derived.Lib.MinMax
import Derived.Test.YtkokiahmgmeokaaGreatYj
import Derived.Test.YtkokiahmgmeokaaGreatNz
import Derived.Test.YtkokiahmgmeokaaGreatKfb
set_option linter.unusedVariables false
set_option linter.unusedSimpArgs false
namespace Go.Proofs.YtkokiahmgmeokaaGreat
open Go Go.RowKit Iv
attribute [local go_sem] Oper.semAt_some
attribute [local go_sem] B_getElem B_size B_app B_extract B_get B_toList
def outsM (m : Int) : Int → List Sp → List Sp
  | f, [] => if f < m then [(f, m)] else []
  | f, x :: r => if f < x.1 then (f, x.1) :: outsM m (max f x.2) r else outsM m (max f x.2) r
def fitG (d : Int) : List Sp → Option Int
  | [] => none
  | x :: l => if x.2 - x.1 ≥ d then some x.1 else fitG d l
theorem outsM_len (m : Int) : ∀ (l : List Sp) (f : Int), (outsM m f l).length ≤ l.length + 1
  | [], f => by unfold outsM; split <;> simp
  | x :: r, f => by
    have := outsM_len m r (max f x.2)
    unfold outsM
    split <;> simp <;> omega
theorem outsM_bnd (m : Int) : ∀ (l : List Sp) (f : Int), 0 ≤ f → (∀ x ∈ l, x.1 ≤ 1099511627776) → m ≤ 1099511627776 → ∀ x ∈ outsM m f l, 0 ≤ x.1 ∧ x.1 < x.2 ∧ x.2 ≤ 1099511627776
  | [], f, h0, _, hm => by
    intro x hx
    unfold outsM at hx
    split at hx
    · rw [List.mem_singleton.1 hx]; simp only; omega
    · cases hx
  | y :: r, f, h0, hl, hm => by
    intro x hx
    have ih := outsM_bnd m r (max f y.2) (by omega) (fun z hz => hl z (by simp [hz])) hm
    have := hl y (by simp)
    unfold outsM at hx
    split at hx
    · rcases List.mem_cons.1 hx with rfl | hx
      · simp only; omega
      · exact ih x hx
    · exact ih x hx
theorem fit_first (m d rd : Int) (hd : 1 ≤ d) : ∀ (l : List Sp) (a : Int), DJ a l → hopG (outs m a l) d rd = fitG d (outsM m (max a rd) l)
  | [], a, _ => by
    unfold outs outsM
    by_cases h : a < m
    · rw [if_pos h]
      by_cases h2 : max a rd < m
      · rw [if_pos h2]
        unfold hopG fitG
        by_cases h3 : max a rd + d ≤ m
        · rw [if_pos h3, if_pos (by simp only; omega)]
        · rw [if_neg h3, if_neg (by simp only; omega)]; rfl
      · rw [if_neg h2]
        unfold hopG fitG
        rw [if_neg (by simp only; omega)]; rfl
    · rw [if_neg h, if_neg (by omega)]; rfl
  | x :: r, a, h => by
    obtain ⟨h1, h2, h3⟩ := h
    have ih := fit_first m d rd hd r x.2 h3
    have e : max (max a rd) x.2 = max x.2 rd := by omega
    unfold outs outsM
    rw [e]
    by_cases h : a < x.1
    · rw [if_pos h]
      by_cases h2 : max a rd < x.1
      · rw [if_pos h2]
        unfold hopG fitG
        by_cases h3 : max a rd + d ≤ x.1
        · rw [if_pos h3, if_pos (by simp only; omega)]
        · rw [if_neg h3, if_neg (by simp only; omega)]; exact ih
      · rw [if_neg h2]
        unfold hopG
        rw [if_neg (by simp only; omega)]; exact ih
    · rw [if_neg h, if_neg (by omega)]; exact ih
set_option maxRecDepth 100000 in
set_option maxHeartbeats 16000000 in
theorem freeM_any (fr : Int) (qs : List Int) (cs : List Con) (l : List Bkg) (n : Nat) (c : Con) (uq uc ub : Value) (w : World) (hq : RRow intC 1 w w.heap.size uq qs) (hc : RRow conC 7 w w.heap.size uc cs) (hl : RRow bkgC 4 w w.heap.size ub l)
    (hn : cs[n]? = some c) (h5 : l.length ≤ 512) :
    Calls Tryz.prog 23 #[.agg #[uq, uc], ub, .int .i64 n, .int .i64 fr] w (SpsRet (outsM c.en (max c.st fr) (busyS l n)) w) := by
  have HL := Lib.hid hl
  obtain ⟨aq, cq, rfl, -⟩ := hq
  obtain ⟨al, cl, rfl, -⟩ := hl
  obtain ⟨ac, cc, rfl, c1, c2, c3, c4⟩ := hc
  unfold maxLen at c2
  have hlc : cs.length ≤ 9223372036854775807 := by omega
  have hlt : n < cs.length := (List.getElem?_eq_some_iff.1 hn).1
  obtain ⟨bb, o, rfl, hbn, hcell⟩ := c4 (by omega)
  have q0 : w.cell? ⟨bb, o + n * 7, none⟩ = some (.int .i64 c.fr) := hcell n c hn 0 _ rfl
  have q1 : w.cell? ⟨bb, o + n * 7 + 1, none⟩ = some (.int .i64 c.tt) := hcell n c hn 1 _ rfl
  have q2 : w.cell? ⟨bb, o + n * 7 + 2, none⟩ = some (.int .i64 c.st) := hcell n c hn 2 _ rfl
  have q3 : w.cell? ⟨bb, o + n * 7 + 3, none⟩ = some (.int .i64 c.en) := hcell n c hn 3 _ rfl
  have q4 : w.cell? ⟨bb, o + n * 7 + 4, none⟩ = some (.int .i64 c.ra) := hcell n c hn 4 _ rfl
  have q5 : w.cell? ⟨bb, o + n * 7 + 5, none⟩ = some (.int .i64 c.rg) := hcell n c hn 5 _ rfl
  have q6 : w.cell? ⟨bb, o + n * 7 + 6, none⟩ = some (.int .i64 c.lo) := hcell n c hn 6 _ rfl
  have n0 : (0 : Int) ≤ (n : Int) := by omega
  have n1 : (n : Int) < (cs.length : Int) := by omega
  obtain ⟨A, hA⟩ : ∃ q, max c.st fr = q := ⟨_, rfl⟩
  have hA' : (if fr ≤ c.st then c.st else fr) = A := by rw [← hA]; omega
  rw [hA]
  obtain ⟨M, hM⟩ : ∃ q, busyS l n = q := ⟨_, rfl⟩
  have HM := Lib.hid hM
  have hml : M.length ≤ 512 := by rw [← hM]; exact Nat.le_trans (busyS_len _ _) h5
  rw [hM]
  obtain ⟨R, hR⟩ : ∃ q, outsM c.en A M = q := ⟨_, rfl⟩
  have HR := Lib.hid hR
  rw [hR]
  have hcall : ∀ args W, (callFunc 56 args).run Tryz.prog W = .ok (.enter 56 args) W := fun _ _ => by kernel_rfl
  clear c3 c4 hcell hM hn hR
  go_enter Tryz.func23, Tryz.ntmps23
  go_upto_region 5 with fail
  obtain ⟨w4, hw4⟩ : ∃ q, (((w.alloc (.cells #[.slice aq qs.length cq, .slice (some ⟨bb, o, none⟩) cs.length cc] 25)).alloc (.cells #[.int .i64 c.fr, .int .i64 c.tt, .int .i64 c.st, .int .i64 c.en, .int .i64 c.ra, .int .i64 c.rg, .int .i64 c.lo] 38)).alloc (.cells #[.slice none 0 0] 45)).alloc (.cells #[.int .i64 A] 3) = q := ⟨_, rfl⟩
  rw [hw4]
  have hB4 : Below w.heap.size w w4 := by rw [← hw4]; exact belowA
  obtain ⟨Z, hZ⟩ : ∃ q, w.heap.size + 1 + 1 = q := ⟨_, rfl⟩
  rw [hZ]
  have G1 : w4.heap[w.heap.size + 1]? = some (.cells #[.int .i64 c.fr, .int .i64 c.tt, .int .i64 c.st, .int .i64 c.en, .int .i64 c.ra, .int .i64 c.rg, .int .i64 c.lo] 38 (0, 0)) := by rw [← hw4]; exact (by repeat (first | exact heap_new' (by first | rfl | (simp; done)) | refine (Below.heap_alloc _ _ _ (by first | (simp; done) | (simp; omega))).trans ?_))
  have G2 : w4.heap[Z]? = some (.cells #[.slice none 0 0] 45 (0, 0)) := by rw [← hZ, ← hw4]; exact (by repeat (first | exact heap_new' (by first | rfl | (simp; done)) | refine (Below.heap_alloc _ _ _ (by first | (simp; done) | (simp; omega))).trans ?_))
  have G3 : w4.heap[Z + 1]? = some (.cells #[.int .i64 A] 3 (0, 0)) := by rw [← hZ, ← hw4]; exact (by repeat (first | exact heap_new' (by first | rfl | (simp; done)) | refine (Below.heap_alloc _ _ _ (by first | (simp; done) | (simp; omega))).trans ?_))
  have hs4 : Z + 1 < w4.heap.size := (Array.getElem?_eq_some_iff.1 G3).1
  have hz0 : w.heap.size + 1 < Z := by omega
  clear hw4 hZ
  go_wp2_with fail
  refine (busy_any l n _ _ (HL.out.below' hB4) h5).mono ?_
  rw [HM.out]
  rintro e w5 hr5
  obtain ⟨u, rfl, hr, hf, hb5⟩ := hr5
  have hB5 : Below w.heap.size w w5 := btrans0 hB4 hb5
  have hs5 : w4.heap.size ≤ w5.heap.size := hb5.size
  have HG1 : Hid (w5.heap[w.heap.size + 1]? = some (.cells #[.int .i64 c.fr, .int .i64 c.tt, .int .i64 c.st, .int .i64 c.en, .int .i64 c.ra, .int .i64 c.rg, .int .i64 c.lo] 38 (0, 0))) := Lib.hid ((hb5.block _ (by omega)).trans G1)
  have HG2 : Hid (Boxed w5 Z 45 (.slice none 0 0)) := Lib.hid ((hb5.block _ (by omega)).trans G2)
  have HG3 : Hid (Boxed w5 (Z + 1) 3 (.int .i64 A)) := Lib.hid ((hb5.block _ (by omega)).trans G3)
  clear G1 G2 G3 hb5
  obtain ⟨a5, c5, rfl, m1, m2, m3, m4⟩ := hr
  unfold maxLen at m2
  have hlm : M.length ≤ 9223372036854775807 := by omega
  have HM4 := Lib.hid m4
  have HF := Lib.hid hf
  clear m3 m4 hf
  go_wp2
  go_loopw [29] (fun i wr => ∃ (k : Nat) (L : List Sp) (a : Int), k ≤ M.length ∧ i = .int .i64 k ∧ Hid (FrS w5.heap.size Z L a wr) ∧ Hid (L ++ outsM c.en a (M.drop k) = R) ∧ L.length ≤ k ∧ Hid (∀ q, q < w5.heap.size → q ≠ Z → q ≠ Z + 1 → wr.heap[q]? = w5.heap[q]?) ∧ Below w.heap.size w wr ∧ w5.heap.size ≤ wr.heap.size) (fun i _ => M.length - (intOf i).toNat)
  case atStart => exact ⟨0, [], A, Nat.zero_le _, rfl, Lib.hid ⟨_, HG2.out, World.ownsRow_nil _ _ _ _, HG3.out⟩, Lib.hid (by rw [List.drop_zero]; exact HR.out), Nat.le_refl _, Lib.hid (fun _ _ _ _ => rfl), hB5, Nat.le_refl _⟩
  case round =>
    obtain ⟨k, L, a, hk, rfl, HFR, HI, hLk, HK, hB, hsr⟩ := hrel
    by_cases hlt : k < M.length
    · obtain ⟨bm, om, rfl, hbm, hcell⟩ := HM4.out (by omega)
      have hbm4 : w4.heap.size ≤ bm := HF.out ⟨bm, om, none⟩ _ _ rfl
      obtain ⟨x, hx⟩ : ∃ x, M[k]? = some x := ⟨_, List.getElem?_eq_getElem hlt⟩
      have kc : ∀ p, wr.cell? ⟨bm, p, none⟩ = w5.cell? ⟨bm, p, none⟩ := fun p => World.cell?_of_block (HK.out bm hbm (by omega) (by omega))
      have q0 : wr.cell? ⟨bm, om + k * 2, none⟩ = some (.int .i64 x.1) := (kc _).trans (sp0 hcell hx)
      have q1 : wr.cell? ⟨bm, om + k * 2 + 1, none⟩ = some (.int .i64 x.2) := (kc _).trans (sp1 hcell hx)
      have k0 : (0 : Int) ≤ (k : Int) := by omega
      have k1 : (k : Int) < (M.length : Int) := by omega
      have hdr : M.drop k = x :: M.drop (k + 1) := by
        rw [List.drop_eq_getElem_cons hlt]
        rw [List.getElem?_eq_getElem hlt] at hx
        rw [Option.some.inj hx]
      have HX := Lib.hid hx
      have i1 := HI.out
      rw [hdr] at i1
      obtain ⟨A2, hA2⟩ : ∃ q, max a x.2 = q := ⟨_, rfl⟩
      have hA2' : (if x.2 ≤ a then a else x.2) = A2 := by rw [← hA2]; omega
      have HI2 : Hid ((if a < x.1 then L ++ [(a, x.1)] else L) ++ outsM c.en A2 (M.drop (k + 1)) = R) := Lib.hid (by
        rw [← i1, ← hA2]
        show _ = L ++ (if a < x.1 then (a, x.1) :: outsM c.en (max a x.2) (M.drop (k + 1)) else outsM c.en (max a x.2) (M.drop (k + 1)))
        split <;> simp)
      have hL2 : (if a < x.1 then L ++ [(a, x.1)] else L).length ≤ k + 1 := by split <;> (try simp) <;> omega
      clear hcell hx i1 hdr kc
      go_upto_region 8 with fail
      obtain ⟨w6, hw6⟩ : ∃ q, wr.alloc (.cells #[.int .i64 x.1, .int .i64 x.2] 50) = q := ⟨_, rfl⟩
      rw [hw6]
      have hB6 : Below w.heap.size w w6 := by rw [← hw6]; exact balloc0 hB
      have hK6 : ∀ q, q < wr.heap.size → w6.heap[q]? = wr.heap[q]? := by rw [← hw6]; exact fun q hq => Below.heap_alloc _ _ _ hq
      have GX : w6.heap[wr.heap.size]? = some (.cells #[.int .i64 x.1, .int .i64 x.2] 50 (0, 0)) := by rw [← hw6]; exact heap_new
      have hs6 : wr.heap.size < w6.heap.size := by rw [← hw6]; simp
      clear hw6 q0 q1
      have HFR6 : Hid (FrS w5.heap.size Z L a w6) := Lib.hid (HFR.out.keep (by omega) hsr hK6)
      have hown : ∀ vo, Boxed w6 Z 45 vo → vo.ownBlock ≠ some wr.heap.size := by
        intro vo hvo
        obtain ⟨v1, b1, o1, _⟩ := HFR.out
        have b2 : Boxed w6 Z 45 v1 := (hK6 Z (by omega)).trans b1
        have : vo = v1 := by
          have := hvo.symm.trans b2
          simpa using this
        subst this
        intro e
        have := (o1.lt _ e).2
        omega
      have cx := fun p => cellB GX p
      go_wp2_with fail
      refine (fadd_any w5.heap.size Z L a x.1 _ (by omega) (by omega) HFR6.out (by omega)).mono ?_
      rintro e w7 ⟨rfl, hf7, hk7, hb7⟩
      obtain ⟨L2, hL⟩ : ∃ q, (if a < x.1 then L ++ [(a, x.1)] else L) = q := ⟨_, rfl⟩
      rw [hL] at hf7 HI2 hL2
      clear hL
      have GX7 : w7.heap[wr.heap.size]? = some (.cells #[.int .i64 x.1, .int .i64 x.2] 50 (0, 0)) := (hk7.2 _ hs6 (by omega) hown).trans GX
      have HK7 : Hid (∀ q, q < w5.heap.size → q ≠ Z → q ≠ Z + 1 → w7.heap[q]? = w5.heap[q]?) := Lib.hid (fun q h1 h2 h3 => (hk7.2 q (by omega) h2 (fun vo hvo e => by
        obtain ⟨v1, b1, o1, _⟩ := HFR6.out
        have : vo = v1 := by
          have := hvo.symm.trans b1
          simpa using this
        subst this
        have := (o1.lt _ e).1
        omega)).trans ((hK6 q (by omega)).trans (HK.out q h1 h2 h3)))
      have hB7 : Below w.heap.size w w7 := hB6.trans (hb7.mono (by omega))
      have hs7 : w6.heap.size ≤ w7.heap.size := hk7.1
      obtain ⟨v7, b7, o7, a7⟩ := hf7
      have HO7 := Lib.hid (And.intro b7 (And.intro o7 a7))
      have ca7 := a7.cell
      have fa7 := a7.frozen
      have za7 := a7.lt
      have zx7 : wr.heap.size < w7.heap.size := by omega
      have cx7 := fun p => cellB GX7 p
      clear cx GX GX7 hk7 hb7 b7 o7 a7 hown hK6
      go_wp2
      go_roundw
      case rel =>
        obtain ⟨b7, o7, a7⟩ := HO7.out
        have hne : ∀ q, q ≠ Z + 1 → (w7.setCell ⟨Z + 1, 0, none⟩ (.int .i64 A2)).heap[q]? = w7.heap[q]? := fun q h => heap_setCell_other w7 ⟨Z + 1, 0, none⟩ q _ h
        refine ⟨k + 1, L2, A2, by omega, by go_num, Lib.hid ⟨v7, (hne _ (by omega)).trans b7, own_kept1 o7 (fun q hq => hne q (fun e => by have := (o7.lt _ hq).1; omega)), a7.set _⟩, HI2, hL2, Lib.hid (fun q h1 h2 h3 => (hne q h3).trans (HK7.out q h1 h2 h3)), bset hB7 (by show w.heap.size ≤ Z + 1; omega), by simp; omega⟩
      case measure => simp [intOf]; omega
    · obtain rfl : k = M.length := by omega
      have HI2 : Hid ((if a < c.en then L ++ [(a, c.en)] else L) = R) := Lib.hid (by
        have := HI.out
        rw [List.drop_length] at this
        rw [← this]
        show _ = L ++ (if a < c.en then [(a, c.en)] else [])
        split <;> simp)
      have GC := cellB ((HK.out (w.heap.size + 1) (by omega) (by omega) (by omega)).trans HG1.out)
      have hzc : w.heap.size + 1 < wr.heap.size := by omega
      go_wp2_with fail
      refine (fadd_any w5.heap.size Z L a c.en _ (by omega) (by omega) HFR.out (by omega)).mono ?_
      rintro e w7 ⟨rfl, hf7, hk7, hb7⟩
      rw [HI2.out] at hf7
      have hB7 : Below w.heap.size w w7 := hB.trans (hb7.mono (by omega))
      obtain ⟨v7, b7, o7, a7⟩ := hf7
      have HO7 := Lib.hid o7
      have cb7 := b7.cell
      have zb7 := b7.lt
      obtain ⟨va, vc, rfl⟩ := own_shape o7
      clear GC hk7 hb7 b7 o7 a7
      go_wp2
      go_ret
      exact ⟨_, rfl, RSps.of_own HO7.out, (own_from HO7.out).le (by omega), hB7⟩
set_option maxRecDepth 100000 in
set_option maxHeartbeats 8000000 in
theorem Fit_any (qs : List Int) (cs : List Con) (l : List Bkg) (n : Nat) (c : Con) (rd : Int) (s : Nat) (uq uc ub : Value) (w : World) (hq : RRow intC 1 w w.heap.size uq qs) (hc : RRow conC 7 w w.heap.size uc cs) (hl : RRow bkgC 4 w w.heap.size ub l)
    (hp : PlanOK qs cs) (hb : BkOK cs l) (hn : cs[n]? = some c) (hdj : DJ c.st (busyS l n)) (hbd : ∀ x ∈ busyS l n, 0 ≤ x.1 ∧ x.1 < x.2 ∧ x.2 ≤ 1099511627776) (s1 : 1 ≤ s) (hs : s ≤ 65536) :
    Calls Tryz.prog 8 #[.agg #[uq, uc], ub, .int .i64 (n : Int), .int .i64 rd, .int .i64 (s : Int)] w fun e w' => e = .returned (.tuple #[.int .i64 ((hopG (outs c.en c.st (busyS l n)) (durS c s) rd).getD 0), .int .i64 (if (hopG (outs c.en c.st (busyS l n)) (durS c s) rd).isSome then 0 else 16)]) ∧ Below w.heap.size w w' := by
  have HQ := Lib.hid hq
  have HC := Lib.hid hc
  have HL := Lib.hid hl
  have HP := Lib.hid hp
  have HB := Lib.hid hb
  have HN := Lib.hid hn
  have hcc : chkCon c = 0 := (hp.2.2 n c hn).1
  have HCC := Lib.hid hcc
  have hf := con_facts hcc
  have f0 := hf.st0
  have f1 := hf.en1
  have f2 := hf.rg0
  have hdb := durS_bnd hf (by omega : 0 < s) hs
  have h512 := hb.1
  have hlt : n < cs.length := (List.getElem?_eq_some_iff.1 hn).1
  rw [fit_first c.en (durS c s) rd hdb.1 _ _ hdj]
  obtain ⟨R, hR⟩ : ∃ q, outsM c.en (max c.st rd) (busyS l n) = q := ⟨_, rfl⟩
  have HBD : Hid (∀ x ∈ R, 0 ≤ x.1 ∧ x.1 < x.2 ∧ x.2 ≤ 1099511627776) := Lib.hid (by
    rw [← hR]
    exact outsM_bnd _ _ _ (by omega) (fun x hx => by have := hbd x hx; omega) (by omega))
  have hrl : R.length ≤ 1000 := by
    rw [← hR]
    have h1 := outsM_len c.en (busyS l n) (max c.st rd)
    have h2 := busyS_len l n
    omega
  rw [hR]
  have HR := Lib.hid hR
  obtain ⟨Dn, hD⟩ : ∃ q, durS c s = q := ⟨_, rfl⟩
  rw [hD] at hdb ⊢
  have HD := Lib.hid hD
  obtain ⟨R1, hR1⟩ : ∃ q, (fitG Dn R).getD 0 = q := ⟨_, rfl⟩
  obtain ⟨R2, hR2⟩ : ∃ q : Int, (if (fitG Dn R).isSome then 0 else 16) = q := ⟨_, rfl⟩
  rw [hR1, hR2]
  have HR1 := Lib.hid hR1
  have HR2 := Lib.hid hR2
  obtain ⟨aq, cq, rfl, -⟩ := hq
  obtain ⟨ac, cc, rfl, c1, c2, c3, c4⟩ := hc
  unfold maxLen at c2
  have hlc : cs.length ≤ 9223372036854775807 := by omega
  obtain ⟨bb, o, rfl, hbn, hcell⟩ := c4 (by omega)
  obtain ⟨al, cl, rfl, -⟩ := hl
  have HCL := Lib.hid hcell
  have n0 : (0 : Int) ≤ (n : Int) := by omega
  have n1 : (n : Int) < (cs.length : Int) := by omega
  clear hp hb hn hdj hbd hcell hcc hf c3 c4 hR hR1 hR2 hD
  go_enter Tryz.func8, Tryz.ntmps8
  go_wp2_with fail
  refine (bcheck_any qs cs l n _ _ _ _ (HQ.out.below' belowA) (HC.out.below' belowA) (HL.out.below' belowA) HP.out HB.out hlt).mono ?_
  rintro e w1 ⟨rfl, hb1⟩
  have hB1 : Below w.heap.size w w1 := btrans0 (balloc0 (Below.refl _ _)) hb1
  have GP : w1.heap[w.heap.size]? = some (.cells #[.slice aq qs.length cq, .slice (some ⟨bb, o, none⟩) cs.length cc] 25 (0, 0)) := (hb1.block _ (by simp)).trans heap_new
  have HGP := Lib.hid GP
  have hz1 : w.heap.size < w1.heap.size := (Array.getElem?_eq_some_iff.1 GP).1
  have cp := fun q => cellB GP q
  have p0 : w1.cell? ⟨bb, o + n * 7, none⟩ = some (.int .i64 c.fr) := (hB1.cell (p := ⟨bb, o + n * 7, none⟩) hbn).trans (HCL.out n c HN.out 0 _ rfl)
  have p1 : w1.cell? ⟨bb, o + n * 7 + 1, none⟩ = some (.int .i64 c.tt) := (hB1.cell (p := ⟨bb, o + n * 7 + 1, none⟩) hbn).trans (HCL.out n c HN.out 1 _ rfl)
  have p2 : w1.cell? ⟨bb, o + n * 7 + 2, none⟩ = some (.int .i64 c.st) := (hB1.cell (p := ⟨bb, o + n * 7 + 2, none⟩) hbn).trans (HCL.out n c HN.out 2 _ rfl)
  have p3 : w1.cell? ⟨bb, o + n * 7 + 3, none⟩ = some (.int .i64 c.en) := (hB1.cell (p := ⟨bb, o + n * 7 + 3, none⟩) hbn).trans (HCL.out n c HN.out 3 _ rfl)
  have p4 : w1.cell? ⟨bb, o + n * 7 + 4, none⟩ = some (.int .i64 c.ra) := (hB1.cell (p := ⟨bb, o + n * 7 + 4, none⟩) hbn).trans (HCL.out n c HN.out 4 _ rfl)
  have p5 : w1.cell? ⟨bb, o + n * 7 + 5, none⟩ = some (.int .i64 c.rg) := (hB1.cell (p := ⟨bb, o + n * 7 + 5, none⟩) hbn).trans (HCL.out n c HN.out 5 _ rfl)
  have p6 : w1.cell? ⟨bb, o + n * 7 + 6, none⟩ = some (.int .i64 c.lo) := (hB1.cell (p := ⟨bb, o + n * 7 + 6, none⟩) hbn).trans (HCL.out n c HN.out 6 _ rfl)
  have hbn1 : bb < w1.heap.size := by omega
  have HB1 := Lib.hid hB1
  clear hb1 GP hB1
  go_wp2_with fail
  refine (Dur_ok c s _ HCC.out s1 hs).mono ?_
  rw [HD.out]
  rintro e w2 ⟨rfl, hb2⟩
  have HB2 := Lib.hid (btrans0 HB1.out hb2)
  have X2 := (hb2.block _ hz1).trans HGP.out
  have cp2 := fun q => cellB X2 q
  have hz2 : w.heap.size < w2.heap.size := (Array.getElem?_eq_some_iff.1 X2).1
  clear hb2 X2 cp p0 p1 p2 p3 p4 p5 p6
  go_wp2_with fail
  refine (freeM_any rd qs cs l n c _ _ _ _ (HQ.out.below' HB2.out) (HC.out.below' HB2.out) (HL.out.below' HB2.out) HN.out h512).mono ?_
  unfold SpsRet
  rw [HR.out]
  rintro e w3 ⟨u, rfl, hru, -, hb3⟩
  have HB3 := Lib.hid (btrans0 HB2.out hb3)
  obtain ⟨a3, c3, rfl, m1, m2, -, m4⟩ := hru
  unfold maxLen at m2
  have HM4 := Lib.hid m4
  clear m4 hb3 cp2
  go_wp2_with fail
  go_loopw [42] (fun kv wr => ∃ k : Nat, k ≤ R.length ∧ kv = .int .i64 (k : Int) ∧ Hid (fitG Dn R = fitG Dn (R.drop k)) ∧ Hid (Below w3.heap.size w3 wr)) (fun kv _ => R.length - (intOf kv).toNat)
  case atStart => exact ⟨0, Nat.zero_le _, rfl, Lib.hid rfl, Lib.hid (Below.refl _ _)⟩
  case round =>
    obtain ⟨k, hk, rfl, HE, HBr⟩ := hrel
    have HBw : Hid (Below w.heap.size w wr) := Lib.hid (btrans0 HB3.out HBr.out)
    have zr := HBw.out.size
    by_cases hlt : k < R.length
    · obtain ⟨x, hx⟩ : ∃ x, R[k]? = some x := ⟨_, List.getElem?_eq_getElem hlt⟩
      obtain ⟨lb, ol, rfl, hlb, hlc⟩ := HM4.out (by omega)
      have q0 : wr.cell? ⟨lb, ol + k * 2, none⟩ = some (.int .i64 x.1) := (HBr.out.cell (p := ⟨lb, ol + k * 2, none⟩) hlb).trans (sp0 hlc hx)
      have q1 : wr.cell? ⟨lb, ol + k * 2 + 1, none⟩ = some (.int .i64 x.2) := (HBr.out.cell (p := ⟨lb, ol + k * 2 + 1, none⟩) hlb).trans (sp1 hlc hx)
      have hxo := HBD.out x (List.mem_of_getElem? hx)
      have HDR : Hid (fitG Dn (R.drop k) = if x.2 - x.1 ≥ Dn then some x.1 else fitG Dn (R.drop (k + 1))) := Lib.hid (by
        rw [List.drop_eq_getElem_cons hlt]
        have : R[k] = x := (List.getElem?_eq_some_iff.1 hx).2
        rw [this]; rfl)
      have k0 : (0 : Int) ≤ (k : Int) := by omega
      have k1 : (k : Int) < (R.length : Int) := by omega
      have w1_ : IntKind.i64.wrap (x.2 - x.1) = x.2 - x.1 := by rw [IntKind.wrap_i64]; omega
      clear hx hlc hxo
      by_cases zz : x.2 - x.1 ≥ Dn
      · have dz : decide (x.2 - x.1 ≥ Dn) = true := decide_eq_true zz
        have HRS : Hid (fitG Dn R = some x.1) := Lib.hid (by rw [HE.out, HDR.out, if_pos zz])
        clear zz
        go_wp2
        refine bodyPost_ret (results_tmp2 rfl _ _ _) rfl ?_
        have e1 := HR1.out
        have e2 := HR2.out
        rw [HRS.out] at e1 e2
        rw [← e1, ← e2]
        exact ⟨rfl, HBw.out.alloc zr _⟩
      · have dz : decide (x.2 - x.1 ≥ Dn) = false := decide_eq_false zz
        have HRS : Hid (fitG Dn R = fitG Dn (R.drop (k + 1))) := Lib.hid (by rw [HE.out, HDR.out, if_neg zz])
        clear zz
        have zr3 := HBr.out.size
        go_wp2
        go_roundw
        case rel => exact ⟨k + 1, by omega, by go_num, HRS, Lib.hid (HBr.out.alloc zr3 _)⟩
        case measure => simp [intOf]; omega
    · obtain rfl : k = R.length := by omega
      have HRS : Hid (fitG Dn R = none) := Lib.hid (by rw [HE.out, List.drop_length]; rfl)
      go_wp2
      refine bodyPost_ret (results_tmp2 rfl _ _ _) rfl ?_
      have e1 := HR1.out
      have e2 := HR2.out
      rw [HRS.out] at e1 e2
      rw [← e1, ← e2]
      exact ⟨rfl, HBw.out⟩
end Go.Proofs.YtkokiahmgmeokaaGreat
