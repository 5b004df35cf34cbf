/- Bookings: free, Free. -/
import Derived.BigQuiet
import Derived.BigRegion
import Derived.Deep.DeepCutAuto
import Derived.Deep.CutBlock
import Derived.OwnWalkIn
import Derived.Lib.MinMax
import Derived.Test.YtkokiahmgmeokaaGreatYh
import Derived.Test.YtkokiahmgmeokaaGreatSiz
import Derived.Test.YtkokiahmgmeokaaGreatSaz
set_option linter.unusedVariables false
set_option linter.unusedSimpArgs false
namespace Go.Proofs.YtkokiahmgmeokaaGreat
open Go Go.RowKit Iv
attribute [local go_sem] Oper.semAt_some
attribute [local go_sem] B_getElem B_size B_app B_extract B_get B_toList

/-- what free keeps: the list out (box Z), from when on (box Z + 1); the list's own row lies from B on -/
def FrS (B Z : Nat) (L : List Sp) (a : Int) (W : World) : Prop := ∃ vo, Boxed W Z 45 vo ∧ W.ownsRow B 50 2 vo L.length (sps L) ∧ Boxed W (Z + 1) 3 (.int .i64 a)
def KpF (Z : Nat) (W W' : World) : Prop := W.heap.size ≤ W'.heap.size ∧ ∀ q, q < W.heap.size → q ≠ Z → (∀ vo, Boxed W Z 45 vo → vo.ownBlock ≠ some q) → W'.heap[q]? = W.heap[q]?
theorem KpF.refl (Z : Nat) (W : World) : KpF Z W W := ⟨Nat.le_refl _, fun _ _ _ _ => rfl⟩
theorem FrS.keep {B Z : Nat} {L : List Sp} {a : Int} {W W' : World} (h : FrS B Z L a W) (hZ : Z + 1 < B) (hB : B ≤ W.heap.size) (k : ∀ q, q < W.heap.size → W'.heap[q]? = W.heap[q]?) : FrS B Z L a W' := by
  obtain ⟨vo, b, o, ba⟩ := h
  exact ⟨vo, (k _ (by omega)).trans b, own_kept1 o (fun q hq => k q (o.lt q hq).2), (k _ (by omega)).trans ba⟩
set_option maxRecDepth 100000 in
set_option maxHeartbeats 4000000 in
theorem fadd_any (B Z : Nat) (L : List Sp) (a t : Int) (W : World) (hZ : Z + 1 < B) (hB : B ≤ W.heap.size) (h : FrS B Z L a W) (hl : L.length ≤ 1000) :
    Calls Tryz.prog 56 #[.int .i64 t, .pointer (some ⟨Z + 1, 0, none⟩), .pointer (some ⟨Z, 0, none⟩)] W fun e W' => e = .returned (.tuple #[]) ∧ FrS B Z (if a < t then L ++ [(a, t)] else L) a W' ∧ KpF Z W W' ∧ Below Z W W' := by
  obtain ⟨vo, bo, ow, ba⟩ := h
  obtain ⟨va, vc, rfl⟩ := own_shape ow
  obtain ⟨i0, hin, hz0, hz1, hz2⟩ := info_parts infoSpan
  have HBO := Lib.hid bo
  have HOW := Lib.hid ow
  have HBA := Lib.hid ba
  have ca := ba.cell
  have co := bo.cell
  have fo := bo.frozen
  have zo := bo.lt
  have za := ba.lt
  clear bo ow ba
  by_cases z : a < t
  · have d1 : decide (a < t) = true := decide_eq_true z
    rw [if_pos z]
    clear z
    go_enter Tryz.func56, Tryz.ntmps56
    go_wp2_with (at_builtin; refine wpList_append_F _ rfl _ _ _ rfl B 50 i0 _ 2 16 Tryz.underlying45 hin hz0 hz1 hz2 rfl (by omega) (.slice va L.length vc) L.length (sps L) rfl (own_kept1 HOW.out (fun q hq => Below.heap_alloc _ _ _ (HOW.out.lt q hq).2)) ⟨W.heap.size, 0, none⟩ 1 1 (spC (a, t)) rfl rfl (news_one heap_new) (by simp [spC, Value.oneCell']) (by simp only [maxLen]; omega) (by omega) (by simp; omega) (by omega) ?_; intro vo w9 ho9 hg9 hf9; obtain ⟨av, cv, rfl⟩ := own_shape ho9; have hz9 : Z < w9.heap.size := (by have := hg9.size; simp at this; omega); have HB9 : Hid (Boxed w9 Z 45 (.slice va L.length vc)) := Lib.hid ((grown_keep hg9 (by simp; omega) (fun e => by have := (HOW.out.lt _ e).1; omega)).trans ((Below.heap_alloc _ _ _ (by omega)).trans HBO.out)); have c9 := HB9.out.cell; have f9 := HB9.out.frozen)
    go_end0
    have hal : Below W.heap.size W (W.alloc (.cells (spC (a, t)).toArray 50)) := balloc0 (Below.refl _ _)
    have hne : ∀ q, q ≠ Z → (w9.setCell ⟨Z, 0, none⟩ (.slice av (L.length + 1) cv)).heap[q]? = w9.heap[q]? := fun q h => heap_setCell_other w9 ⟨Z, 0, none⟩ q _ h
    have hkeep : ∀ q, q < W.heap.size → (Value.slice va L.length vc).ownBlock ≠ some q → w9.heap[q]? = W.heap[q]? := fun q hq hn => (grown_keep hg9 (by simp; omega) hn).trans (hal.block q hq)
    refine ⟨rfl, ⟨_, HB9.out.set _, ?_, (hne _ (by omega)).trans ((hkeep _ (by omega) (fun e => by have := (HOW.out.lt _ e).1; omega)).trans HBA.out)⟩, ⟨?_, fun q hq hqz hqv => (hne q hqz).trans (hkeep q hq (hqv _ HBO.out))⟩, ?_⟩
    · rw [List.length_append, sps_append]
      refine own_kept1 (w := w9) (by simpa [sps] using ho9) fun q hq => hne q (fun e => ?_)
      subst e
      have := (ho9.lt _ hq).1
      omega
    · have := hg9.size
      simp at this ⊢
      omega
    · exact bset (Below.grown (hal.mono (by omega)) hg9 (by simp; omega) (fun q hq => by have := (HOW.out.lt q hq).1; omega)) (Nat.le_refl _)
  · have d1 : decide (a < t) = false := decide_eq_false z
    rw [if_neg z]
    clear z
    go_enter Tryz.func56, Tryz.ntmps56
    go_wp2
    go_end0
    exact ⟨rfl, ⟨_, HBO.out, HOW.out, HBA.out⟩, KpF.refl _ _, Below.refl _ _⟩
set_option maxRecDepth 100000 in
set_option maxHeartbeats 16000000 in
theorem free_any (qs : List Int) (cs : List Con) (l : List Bkg) (n : Nat) (c : Con) (uq uc ub : Value) (w : World) (hq : RRow intC 1 w w.heap.size uq qs) (hc : RRow conC 7 w w.heap.size uc cs) (hl : RRow bkgC 4 w w.heap.size ub l)
    (hn : cs[n]? = some c) (h5 : l.length ≤ 512) (hdj : DJ c.st (busyS l n)) :
    Calls Tryz.prog 23 #[.agg #[uq, uc], ub, .int .i64 n, .int .i64 c.st] w (SpsRet (outs c.en c.st (busyS l n)) w) := by
  have HL := Lib.hid hl
  obtain ⟨aq, cq, rfl, -⟩ := hq
  obtain ⟨al, cl, rfl, -⟩ := hl
  obtain ⟨ac, cc, rfl, c1, c2, c3, c4⟩ := hc
  unfold maxLen at c2
  have hlc : cs.length ≤ 9223372036854775807 := by omega
  have hlt : n < cs.length := (List.getElem?_eq_some_iff.1 hn).1
  obtain ⟨bb, o, rfl, hbn, hcell⟩ := c4 (by omega)
  have q0 : w.cell? ⟨bb, o + n * 7, none⟩ = some (.int .i64 c.fr) := hcell n c hn 0 _ rfl
  have q1 : w.cell? ⟨bb, o + n * 7 + 1, none⟩ = some (.int .i64 c.tt) := hcell n c hn 1 _ rfl
  have q2 : w.cell? ⟨bb, o + n * 7 + 2, none⟩ = some (.int .i64 c.st) := hcell n c hn 2 _ rfl
  have q3 : w.cell? ⟨bb, o + n * 7 + 3, none⟩ = some (.int .i64 c.en) := hcell n c hn 3 _ rfl
  have q4 : w.cell? ⟨bb, o + n * 7 + 4, none⟩ = some (.int .i64 c.ra) := hcell n c hn 4 _ rfl
  have q5 : w.cell? ⟨bb, o + n * 7 + 5, none⟩ = some (.int .i64 c.rg) := hcell n c hn 5 _ rfl
  have q6 : w.cell? ⟨bb, o + n * 7 + 6, none⟩ = some (.int .i64 c.lo) := hcell n c hn 6 _ rfl
  have n0 : (0 : Int) ≤ (n : Int) := by omega
  have n1 : (n : Int) < (cs.length : Int) := by omega
  have hmx : max c.st c.st = c.st := by omega
  obtain ⟨M, hM⟩ : ∃ q, busyS l n = q := ⟨_, rfl⟩
  have HM := Lib.hid hM
  have hml : M.length ≤ 512 := by rw [← hM]; exact Nat.le_trans (busyS_len _ _) h5
  rw [hM] at hdj
  have HDJ := Lib.hid hdj
  rw [hM]
  obtain ⟨R, hR⟩ : ∃ q, outs c.en c.st M = q := ⟨_, rfl⟩
  have HR := Lib.hid hR
  rw [hR]
  have hcall : ∀ args W, (callFunc 56 args).run Tryz.prog W = .ok (.enter 56 args) W := fun _ _ => by kernel_rfl
  clear c3 c4 hcell hdj hM hn hR
  go_enter Tryz.func23, Tryz.ntmps23
  go_upto_region 5 with fail
  obtain ⟨w4, hw4⟩ : ∃ q, (((w.alloc (.cells #[.slice aq qs.length cq, .slice (some ⟨bb, o, none⟩) cs.length cc] 25)).alloc (.cells #[.int .i64 c.fr, .int .i64 c.tt, .int .i64 c.st, .int .i64 c.en, .int .i64 c.ra, .int .i64 c.rg, .int .i64 c.lo] 38)).alloc (.cells #[.slice none 0 0] 45)).alloc (.cells #[.int .i64 c.st] 3) = q := ⟨_, rfl⟩
  rw [hw4]
  have hB4 : Below w.heap.size w w4 := by rw [← hw4]; exact belowA
  obtain ⟨Z, hZ⟩ : ∃ q, w.heap.size + 1 + 1 = q := ⟨_, rfl⟩
  rw [hZ]
  have G1 : w4.heap[w.heap.size + 1]? = some (.cells #[.int .i64 c.fr, .int .i64 c.tt, .int .i64 c.st, .int .i64 c.en, .int .i64 c.ra, .int .i64 c.rg, .int .i64 c.lo] 38 (0, 0)) := by rw [← hw4]; exact (by repeat (first | exact heap_new' (by first | rfl | (simp; done)) | refine (Below.heap_alloc _ _ _ (by first | (simp; done) | (simp; omega))).trans ?_))
  have G2 : w4.heap[Z]? = some (.cells #[.slice none 0 0] 45 (0, 0)) := by rw [← hZ, ← hw4]; exact (by repeat (first | exact heap_new' (by first | rfl | (simp; done)) | refine (Below.heap_alloc _ _ _ (by first | (simp; done) | (simp; omega))).trans ?_))
  have G3 : w4.heap[Z + 1]? = some (.cells #[.int .i64 c.st] 3 (0, 0)) := by rw [← hZ, ← hw4]; exact (by repeat (first | exact heap_new' (by first | rfl | (simp; done)) | refine (Below.heap_alloc _ _ _ (by first | (simp; done) | (simp; omega))).trans ?_))
  have hs4 : Z + 1 < w4.heap.size := (Array.getElem?_eq_some_iff.1 G3).1
  have hz0 : w.heap.size + 1 < Z := by omega
  clear hw4 hZ
  go_wp2_with fail
  refine (busy_any l n _ _ (HL.out.below' hB4) h5).mono ?_
  rw [HM.out]
  rintro e w5 hr5
  obtain ⟨u, rfl, hr, hf, hb5⟩ := hr5
  have hB5 : Below w.heap.size w w5 := btrans0 hB4 hb5
  have hs5 : w4.heap.size ≤ w5.heap.size := hb5.size
  have HG1 : Hid (w5.heap[w.heap.size + 1]? = some (.cells #[.int .i64 c.fr, .int .i64 c.tt, .int .i64 c.st, .int .i64 c.en, .int .i64 c.ra, .int .i64 c.rg, .int .i64 c.lo] 38 (0, 0))) := Lib.hid ((hb5.block _ (by omega)).trans G1)
  have HG2 : Hid (Boxed w5 Z 45 (.slice none 0 0)) := Lib.hid ((hb5.block _ (by omega)).trans G2)
  have HG3 : Hid (Boxed w5 (Z + 1) 3 (.int .i64 c.st)) := Lib.hid ((hb5.block _ (by omega)).trans G3)
  clear G1 G2 G3 hb5
  obtain ⟨a5, c5, rfl, m1, m2, m3, m4⟩ := hr
  unfold maxLen at m2
  have hlm : M.length ≤ 9223372036854775807 := by omega
  have HM4 := Lib.hid m4
  have HF := Lib.hid hf
  clear m3 m4 hf
  go_wp2
  go_loopw [29] (fun i wr => ∃ (k : Nat) (L : List Sp) (a : Int), k ≤ M.length ∧ i = .int .i64 k ∧ Hid (FrS w5.heap.size Z L a wr) ∧ Hid (L ++ outs c.en a (M.drop k) = R ∧ DJ a (M.drop k)) ∧ L.length ≤ k ∧ Hid (∀ q, q < w5.heap.size → q ≠ Z → q ≠ Z + 1 → wr.heap[q]? = w5.heap[q]?) ∧ Below w.heap.size w wr ∧ w5.heap.size ≤ wr.heap.size) (fun i _ => M.length - (intOf i).toNat)
  case atStart => exact ⟨0, [], c.st, Nat.zero_le _, rfl, Lib.hid ⟨_, HG2.out, World.ownsRow_nil _ _ _ _, HG3.out⟩, Lib.hid ⟨by rw [List.drop_zero]; exact HR.out, by rw [List.drop_zero]; exact HDJ.out⟩, Nat.le_refl _, Lib.hid (fun _ _ _ _ => rfl), hB5, Nat.le_refl _⟩
  case round =>
    obtain ⟨k, L, a, hk, rfl, HFR, HI, hLk, HK, hB, hsr⟩ := hrel
    by_cases hlt : k < M.length
    · obtain ⟨bm, om, rfl, hbm, hcell⟩ := HM4.out (by omega)
      have hbm4 : w4.heap.size ≤ bm := HF.out ⟨bm, om, none⟩ _ _ rfl
      obtain ⟨x, hx⟩ : ∃ x, M[k]? = some x := ⟨_, List.getElem?_eq_getElem hlt⟩
      have kc : ∀ p, wr.cell? ⟨bm, p, none⟩ = w5.cell? ⟨bm, p, none⟩ := fun p => World.cell?_of_block (HK.out bm hbm (by omega) (by omega))
      have q0 : wr.cell? ⟨bm, om + k * 2, none⟩ = some (.int .i64 x.1) := (kc _).trans (sp0 hcell hx)
      have q1 : wr.cell? ⟨bm, om + k * 2 + 1, none⟩ = some (.int .i64 x.2) := (kc _).trans (sp1 hcell hx)
      have k0 : (0 : Int) ≤ (k : Int) := by omega
      have k1 : (k : Int) < (M.length : Int) := by omega
      have hdr : M.drop k = x :: M.drop (k + 1) := by
        rw [List.drop_eq_getElem_cons hlt]
        rw [List.getElem?_eq_getElem hlt] at hx
        rw [Option.some.inj hx]
      have HX := Lib.hid hx
      obtain ⟨i1, i2⟩ := HI.out
      rw [hdr] at i1 i2
      obtain ⟨e1, e2, e3⟩ := i2
      have hmx2 : max a x.2 = x.2 := by omega
      have HI2 : Hid ((if a < x.1 then L ++ [(a, x.1)] else L) ++ outs c.en x.2 (M.drop (k + 1)) = R ∧ DJ x.2 (M.drop (k + 1))) := Lib.hid ⟨by
        rw [← i1]
        show _ = L ++ (if a < x.1 then (a, x.1) :: outs c.en x.2 (M.drop (k + 1)) else outs c.en x.2 (M.drop (k + 1)))
        split <;> simp, e3⟩
      have hL2 : (if a < x.1 then L ++ [(a, x.1)] else L).length ≤ k + 1 := by split <;> (try simp) <;> omega
      clear hcell hx i1 e1 e2 e3 hdr kc
      go_upto_region 8 with fail
      obtain ⟨w6, hw6⟩ : ∃ q, wr.alloc (.cells #[.int .i64 x.1, .int .i64 x.2] 50) = q := ⟨_, rfl⟩
      rw [hw6]
      have hB6 : Below w.heap.size w w6 := by rw [← hw6]; exact balloc0 hB
      have hK6 : ∀ q, q < wr.heap.size → w6.heap[q]? = wr.heap[q]? := by rw [← hw6]; exact fun q hq => Below.heap_alloc _ _ _ hq
      have GX : w6.heap[wr.heap.size]? = some (.cells #[.int .i64 x.1, .int .i64 x.2] 50 (0, 0)) := by rw [← hw6]; exact heap_new
      have hs6 : wr.heap.size < w6.heap.size := by rw [← hw6]; simp
      clear hw6 q0 q1
      have HFR6 : Hid (FrS w5.heap.size Z L a w6) := Lib.hid (HFR.out.keep (by omega) hsr hK6)
      have hown : ∀ vo, Boxed w6 Z 45 vo → vo.ownBlock ≠ some wr.heap.size := by
        intro vo hvo
        obtain ⟨v1, b1, o1, _⟩ := HFR.out
        have b2 : Boxed w6 Z 45 v1 := (hK6 Z (by omega)).trans b1
        have : vo = v1 := by
          have := hvo.symm.trans b2
          simpa using this
        subst this
        intro e
        have := (o1.lt _ e).2
        omega
      have cx := fun p => cellB GX p
      go_wp2_with fail
      refine (fadd_any w5.heap.size Z L a x.1 _ (by omega) (by omega) HFR6.out (by omega)).mono ?_
      rintro e w7 ⟨rfl, hf7, hk7, hb7⟩
      obtain ⟨L2, hL⟩ : ∃ q, (if a < x.1 then L ++ [(a, x.1)] else L) = q := ⟨_, rfl⟩
      rw [hL] at hf7 HI2 hL2
      clear hL
      have GX7 : w7.heap[wr.heap.size]? = some (.cells #[.int .i64 x.1, .int .i64 x.2] 50 (0, 0)) := (hk7.2 _ hs6 (by omega) hown).trans GX
      have HK7 : Hid (∀ q, q < w5.heap.size → q ≠ Z → q ≠ Z + 1 → w7.heap[q]? = w5.heap[q]?) := Lib.hid (fun q h1 h2 h3 => (hk7.2 q (by omega) h2 (fun vo hvo e => by
        obtain ⟨v1, b1, o1, _⟩ := HFR6.out
        have : vo = v1 := by
          have := hvo.symm.trans b1
          simpa using this
        subst this
        have := (o1.lt _ e).1
        omega)).trans ((hK6 q (by omega)).trans (HK.out q h1 h2 h3)))
      have hB7 : Below w.heap.size w w7 := hB6.trans (hb7.mono (by omega))
      have hs7 : w6.heap.size ≤ w7.heap.size := hk7.1
      obtain ⟨v7, b7, o7, a7⟩ := hf7
      have HO7 := Lib.hid (And.intro b7 (And.intro o7 a7))
      have ca7 := a7.cell
      have fa7 := a7.frozen
      have za7 := a7.lt
      have zx7 : wr.heap.size < w7.heap.size := by omega
      have cx7 := fun p => cellB GX7 p
      clear cx GX GX7 hk7 hb7 b7 o7 a7 hown hK6
      go_wp2
      go_roundw
      case rel =>
        obtain ⟨b7, o7, a7⟩ := HO7.out
        have hne : ∀ q, q ≠ Z + 1 → (w7.setCell ⟨Z + 1, 0, none⟩ (.int .i64 x.2)).heap[q]? = w7.heap[q]? := fun q h => heap_setCell_other w7 ⟨Z + 1, 0, none⟩ q _ h
        refine ⟨k + 1, L2, x.2, by omega, by go_num, Lib.hid ⟨v7, (hne _ (by omega)).trans b7, own_kept1 o7 (fun q hq => hne q (fun e => by have := (o7.lt _ hq).1; omega)), a7.set _⟩, HI2, hL2, Lib.hid (fun q h1 h2 h3 => (hne q h3).trans (HK7.out q h1 h2 h3)), bset hB7 (by show w.heap.size ≤ Z + 1; omega), by simp; omega⟩
      case measure => simp [intOf]; omega
    · obtain rfl : k = M.length := by omega
      have HI2 : Hid ((if a < c.en then L ++ [(a, c.en)] else L) = R) := Lib.hid (by
        have := HI.out.1
        rw [List.drop_length] at this
        rw [← this]
        show _ = L ++ (if a < c.en then [(a, c.en)] else [])
        split <;> simp)
      have GC := cellB ((HK.out (w.heap.size + 1) (by omega) (by omega) (by omega)).trans HG1.out)
      have hzc : w.heap.size + 1 < wr.heap.size := by omega
      go_wp2_with fail
      refine (fadd_any w5.heap.size Z L a c.en _ (by omega) (by omega) HFR.out (by omega)).mono ?_
      rintro e w7 ⟨rfl, hf7, hk7, hb7⟩
      rw [HI2.out] at hf7
      have hB7 : Below w.heap.size w w7 := hB.trans (hb7.mono (by omega))
      obtain ⟨v7, b7, o7, a7⟩ := hf7
      have HO7 := Lib.hid o7
      have cb7 := b7.cell
      have zb7 := b7.lt
      obtain ⟨va, vc, rfl⟩ := own_shape o7
      clear GC hk7 hb7 b7 o7 a7
      go_wp2
      go_ret
      exact ⟨_, rfl, RSps.of_own HO7.out, (own_from HO7.out).le (by omega), hB7⟩
end Go.Proofs.YtkokiahmgmeokaaGreat
