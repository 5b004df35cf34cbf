/- Walks of layer 17 (fragment): Split (the reference's). -/
import Derived.Test.YtibfchdhppdccaaFl
set_option linter.unusedVariables false
set_option linter.unusedSimpArgs false
namespace Go.Proofs.Ytibfchdhppdccaa
open Go Go.RowKit Go.Shelf
attribute [local go_sem] B_getElem B_size B_app B_extract B_get B_toList

theorem RBuns.none (w : World) (N : Nat) (a : Option Addr) : RBuns w N (.slice a 0 0) [] := ⟨a, 0, rfl, Nat.le_refl _, by simp, fun _ => rfl, fun h => by simp at h⟩
theorem partsOf_succ (b : Bun) (Ff : Nat → Nat) (k : Nat) : partsOf b Ff (k + 1) = partsOf b Ff k ++ [cutS b (b.off + (Ff k : Int)) (b.off + (Ff (k + 1) : Int))] := by simp [partsOf, spans_succ]
theorem partsOf_len (b : Bun) (Ff : Nat → Nat) (k : Nat) : (partsOf b Ff k).length = k := by simp [partsOf, spans_len]

set_option maxHeartbeats 1000000 in
theorem rsplit_any (b : Bun) (u : Value) (m : Int) (N : Nat) (w : World) (hN : N ≤ w.heap.size) (h : RBlks w N u b.blocks) (hf : Fits b) :
    Calls Try.prog 13 #[.agg (bunC b u).toArray, .int .i64 m] w (BunsEPost (splitR b m).1 (splitR b m).2 w) := by
  obtain ⟨E, hE⟩ : ∃ E, chkE b = E := ⟨_, rfl⟩
  obtain ⟨C, hC⟩ : ∃ E, cutE b = E := ⟨_, rfl⟩
  obtain ⟨ua, uc, rfl, _⟩ := id h
  have HR := Lib.hid h
  have HF := Lib.hid hf
  have HE := Lib.hid hE
  have HC := Lib.hid hC
  clear h hf
  by_cases z : E = 0
  case neg =>
    have z' : (E != 0) = true := by simpa using z
    have hr : splitR b m = ([], 1) := by unfold splitR; rw [hE, if_pos z]
    rw [hr]
    clear hE hC z hr
    go_enter Try.func13, Try.ntmps13
    simp only [bunC]
    go_wp2_with fail
    refine (rcheck_any b _ _ (HR.out.below (C := w.heap.size) (by repeat' (first | (with_reducible refine bset ?_ ?_) | (with_reducible exact Below.refl _ _) | (with_reducible assumption) | (with_reducible refine bdrewN ?_ _) | (with_reducible refine bdrew ?_) | (with_reducible refine balloc0 ?_) | (with_reducible refine balloc ?_ ?_) | (with_reducible apply btrans0; rotate_left; with_reducible assumption) | (with_reducible apply btrans; rotate_left; with_reducible assumption) | exact Below.refl _ _ | assumption | (apply btrans0; rotate_left; assumption) | (apply btrans; rotate_left; assumption) | (simp; done) | omega | (simp; omega))) hN (by first | omega | (simp; done) | (simp; omega))) HF.out).mono ?_
    rintro e w1 ⟨rfl, hb1⟩
    rw [HE.out]
    go_wp2
    go_ret2
    exact ⟨_, rfl, RBuns.none _ _ _, (by repeat' (first | (with_reducible refine bset ?_ ?_) | (with_reducible exact Below.refl _ _) | (with_reducible assumption) | (with_reducible refine bdrewN ?_ _) | (with_reducible refine bdrew ?_) | (with_reducible refine balloc0 ?_) | (with_reducible refine balloc ?_ ?_) | (with_reducible apply btrans0; rotate_left; with_reducible assumption) | (with_reducible apply btrans; rotate_left; with_reducible assumption) | exact Below.refl _ _ | assumption | (apply btrans0; rotate_left; assumption) | (apply btrans; rotate_left; assumption) | (simp; done) | omega | (simp; omega)))⟩
  subst z
  obtain ⟨v1, v2, v3, v4, v5, v6, v7, v8, _, _⟩ := valid_facts hE
  have HV := Lib.hid (valid_blocks hE)
  by_cases z1 : m < 1
  case pos =>
    have hr : splitR b m = ([], 2) := by unfold splitR; rw [hE, if_neg (by simp), if_pos z1]
    rw [hr]
    clear hE hC hr
    go_enter Try.func13, Try.ntmps13
    simp only [bunC]
    go_wp2_with fail
    refine (rcheck_any b _ _ (HR.out.below (C := w.heap.size) (by repeat' (first | (with_reducible refine bset ?_ ?_) | (with_reducible exact Below.refl _ _) | (with_reducible assumption) | (with_reducible refine bdrewN ?_ _) | (with_reducible refine bdrew ?_) | (with_reducible refine balloc0 ?_) | (with_reducible refine balloc ?_ ?_) | (with_reducible apply btrans0; rotate_left; with_reducible assumption) | (with_reducible apply btrans; rotate_left; with_reducible assumption) | exact Below.refl _ _ | assumption | (apply btrans0; rotate_left; assumption) | (apply btrans; rotate_left; assumption) | (simp; done) | omega | (simp; omega))) hN (by first | omega | (simp; done) | (simp; omega))) HF.out).mono ?_
    rintro e w1 ⟨rfl, hb1⟩
    rw [HE.out]
    obtain ⟨k1, f1⟩ := bcell hb1
    have y1 : w.heap.size < w1.heap.size := by have := hb1.size; simp at this; omega
    have y0 : w.heap.size < w1.heap.size := by omega
    go_wp2
    go_ret2
    exact ⟨_, rfl, RBuns.none _ _ _, (by repeat' (first | (with_reducible refine bset ?_ ?_) | (with_reducible exact Below.refl _ _) | (with_reducible assumption) | (with_reducible refine bdrewN ?_ _) | (with_reducible refine bdrew ?_) | (with_reducible refine balloc0 ?_) | (with_reducible refine balloc ?_ ?_) | (with_reducible apply btrans0; rotate_left; with_reducible assumption) | (with_reducible apply btrans; rotate_left; with_reducible assumption) | exact Below.refl _ _ | assumption | (apply btrans0; rotate_left; assumption) | (apply btrans; rotate_left; assumption) | (simp; done) | omega | (simp; omega)))⟩
  have z1' : 1 ≤ m := by omega
  by_cases z2 : (b.payload.length : Int) ≤ m
  case pos =>
    have hr : splitR b m = ([b], 0) := by unfold splitR; rw [hE, if_neg (by simp), if_neg z1, if_pos z2]
    rw [hr]
    clear hE hC hr z1
    go_enter Try.func13, Try.ntmps13
    simp only [bunC]
    go_wp2_with fail
    refine (rcheck_any b _ _ (HR.out.below (C := w.heap.size) (by repeat' (first | (with_reducible refine bset ?_ ?_) | (with_reducible exact Below.refl _ _) | (with_reducible assumption) | (with_reducible refine bdrewN ?_ _) | (with_reducible refine bdrew ?_) | (with_reducible refine balloc0 ?_) | (with_reducible refine balloc ?_ ?_) | (with_reducible apply btrans0; rotate_left; with_reducible assumption) | (with_reducible apply btrans; rotate_left; with_reducible assumption) | exact Below.refl _ _ | assumption | (apply btrans0; rotate_left; assumption) | (apply btrans; rotate_left; assumption) | (simp; done) | omega | (simp; omega))) hN (by first | omega | (simp; done) | (simp; omega))) HF.out).mono ?_
    rintro e w1 ⟨rfl, hb1⟩
    rw [HE.out]
    obtain ⟨k1, f1⟩ := bcell hb1
    have y1 : w.heap.size < w1.heap.size := by have := hb1.size; simp at this; omega
    have y0 : w.heap.size < w1.heap.size := by omega
    go_wp2
    go_ret2
    have hB : Below w.heap.size w (w1.alloc (.cells (bunC b (.slice ua b.blocks.length uc)).toArray 28)) := (by repeat' (first | (with_reducible refine bset ?_ ?_) | (with_reducible exact Below.refl _ _) | (with_reducible assumption) | (with_reducible refine bdrewN ?_ _) | (with_reducible refine bdrew ?_) | (with_reducible refine balloc0 ?_) | (with_reducible refine balloc ?_ ?_) | (with_reducible apply btrans0; rotate_left; with_reducible assumption) | (with_reducible apply btrans; rotate_left; with_reducible assumption) | exact Below.refl _ _ | assumption | (apply btrans0; rotate_left; assumption) | (apply btrans; rotate_left; assumption) | (simp; done) | omega | (simp; omega)))
    exact ⟨_, rfl, RBuns.one (u := .slice ua b.blocks.length uc) heap_new (by simp) (HR.out.below (C := w.heap.size) hB hN (by have := hB.size; simp at this ⊢; omega)), hB⟩
  have z2' : m < (b.payload.length : Int) := by omega
  by_cases y : C = 0
  case neg =>
    have y' : (C != 0) = true := by simpa using y
    have hr : splitR b m = ([], C) := by unfold splitR; rw [hE, hC, if_neg (by simp), if_neg z1, if_neg z2, if_pos y]
    rw [hr]
    clear hE hC y hr z1 z2
    go_enter Try.func13, Try.ntmps13
    simp only [bunC]
    go_wp2_with fail
    refine (rcheck_any b _ _ (HR.out.below (C := w.heap.size) (by repeat' (first | (with_reducible refine bset ?_ ?_) | (with_reducible exact Below.refl _ _) | (with_reducible assumption) | (with_reducible refine bdrewN ?_ _) | (with_reducible refine bdrew ?_) | (with_reducible refine balloc0 ?_) | (with_reducible refine balloc ?_ ?_) | (with_reducible apply btrans0; rotate_left; with_reducible assumption) | (with_reducible apply btrans; rotate_left; with_reducible assumption) | exact Below.refl _ _ | assumption | (apply btrans0; rotate_left; assumption) | (apply btrans; rotate_left; assumption) | (simp; done) | omega | (simp; omega))) hN (by first | omega | (simp; done) | (simp; omega))) HF.out).mono ?_
    rintro e w1 ⟨rfl, hb1⟩
    rw [HE.out]
    obtain ⟨k1, f1⟩ := bcell hb1
    have y1 : w.heap.size < w1.heap.size := by have := hb1.size; simp at this; omega
    have y0 : w.heap.size < w1.heap.size := by omega
    go_wp2_with fail
    refine (possible_any b _ _ v6 v7 (by omega)).mono ?_
    rintro e w2 ⟨rfl, hb2⟩
    rw [HC.out]
    go_wp2
    go_ret2
    exact ⟨_, rfl, RBuns.none _ _ _, (by repeat' (first | (with_reducible refine bset ?_ ?_) | (with_reducible exact Below.refl _ _) | (with_reducible assumption) | (with_reducible refine bdrewN ?_ _) | (with_reducible refine bdrew ?_) | (with_reducible refine balloc0 ?_) | (with_reducible refine balloc ?_ ?_) | (with_reducible apply btrans0; rotate_left; with_reducible assumption) | (with_reducible apply btrans; rotate_left; with_reducible assumption) | exact Below.refl _ _ | assumption | (apply btrans0; rotate_left; assumption) | (apply btrans; rotate_left; assumption) | (simp; done) | omega | (simp; omega)))⟩
  subst y
  obtain ⟨m', rfl⟩ := Int.eq_ofNat_of_zero_le (show 0 ≤ m by omega)
  have hr : splitR b (m' : Int) = (partsOf b (sF m' b.payload.length) (sK m' b.payload.length), 0) := by unfold splitR; rw [hE, hC, if_neg (by simp), if_neg z1, if_neg z2, if_neg (by simp), Int.toNat_natCast]
  rw [hr]
  clear hE hC hr z1 z2
  have hkl := sK_le (m := m') (len := b.payload.length) (by omega)
  have hge := sK_ge (m := m') (len := b.payload.length) (by omega)
  have HGE := Lib.hid hge
  obtain ⟨To, hTo⟩ : ∃ To : Int, To = b.off + b.payload.length := ⟨_, rfl⟩
  have hTo1 : To ≤ 8192 := by omega
  obtain ⟨i0, hin, hz0, hz1, hz2⟩ := info_parts infoBun
  clear hge
  go_enter Try.func13, Try.ntmps13
  simp only [bunC]
  go_wp2_with fail
  refine (rcheck_any b _ _ (HR.out.below (C := w.heap.size) (by repeat' (first | (with_reducible refine bset ?_ ?_) | (with_reducible exact Below.refl _ _) | (with_reducible assumption) | (with_reducible refine bdrewN ?_ _) | (with_reducible refine bdrew ?_) | (with_reducible refine balloc0 ?_) | (with_reducible refine balloc ?_ ?_) | (with_reducible apply btrans0; rotate_left; with_reducible assumption) | (with_reducible apply btrans; rotate_left; with_reducible assumption) | exact Below.refl _ _ | assumption | (apply btrans0; rotate_left; assumption) | (apply btrans; rotate_left; assumption) | (simp; done) | omega | (simp; omega))) hN (by first | omega | (simp; done) | (simp; omega))) HF.out).mono ?_
  rintro e w1 ⟨rfl, hb1⟩
  rw [HE.out]
  obtain ⟨k1, f1⟩ := bcell hb1
  have y0 : w.heap.size < w1.heap.size := by have := hb1.size; simp at this; omega
  go_wp2_with fail
  refine (possible_any b _ _ v6 v7 (by omega)).mono ?_
  rintro e w2 ⟨rfl, hb2⟩
  rw [HC.out]
  obtain ⟨k2, f2⟩ := bcell hb2
  have y3 : w.heap.size < w2.heap.size := by have := hb2.size; omega
  go_wp2_with fail
  have hB2 : Below w.heap.size w w2 := (by repeat' (first | (with_reducible refine bset ?_ ?_) | (with_reducible exact Below.refl _ _) | (with_reducible assumption) | (with_reducible refine bdrewN ?_ _) | (with_reducible refine bdrew ?_) | (with_reducible refine balloc0 ?_) | (with_reducible refine balloc ?_ ?_) | (with_reducible apply btrans0; rotate_left; with_reducible assumption) | (with_reducible apply btrans; rotate_left; with_reducible assumption) | exact Below.refl _ _ | assumption | (apply btrans0; rotate_left; assumption) | (apply btrans; rotate_left; assumption) | (simp; done) | omega | (simp; omega)))
  have hbb2 : w2.heap[w.heap.size]? = some (.cells (bunC b (.slice ua b.blocks.length uc)).toArray 28 (0, 0)) := ((hb2.block _ (by omega)).trans (hb1.block _ (by simp))).trans (by repeat (first | exact heap_new' (by first | rfl | (simp; done)) | refine (Below.heap_alloc _ _ _ (by first | (simp; done) | (simp; omega))).trans ?_))
  have HBB2 := Lib.hid hbb2
  clear k1 f1 k2 f2 hbb2
  refine (rspan_any b _ _ v1 (by omega) (by omega)).mono ?_
  rintro e w3 ⟨rfl, hb3⟩
  have hs3 := hb3.size
  simp at hs3
  have hB3 : Below w.heap.size w w3 := hB2.trans ((((Below.refl _ w2).alloc (Nat.le_refl _) _).mono (by omega)).trans (hb3.mono (by simp; omega)))
  have hbb3 : w3.heap[w.heap.size]? = some (.cells (bunC b (.slice ua b.blocks.length uc)).toArray 28 (0, 0)) := ((hb3.block _ (by simp; omega)).trans (Below.heap_alloc _ _ _ (by omega))).trans HBB2.out
  have ho3 : OutB w3 N w2.heap.size (.slice (some ⟨w2.heap.size, 0, none⟩) 0 0) [] := (OutB.new rfl (Nat.le_refl _)).below hb3
  have HBB := Lib.hid hbb3
  clear hbb3
  rw [← hTo]
  have HTO := Lib.hid hTo
  clear hTo
  go_wp2
  go_loopw [7, 9] (fun ov fv wr => ∃ (k : Nat) (f : Int) (vo : Value), ov = vo ∧ fv = .int .i64 f ∧ k ≤ sK m' b.payload.length ∧ Hid (f = b.off + ((k * m' : Nat) : Int)) ∧ 0 ≤ f ∧ f ≤ 100000 ∧ OutB wr N w2.heap.size vo (partsOf b (sF m' b.payload.length) k) ∧ Below w.heap.size w wr ∧
    Hid (wr.heap[w.heap.size]? = some (.cells (bunC b (.slice ua b.blocks.length uc)).toArray 28 (0, 0))) ∧ Hid (wr.heap[w3.heap.size]? = some (.cells #[.int .i64 b.off, .int .i64 To] 46 (0, 0))) ∧ w3.heap.size < wr.heap.size) (fun _ fv _ => (To + 5000 - intOf fv).toNat)
  case atStart =>
    refine ⟨0, b.off, _, rfl, rfl, Nat.zero_le _, Lib.hid (by simp), v1, by omega, ?_, (by repeat' (first | (with_reducible refine bset ?_ ?_) | (with_reducible exact Below.refl _ _) | (with_reducible assumption) | (with_reducible refine bdrewN ?_ _) | (with_reducible refine bdrew ?_) | (with_reducible refine balloc0 ?_) | (with_reducible refine balloc ?_ ?_) | (with_reducible apply btrans0; rotate_left; with_reducible assumption) | (with_reducible apply btrans; rotate_left; with_reducible assumption) | exact Below.refl _ _ | assumption | (apply btrans0; rotate_left; assumption) | (apply btrans; rotate_left; assumption) | (simp; done) | omega | (simp; omega))), Lib.hid ((Below.heap_alloc _ _ _ (by omega)).trans HBB.out), Lib.hid heap_new, by simp⟩
    exact ho3.below ((Below.refl _ _).alloc (Nat.le_refl _) _)
  case round =>
    obtain ⟨k, f, vo, e7, rfl, hk, HFk, hf1, hf2, hO, hB, H0, HX, hsz⟩ := hrel
    have e7' := e7.symm
    clear e7
    subst e7'
    have cb := fun o => cellB H0.out o
    simp only [bunC] at cb
    have cx : wr.cell? ⟨w3.heap.size, 1, none⟩ = some (.int .i64 To) := cellB HX.out 1
    by_cases hlt : k < sK m' b.payload.length
    · have hkm := sK_lt (len := b.payload.length) (show 1 ≤ m' by omega) hlt
      have hft : f < To := by have := HFk.out; have := HTO.out; omega
      have hnn := OutB.lt hO
      obtain ⟨X, hX⟩ : ∃ X : Int, X = min (f + m') To := ⟨_, rfl⟩
      have hX1 : X = b.off + (sF m' b.payload.length (k + 1) : Int) := by
        have h1 := HFk.out
        have h2 := HTO.out
        unfold sF
        rw [Nat.succ_mul]
        omega
      have hX2 : f = b.off + (sF m' b.payload.length k : Int) := by
        have h1 := HFk.out
        unfold sF
        omega
      have hcut : partsOf b (sF m' b.payload.length) (k + 1) = partsOf b (sF m' b.payload.length) k ++ [cutS b f X] := by rw [partsOf_succ, ← hX1, ← hX2]
      have hXb1 : f ≤ X := by omega
      have hXb2 : X ≤ b.off + b.payload.length := by have := HTO.out; omega
      have hXc : (f + m' ≤ To ∧ X = f + m') ∨ (To < f + m' ∧ X = To) := by omega
      have hfo : b.off ≤ f := by omega
      obtain ⟨c, hc⟩ : ∃ c, cutS b f X = c := ⟨_, rfl⟩
      rw [hc] at hcut
      have HC4 := Lib.hid hc
      have HCut := Lib.hid hcut
      clear hX hX1 hX2 hcut hkm hc
      rcases hXc with ⟨hm1, rfl⟩ | ⟨hm1, rfl⟩
      all_goals
        go_wp2_with fail
        refine (rcut_any b _ _ _ N _ (by omega) (HR.out.below (C := w.heap.size) hB hN (Nat.le_refl N)) v1 hfo hXb1 hXb2 (by omega) (by omega) HV.out (by omega)).mono ?_
        rintro e w4 ⟨u4, rfl, hr4, hb4⟩
        obtain ⟨a4, c4, rfl, _⟩ := id hr4
        rw [HC4.out] at hr4 ⊢
        have HR4 := Lib.hid hr4
        obtain ⟨rs, hrs1, hrs2, hrs3⟩ := hO.below hb4
        have hlen := partsOf_len b (sF m' b.payload.length) k
        have HLEN := Lib.hid hlen
        have hk2 : k ≤ 4096 := by omega
        have hs4 := hb4.size
        rw [hlen] at hrs2
        clear hr4 hlen
        simp only [bunC]
        go_wp2_with (at_builtin; refine wpList_append_lies _ rfl _ _ _ rfl w2.heap.size 28 i0 _ 12 120 Try.underlying31 hin hz0 hz1 hz2 rfl (by omega) vo k _ rfl (hrs2.alloc _) ⟨w4.heap.size, 0, none⟩ 1 1 (bunC c (.slice a4 c.blocks.length c4)) rfl rfl (news_one (t := 28) (by exact heap_new)) (bunC_one rfl) (by omega) (by simp only [maxLen]; omega) (by omega) (by simp; omega) (w4.heap.size + 1) (by simp) ?_; intro g cap w5 hown5 hg5 hat5 hlt5)
        have hvo : ∀ q, vo.ownBlock = some q → w2.heap.size ≤ q ∧ q < wr.heap.size := hnn
        have hxx : ∀ q, vo.ownBlock = some q → q ≠ w3.heap.size := fun q hq e => by
          obtain ⟨cs, hcs⟩ := OutB.cells hO q hq
          rw [e, HX.out] at hcs
          injection hcs with hcs
          injection hcs with _ hcs
          revert hcs
          decide
        have keep5 : ∀ q, q < wr.heap.size → (q < w2.heap.size ∨ q = w3.heap.size) → w5.heap[q]? = wr.heap[q]? := fun q hq hq2 =>
          ((hg5.block q (by simp; omega) (fun e => by rcases hq2 with h | h; have := (hvo q e.symm).1; omega; exact hxx q e.symm h)).trans (Below.heap_alloc _ _ _ (by omega))).trans (hb4.block q hq)
        have hB5 : Below w.heap.size w w5 := hB.trans ((balloc (hb4.mono (by omega)) (by omega)).grown hg5 (by simp; omega) (fun q hq => by have := hvo q hq; omega))
        have hst := OutB.step (W0 := wr) (N := N) (cap := cap) (W := w4.alloc (.cells (bunC c (.slice a4 c.blocks.length c4)).toArray 28)) hrs1 (by rw [HLEN.out]; exact hrs2.alloc _) (fun r hr => (hrs3 r hr).keep (fun q o hq => World.cell?_alloc_lt _ _ _ hq.1) (fun q hq => ⟨by have := hq.1; simp; omega, hq.2⟩))
          (fun q hq => (hvo q hq).2) (HR4.out.keep (fun q o hq => World.cell?_alloc_lt _ _ _ (by show q < w4.heap.size; rcases hq with hq | hq <;> omega)) (fun q hq => by rcases hq with hq | hq; exact .inl hq; exact .inr ⟨hq.1, by simp; omega⟩)) (by omega) (by simp; omega) (by omega) (by rw [HLEN.out]; exact hown5) hg5 (by rcases hat5 with h | h; exact .inl h; exact .inr (by simpa using h))
        rw [HLEN.out] at hst
        have HST := Lib.hid hst
        have g0 := Lib.hid ((keep5 w.heap.size (by omega) (.inl (by omega))).trans H0.out)
        have gX := Lib.hid ((keep5 w3.heap.size hsz (.inr rfl)).trans HX.out)
        have hz5 : w3.heap.size < w5.heap.size := by have := hg5.size; simp at this; omega
        clear hst keep5 hown5 hat5 hxx hvo hnn hg5 hb4 hrs1 hrs2 hrs3
        go_wp2
        go_roundw
        case rel => exact ⟨k + 1, f + m', _, rfl, rfl, by omega, Lib.hid (by have := HFk.out; rw [Nat.succ_mul]; omega), by omega, by omega, by rw [HCut.out]; exact HST.out, hB5, g0, gX, hz5⟩
        case measure => simp [intOf]; omega
    · obtain rfl : k = sK m' b.payload.length := by omega
      have hft : To ≤ f := by have := HFk.out; have := HTO.out; have := HGE.out; omega
      go_wp2
      go_ret2
      exact ⟨_, rfl, hO.rbuns, hB⟩
end Go.Proofs.Ytibfchdhppdccaa
