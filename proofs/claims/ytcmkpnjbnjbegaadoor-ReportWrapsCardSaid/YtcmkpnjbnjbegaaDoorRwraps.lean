/-
  Proved: mailboatlaw20.ReportWraps returns true for every input, and leaves its arguments as they were. Under what the row lists, tied to the text.
-/
import Derived.Test.YtcmkpnjbnjbegaaDoorRows
import Derived.Test.YtcmkpnjbnjbegaaDoorVh
import Derived.Test.YtcmkpnjbnjbegaaDoorVr
import Derived.Test.YtcmkpnjbnjbegaaDoorVp
import Derived.Test.YtcmkpnjbnjbegaaDoorSt
import Derived.Test.YtcmkpnjbnjbegaaDoorCards
import Derived.Test.YtcmkpnjbnjbegaaDoorTie
import Derived.SevenTiedAt
set_option linter.unusedVariables false
set_option linter.unusedSimpArgs false
namespace Go.Proofs.YtcmkpnjbnjbegaaDoor.reportWraps
open Go Go.ChangeShapes Go.WideShapes Go.ChangeAt Go.RowKit Go.Joins Go.Proofs.YtcmkpnjbnjbegaaDoor
attribute [local go_sem] B_getElem B_size B_app B_extract B_get B_toList

theorem own : ownKnob Tryd.prog.godebug = none := by kernel_rfl

theorem has6 : hasF 6 4 = true := by decide
theorem carrier_ok {s c q d l : Int} {R : List UInt8} (h1 : 0 ≤ s ∧ s ≤ 15) (h2 : 0 ≤ c ∧ c ≤ 1099511627776) (h3 : 0 ≤ q ∧ q ≤ 1099511627776) (h4 : 0 ≤ d ∧ d ≤ 15) (h5 : 1 ≤ l) (h6 : l ≤ 1099511627776 - c) (h7 : R.length ≤ 250) :
    chkE ⟨s, c, q, 0, 0, 1, d, l, 1, 6, [], R⟩ = 0 := by
  have a1 : idE ⟨s, c, q, 0, 0, 1, d, l, 1, 6, [], R⟩ = 0 := by
    unfold idE idB; rw [if_pos]; exact decide_eq_true ⟨h1.1, h1.2, h2.1, h2.2, h3.1, h3.2, .inl ⟨rfl, rfl⟩⟩
  have a2 : endE 1 d = 0 := by unfold endE; rw [if_pos rfl, if_pos ⟨h4.1, by omega⟩]
  have a3 : flE ⟨s, c, q, 0, 0, 1, d, l, 1, 6, [], R⟩ = 0 := by
    have : flB ⟨s, c, q, 0, 0, 1, d, l, 1, 6, [], R⟩ = true := by
      unfold flB; simp [hasF]
    unfold flE; rw [if_pos this]
  have a4 : blksE [] = 0 := by decide
  have a5 : payE ⟨s, c, q, 0, 0, 1, d, l, 1, 6, [], R⟩ = 0 := by
    unfold payE; simp only; rw [if_neg (by omega), if_neg (by simp)]
  unfold chkE
  rw [if_neg (by rw [a1]; decide), if_neg (by simp only; rw [a2]; decide), if_neg (by simp only; omega), if_neg (by simp only; decide), if_neg (by rw [a3]; decide), if_neg (by simp only; rw [a4]; decide), a5]
theorem unw_any {r : Rep} {s q d l : Int} (h : repE r = 0) (hc : chkE ⟨s, r.time, q, 0, 0, 1, d, l, 1, 6, [], repR r⟩ = 0) :
    unwS ⟨s, r.time, q, 0, 0, 1, d, l, 1, 6, [], repR r⟩ = if s = r.node ∧ d = r.src then (r, 0) else (zRep, 10) := by
  unfold unwS
  rw [hc]
  simp only
  rw [has6, repDS_enc h]
  rw [if_neg (by decide), if_neg (by decide), if_neg (by simp)]
  by_cases k : s = r.node ∧ d = r.src
  · rw [if_pos k, if_pos (by simp [k.1, k.2])]
  · rw [if_neg k, if_neg (fun j => k (by simpa using j))]
theorem want_none {s c q d l k : Int} {R : List UInt8} : wantB ⟨s, c, q, 0, 0, 1, d, l, 1, 6, [], R⟩ k = false := by
  unfold wantB; simp only; rw [has6]; simp
theorem fits_carrier {s c q d l : Int} {R : List UInt8} (h : R.length ≤ 250) : Fits ⟨s, c, q, 0, 0, 1, d, l, 1, 6, [], R⟩ := ⟨by unfold maxLen; simp only; omega, fun x hx => by simp at hx⟩
theorem eqR_refl (r : Rep) : eqR r r = true := eqR_iff.2 rfl
theorem neEnd (a b : Int) (w : World) : Sem.run Tryd.prog (Go.binOp .neq 33 (.agg #[.int .i64 a, .int .i64 b]) (.agg #[.int .i64 a, .int .i64 b])) w = .ok (.bool false) w := by
  go_simp
attribute [local go_sem ↓] neRepI neEnd
set_option maxRecDepth 100000 in
set_option maxHeartbeats 8000000 in
theorem walk (r : Rep) (seq life : Int) (w : World) (hT : Tabs w) :
    Calls Tryd.prog 8 #[repV r, .int .i64 seq, .int .i64 life] w (Says w) := by
  unfold Says
  obtain ⟨E, hE⟩ : ∃ q, wrapE r seq life = q := ⟨_, rfl⟩
  have HE := Lib.hid hE
  by_cases z : E = 0
  case neg =>
    have z' : (E != 0) = true := by rw [bne_iff_ne]; exact z
    have HB : Hid (wrapB r seq life = zBun) := Lib.hid (wrapB_bad (by rw [hE]; exact z))
    obtain ⟨C, hC⟩ : ∃ q, repE r = q := ⟨_, rfl⟩
    have HC := Lib.hid hC
    by_cases y : C = 0
    · subst y
      obtain rfl : E = 2 := by
        rw [← hE]; unfold wrapE
        rw [hC, if_neg (by simp), if_neg]
        intro k
        rw [← hE] at z
        unfold wrapE at z
        rw [hC, if_neg (by simp), if_pos k] at z
        exact z rfl
      clear hE hC z z'
      unfold repV
      go_enter Tryd.func8, Tryd.ntmps8
      go_wp2_with fail
      refine (wrap_any r _ _ _).mono ?_
      unfold WrapPost
      rw [HE.out, HB.out]
      simp only [bunC, zBun]
      rintro e w1 ⟨rfl, hb1⟩
      have hB1 : Below w.heap.size w w1 := (by repeat' (first | (with_reducible refine bset ?_ ?_) | (with_reducible exact Below.refl _ _) | (with_reducible assumption) | (with_reducible refine bdrewN ?_ _) | (with_reducible refine bdrew ?_) | (with_reducible refine balloc0 ?_) | (with_reducible refine balloc ?_ ?_) | (with_reducible apply btrans0; rotate_left; with_reducible assumption) | (with_reducible apply btrans; rotate_left; with_reducible assumption) | exact Below.refl _ _ | assumption | (apply btrans0; rotate_left; assumption) | (apply btrans; rotate_left; assumption) | (simp; done) | omega | (simp; omega)))
      have z1 : w.heap.size < w1.heap.size := by have := hb1.size; simp at this; omega
      have A1 : w1.heap[w.heap.size]? = some (.cells (repA r) 25 (0, 0)) := (hb1.block _ (by simp)).trans heap_new
      have c1 := fun o => cellB A1 o
      simp only [repA] at c1
      have HA1 := Lib.hid A1
      clear A1 hb1
      go_wp2_with fail
      refine (lsame_any zBun _ _ _ (RBlks.nil _ _) (RBlks.nil _ _)).mono ?_
      rintro e w2 ⟨rfl, hb2⟩
      have hB2 : Below w.heap.size w w2 := (by repeat' (first | (with_reducible refine bset ?_ ?_) | (with_reducible exact Below.refl _ _) | (with_reducible assumption) | (with_reducible refine bdrewN ?_ _) | (with_reducible refine bdrew ?_) | (with_reducible refine balloc0 ?_) | (with_reducible refine balloc ?_ ?_) | (with_reducible apply btrans0; rotate_left; with_reducible assumption) | (with_reducible apply btrans; rotate_left; with_reducible assumption) | exact Below.refl _ _ | assumption | (apply btrans0; rotate_left; assumption) | (apply btrans; rotate_left; assumption) | (simp; done) | omega | (simp; omega)))
      have b12 : Below w1.heap.size w1 w2 := by clear hB1 hB2; exact (by repeat' (first | (with_reducible refine bset ?_ ?_) | (with_reducible exact Below.refl _ _) | (with_reducible assumption) | (with_reducible refine bdrewN ?_ _) | (with_reducible refine bdrew ?_) | (with_reducible refine balloc0 ?_) | (with_reducible refine balloc ?_ ?_) | (with_reducible apply btrans0; rotate_left; with_reducible assumption) | (with_reducible apply btrans; rotate_left; with_reducible assumption) | exact Below.refl _ _ | assumption | (apply btrans0; rotate_left; assumption) | (apply btrans; rotate_left; assumption) | (simp; done) | omega | (simp; omega)))
      have z2 : w.heap.size < w2.heap.size := by have := b12.size; omega
      have A2 := (b12.block _ z1).trans HA1.out
      clear c1
      have c2 := fun o => cellB A2 o
      simp only [repA] at c2
      clear A2 hb2
      go_wp2_with fail
      refine (repCheck_any r _).mono ?_
      rw [HC.out]
      rintro e w3 ⟨rfl, hb3⟩
      have hB3 : Below w.heap.size w w3 := (by repeat' (first | (with_reducible refine bset ?_ ?_) | (with_reducible exact Below.refl _ _) | (with_reducible assumption) | (with_reducible refine bdrewN ?_ _) | (with_reducible refine bdrew ?_) | (with_reducible refine balloc0 ?_) | (with_reducible refine balloc ?_ ?_) | (with_reducible apply btrans0; rotate_left; with_reducible assumption) | (with_reducible apply btrans; rotate_left; with_reducible assumption) | exact Below.refl _ _ | assumption | (apply btrans0; rotate_left; assumption) | (apply btrans; rotate_left; assumption) | (simp; done) | omega | (simp; omega)))
      go_wp2_with fail
      refine (awake_any _ (hT.stays (by repeat' (first | (with_reducible refine bset ?_ ?_) | (with_reducible exact Below.refl _ _) | (with_reducible assumption) | (with_reducible refine bdrewN ?_ _) | (with_reducible refine bdrew ?_) | (with_reducible refine balloc0 ?_) | (with_reducible refine balloc ?_ ?_) | (with_reducible apply btrans0; rotate_left; with_reducible assumption) | (with_reducible apply btrans; rotate_left; with_reducible assumption) | exact Below.refl _ _ | assumption | (apply btrans0; rotate_left; assumption) | (apply btrans; rotate_left; assumption) | (simp; done) | omega | (simp; omega))))).mono ?_
      rintro e w99 ⟨rfl, hb99⟩
      go_wp2
      go_ret
      exact ⟨rfl, (by repeat' (first | (with_reducible refine bset ?_ ?_) | (with_reducible exact Below.refl _ _) | (with_reducible assumption) | (with_reducible refine bdrewN ?_ _) | (with_reducible refine bdrew ?_) | (with_reducible refine balloc0 ?_) | (with_reducible refine balloc ?_ ?_) | (with_reducible apply btrans0; rotate_left; with_reducible assumption) | (with_reducible apply btrans; rotate_left; with_reducible assumption) | exact Below.refl _ _ | assumption | (apply btrans0; rotate_left; assumption) | (apply btrans; rotate_left; assumption) | (simp; done) | omega | (simp; omega)))⟩
    · obtain rfl : E = C := by
        rw [← hE, ← hC]; unfold wrapE; rw [if_pos (by rw [hC]; exact y)]
      clear hE hC z y
      unfold repV
      go_enter Tryd.func8, Tryd.ntmps8
      go_wp2_with fail
      refine (wrap_any r _ _ _).mono ?_
      unfold WrapPost
      rw [HE.out, HB.out]
      simp only [bunC, zBun]
      rintro e w1 ⟨rfl, hb1⟩
      have hB1 : Below w.heap.size w w1 := (by repeat' (first | (with_reducible refine bset ?_ ?_) | (with_reducible exact Below.refl _ _) | (with_reducible assumption) | (with_reducible refine bdrewN ?_ _) | (with_reducible refine bdrew ?_) | (with_reducible refine balloc0 ?_) | (with_reducible refine balloc ?_ ?_) | (with_reducible apply btrans0; rotate_left; with_reducible assumption) | (with_reducible apply btrans; rotate_left; with_reducible assumption) | exact Below.refl _ _ | assumption | (apply btrans0; rotate_left; assumption) | (apply btrans; rotate_left; assumption) | (simp; done) | omega | (simp; omega)))
      have z1 : w.heap.size < w1.heap.size := by have := hb1.size; simp at this; omega
      have A1 : w1.heap[w.heap.size]? = some (.cells (repA r) 25 (0, 0)) := (hb1.block _ (by simp)).trans heap_new
      have c1 := fun o => cellB A1 o
      simp only [repA] at c1
      have HA1 := Lib.hid A1
      clear A1 hb1
      go_wp2_with fail
      refine (lsame_any zBun _ _ _ (RBlks.nil _ _) (RBlks.nil _ _)).mono ?_
      rintro e w2 ⟨rfl, hb2⟩
      have hB2 : Below w.heap.size w w2 := (by repeat' (first | (with_reducible refine bset ?_ ?_) | (with_reducible exact Below.refl _ _) | (with_reducible assumption) | (with_reducible refine bdrewN ?_ _) | (with_reducible refine bdrew ?_) | (with_reducible refine balloc0 ?_) | (with_reducible refine balloc ?_ ?_) | (with_reducible apply btrans0; rotate_left; with_reducible assumption) | (with_reducible apply btrans; rotate_left; with_reducible assumption) | exact Below.refl _ _ | assumption | (apply btrans0; rotate_left; assumption) | (apply btrans; rotate_left; assumption) | (simp; done) | omega | (simp; omega)))
      have b12 : Below w1.heap.size w1 w2 := by clear hB1 hB2; exact (by repeat' (first | (with_reducible refine bset ?_ ?_) | (with_reducible exact Below.refl _ _) | (with_reducible assumption) | (with_reducible refine bdrewN ?_ _) | (with_reducible refine bdrew ?_) | (with_reducible refine balloc0 ?_) | (with_reducible refine balloc ?_ ?_) | (with_reducible apply btrans0; rotate_left; with_reducible assumption) | (with_reducible apply btrans; rotate_left; with_reducible assumption) | exact Below.refl _ _ | assumption | (apply btrans0; rotate_left; assumption) | (apply btrans; rotate_left; assumption) | (simp; done) | omega | (simp; omega)))
      have z2 : w.heap.size < w2.heap.size := by have := b12.size; omega
      have A2 := (b12.block _ z1).trans HA1.out
      clear c1
      have c2 := fun o => cellB A2 o
      simp only [repA] at c2
      clear A2 hb2
      go_wp2_with fail
      refine (repCheck_any r _).mono ?_
      rw [HC.out]
      rintro e w3 ⟨rfl, hb3⟩
      have hB3 : Below w.heap.size w w3 := (by repeat' (first | (with_reducible refine bset ?_ ?_) | (with_reducible exact Below.refl _ _) | (with_reducible assumption) | (with_reducible refine bdrewN ?_ _) | (with_reducible refine bdrew ?_) | (with_reducible refine balloc0 ?_) | (with_reducible refine balloc ?_ ?_) | (with_reducible apply btrans0; rotate_left; with_reducible assumption) | (with_reducible apply btrans; rotate_left; with_reducible assumption) | exact Below.refl _ _ | assumption | (apply btrans0; rotate_left; assumption) | (apply btrans; rotate_left; assumption) | (simp; done) | omega | (simp; omega)))
      go_wp2_with fail
      refine (awake_any _ (hT.stays (by repeat' (first | (with_reducible refine bset ?_ ?_) | (with_reducible exact Below.refl _ _) | (with_reducible assumption) | (with_reducible refine bdrewN ?_ _) | (with_reducible refine bdrew ?_) | (with_reducible refine balloc0 ?_) | (with_reducible refine balloc ?_ ?_) | (with_reducible apply btrans0; rotate_left; with_reducible assumption) | (with_reducible apply btrans; rotate_left; with_reducible assumption) | exact Below.refl _ _ | assumption | (apply btrans0; rotate_left; assumption) | (apply btrans; rotate_left; assumption) | (simp; done) | omega | (simp; omega))))).mono ?_
      rintro e w99 ⟨rfl, hb99⟩
      go_wp2
      go_ret
      exact ⟨rfl, (by repeat' (first | (with_reducible refine bset ?_ ?_) | (with_reducible exact Below.refl _ _) | (with_reducible assumption) | (with_reducible refine bdrewN ?_ _) | (with_reducible refine bdrew ?_) | (with_reducible refine balloc0 ?_) | (with_reducible refine balloc ?_ ?_) | (with_reducible apply btrans0; rotate_left; with_reducible assumption) | (with_reducible apply btrans; rotate_left; with_reducible assumption) | exact Below.refl _ _ | assumption | (apply btrans0; rotate_left; assumption) | (apply btrans; rotate_left; assumption) | (simp; done) | omega | (simp; omega)))⟩
  subst z
  obtain ⟨g0, g1, g2, g3, g4⟩ := wrapE_ok hE
  obtain ⟨-, -, t1, t2, t3, t4, t5, -, -, -⟩ := rep_facts g0
  obtain ⟨s1, s2, -⟩ := rid_facts t1
  obtain ⟨R, hR⟩ : ∃ q, repR r = q := ⟨_, rfl⟩
  have hRl := repR_len r
  rw [hR] at hRl
  have HB : Hid (wrapB r seq life = ⟨r.node, r.time, seq, 0, 0, 1, r.src, life, 1, 6, [], R⟩) := Lib.hid (by rw [wrapB_ok hE, hR])
  have hK : chkE ⟨r.node, r.time, seq, 0, 0, 1, r.src, life, 1, 6, [], R⟩ = 0 := carrier_ok ⟨t2, t3⟩ ⟨t4, t5⟩ ⟨g1, g2⟩ ⟨s1, s2⟩ g3 g4 hRl
  have hK1 : chkE ⟨((r.node + 1) % 16), r.time, seq, 0, 0, 1, r.src, life, 1, 6, [], R⟩ = 0 := carrier_ok ⟨by omega, by omega⟩ ⟨t4, t5⟩ ⟨g1, g2⟩ ⟨s1, s2⟩ g3 g4 hRl
  have hK2 : chkE ⟨r.node, r.time, seq, 0, 0, 1, ((r.src + 1) % 16), life, 1, 6, [], R⟩ = 0 := carrier_ok ⟨t2, t3⟩ ⟨t4, t5⟩ ⟨g1, g2⟩ ⟨by omega, by omega⟩ g3 g4 hRl
  have HK := Lib.hid hK
  have HU0 : Hid (unwS ⟨r.node, r.time, seq, 0, 0, 1, r.src, life, 1, 6, [], R⟩ = (r, 0)) := Lib.hid (by rw [← hR] at hK ⊢; rw [unw_any g0 hK, if_pos ⟨rfl, rfl⟩])
  have HU1 : Hid (unwS ⟨((r.node + 1) % 16), r.time, seq, 0, 0, 1, r.src, life, 1, 6, [], R⟩ = (zRep, 10)) := Lib.hid (by rw [← hR] at hK1 ⊢; rw [unw_any g0 hK1, if_neg (by omega)])
  have HU2 : Hid (unwS ⟨r.node, r.time, seq, 0, 0, 1, ((r.src + 1) % 16), life, 1, 6, [], R⟩ = (zRep, 10)) := Lib.hid (by rw [← hR] at hK2 ⊢; rw [unw_any g0 hK2, if_neg (by omega)])
  have HFB : Hid (Fits ⟨r.node, r.time, seq, 0, 0, 1, r.src, life, 1, 6, [], R⟩) := Lib.hid (fits_carrier hRl)
  have HFS : Hid (Fits ⟨((r.node + 1) % 16), r.time, seq, 0, 0, 1, r.src, life, 1, 6, [], R⟩) := Lib.hid (fits_carrier hRl)
  have HFD : Hid (Fits ⟨r.node, r.time, seq, 0, 0, 1, ((r.src + 1) % 16), life, 1, 6, [], R⟩) := Lib.hid (fits_carrier hRl)
  have er := eqR_refl r
  clear hE hK hK1 hK2 hR g0 t1
  unfold repV
  go_enter Tryd.func8, Tryd.ntmps8
  go_wp2_with fail
  refine (wrap_any r _ _ _).mono ?_
  unfold WrapPost
  rw [HE.out, HB.out]
  simp only [bunC]
  rintro e w1 ⟨rfl, hb1⟩
  have hB1 : Below w.heap.size w w1 := (by repeat' (first | (with_reducible refine bset ?_ ?_) | (with_reducible exact Below.refl _ _) | (with_reducible assumption) | (with_reducible refine bdrewN ?_ _) | (with_reducible refine bdrew ?_) | (with_reducible refine balloc0 ?_) | (with_reducible refine balloc ?_ ?_) | (with_reducible apply btrans0; rotate_left; with_reducible assumption) | (with_reducible apply btrans; rotate_left; with_reducible assumption) | exact Below.refl _ _ | assumption | (apply btrans0; rotate_left; assumption) | (apply btrans; rotate_left; assumption) | (simp; done) | omega | (simp; omega)))
  have zr1 : w.heap.size < w1.heap.size := by have := hb1.size; simp at this; omega
  have Ar1 : w1.heap[w.heap.size]? = some (.cells (repA r) 25 (0, 0)) := (hb1.block _ (by simp)).trans heap_new
  have cr1 := fun o => cellB Ar1 o
  simp only [repA] at cr1
  have HAr1 := Lib.hid Ar1
  clear Ar1 hb1
  go_wp2_with fail
  refine (unwrap_any ⟨r.node, r.time, seq, 0, 0, 1, r.src, life, 1, 6, [], R⟩ _ _ (RBlks.nil _ _) HFB.out).mono ?_
  unfold UnwPost RepPost
  rw [HU0.out]
  simp only
  unfold repV
  rintro e w2 ⟨rfl, hb2⟩
  have hB2 : Below w.heap.size w w2 := (by repeat' (first | (with_reducible refine bset ?_ ?_) | (with_reducible exact Below.refl _ _) | (with_reducible assumption) | (with_reducible refine bdrewN ?_ _) | (with_reducible refine bdrew ?_) | (with_reducible refine balloc0 ?_) | (with_reducible refine balloc ?_ ?_) | (with_reducible apply btrans0; rotate_left; with_reducible assumption) | (with_reducible apply btrans; rotate_left; with_reducible assumption) | exact Below.refl _ _ | assumption | (apply btrans0; rotate_left; assumption) | (apply btrans; rotate_left; assumption) | (simp; done) | omega | (simp; omega)))
  have b12 : Below w1.heap.size w1 w2 := by clear hB1 hB2; exact (by repeat' (first | (with_reducible refine bset ?_ ?_) | (with_reducible exact Below.refl _ _) | (with_reducible assumption) | (with_reducible refine bdrewN ?_ _) | (with_reducible refine bdrew ?_) | (with_reducible refine balloc0 ?_) | (with_reducible refine balloc ?_ ?_) | (with_reducible apply btrans0; rotate_left; with_reducible assumption) | (with_reducible apply btrans; rotate_left; with_reducible assumption) | exact Below.refl _ _ | assumption | (apply btrans0; rotate_left; assumption) | (apply btrans; rotate_left; assumption) | (simp; done) | omega | (simp; omega)))
  have y2 : w1.heap.size ≤ w2.heap.size := b12.size
  have zr2 : w.heap.size < w2.heap.size := by omega
  have Ar2 := (b12.block _ zr1).trans HAr1.out
  have HAr2 := Lib.hid Ar2
  have cr2 := fun o => cellB Ar2 o
  simp only [repA] at cr2
  clear Ar2 cr1
  have zb2 : w1.heap.size < w2.heap.size := by have := hb2.size; simp at this; omega
  have Ab2 : w2.heap[w1.heap.size]? = some (.cells (bunC ⟨r.node, r.time, seq, 0, 0, 1, r.src, life, 1, 6, [], R⟩ (.slice none 0 0)).toArray 36 (0, 0)) := (hb2.block _ (by simp)).trans heap_new
  have HAb2 := Lib.hid Ab2
  have cb2 := fun o => cellB Ab2 o
  simp only [bunC] at cb2
  clear Ab2
  clear hb2
  go_wp2_with fail
  refine (check_any ⟨r.node, r.time, seq, 0, 0, 1, r.src, life, 1, 6, [], R⟩ _ _ (RBlks.nil _ _) HFB.out).mono ?_
  rw [HK.out]
  rintro e w3 ⟨rfl, hb3⟩
  have hB3 : Below w.heap.size w w3 := (by repeat' (first | (with_reducible refine bset ?_ ?_) | (with_reducible exact Below.refl _ _) | (with_reducible assumption) | (with_reducible refine bdrewN ?_ _) | (with_reducible refine bdrew ?_) | (with_reducible refine balloc0 ?_) | (with_reducible refine balloc ?_ ?_) | (with_reducible apply btrans0; rotate_left; with_reducible assumption) | (with_reducible apply btrans; rotate_left; with_reducible assumption) | exact Below.refl _ _ | assumption | (apply btrans0; rotate_left; assumption) | (apply btrans; rotate_left; assumption) | (simp; done) | omega | (simp; omega)))
  have b23 : Below w2.heap.size w2 w3 := by clear hB1 hB2 hB3 b12; exact (by repeat' (first | (with_reducible refine bset ?_ ?_) | (with_reducible exact Below.refl _ _) | (with_reducible assumption) | (with_reducible refine bdrewN ?_ _) | (with_reducible refine bdrew ?_) | (with_reducible refine balloc0 ?_) | (with_reducible refine balloc ?_ ?_) | (with_reducible apply btrans0; rotate_left; with_reducible assumption) | (with_reducible apply btrans; rotate_left; with_reducible assumption) | exact Below.refl _ _ | assumption | (apply btrans0; rotate_left; assumption) | (apply btrans; rotate_left; assumption) | (simp; done) | omega | (simp; omega)))
  have y3 : w2.heap.size ≤ w3.heap.size := b23.size
  have zr3 : w.heap.size < w3.heap.size := by omega
  have Ar3 := (b23.block _ zr2).trans HAr2.out
  have HAr3 := Lib.hid Ar3
  have cr3 := fun o => cellB Ar3 o
  simp only [repA] at cr3
  clear Ar3 cr2
  have zb3 : w1.heap.size < w3.heap.size := by omega
  have Ab3 := (b23.block _ zb2).trans HAb2.out
  have HAb3 := Lib.hid Ab3
  have cb3 := fun o => cellB Ab3 o
  simp only [bunC] at cb3
  clear Ab3 cb2
  clear hb3
  go_wp2
  go_loopw [76] (fun i wr => ∃ k : Nat, k ≤ 8 ∧ i = .int .i64 k ∧ Below w3.heap.size w3 wr) (fun i _ => 8 - (intOf i).toNat)
  case atStart => exact ⟨0, by omega, rfl, Below.refl _ _⟩
  case round =>
    obtain ⟨k, hk, rfl, hBr⟩ := hrel
    have hBw : Below w.heap.size w wr := hB3.trans (hBr.mono (by omega))
    have yr : w3.heap.size ≤ wr.heap.size := hBr.size
    have zrr : w.heap.size < wr.heap.size := by omega
    have zbr : w1.heap.size < wr.heap.size := by omega
    have Arr := (hBr.block _ zr3).trans HAr3.out
    have Abr := (hBr.block _ zb3).trans HAb3.out
    have HArr := Lib.hid Arr
    have HAbr := Lib.hid Abr
    have crr := fun o => cellB Arr o
    have cbr := fun o => cellB Abr o
    simp only [repA] at crr
    simp only [bunC] at cbr
    clear Arr Abr cr3 cb3
    by_cases hlt : k < 8
    · have k1 : (k : Int) < 8 := by omega
      go_wp2_with fail
      refine (wanted_any ⟨r.node, r.time, seq, 0, 0, 1, r.src, life, 1, 6, [], R⟩ _ k _ (RBlks.nil _ _) HFB.out).mono ?_
      rw [want_none]
      rintro e w5 ⟨rfl, hb5⟩
      go_wp2
      go_roundw
      case rel => exact ⟨k + 1, by omega, by go_num, hBr.trans (hb5.mono yr)⟩
      case measure => simp [intOf]; omega
    · obtain rfl : k = 8 := by omega
      obtain ⟨w4, rfl⟩ : ∃ w4, w4 = wr := ⟨_, rfl⟩
      have n1 : 0 ≤ r.node + 1 := by omega
      have n2 : 0 ≤ r.src + 1 := by omega
      go_wp2_with fail
      refine (unwrap_any ⟨((r.node + 1) % 16), r.time, seq, 0, 0, 1, r.src, life, 1, 6, [], R⟩ _ _ (RBlks.nil _ _) HFS.out).mono ?_
      unfold UnwPost RepPost
      rw [HU1.out]
      simp only
      unfold repV zRep
      simp only
      rintro e w5 ⟨rfl, hb5⟩
      have hB5 : Below w.heap.size w w5 := (by repeat' (first | (with_reducible refine bset ?_ ?_) | (with_reducible exact Below.refl _ _) | (with_reducible assumption) | (with_reducible refine bdrewN ?_ _) | (with_reducible refine bdrew ?_) | (with_reducible refine balloc0 ?_) | (with_reducible refine balloc ?_ ?_) | (with_reducible apply btrans0; rotate_left; with_reducible assumption) | (with_reducible apply btrans; rotate_left; with_reducible assumption) | exact Below.refl _ _ | assumption | (apply btrans0; rotate_left; assumption) | (apply btrans; rotate_left; assumption) | (simp; done) | omega | (simp; omega)))
      have b45 : Below w4.heap.size w4 w5 := by clear hB5 hBw hB1 hB2 hB3 b12 b23 hBr; exact (by repeat' (first | (with_reducible refine bset ?_ ?_) | (with_reducible exact Below.refl _ _) | (with_reducible assumption) | (with_reducible refine bdrewN ?_ _) | (with_reducible refine bdrew ?_) | (with_reducible refine balloc0 ?_) | (with_reducible refine balloc ?_ ?_) | (with_reducible apply btrans0; rotate_left; with_reducible assumption) | (with_reducible apply btrans; rotate_left; with_reducible assumption) | exact Below.refl _ _ | assumption | (apply btrans0; rotate_left; assumption) | (apply btrans; rotate_left; assumption) | (simp; done) | omega | (simp; omega)))
      have y5 : w4.heap.size ≤ w5.heap.size := b45.size
      have zo5 : w4.heap.size < w5.heap.size := by have := hb5.size; simp at this; omega
      have zb5 : w1.heap.size < w5.heap.size := by omega
      have zr5 : w.heap.size < w5.heap.size := by omega
      have Ab5 := (b45.block _ zbr).trans HAbr.out
      have Ao5 : w5.heap[w4.heap.size]? = some (.cells (bunC ⟨((r.node + 1) % 16), r.time, seq, 0, 0, 1, r.src, life, 1, 6, [], R⟩ (.slice none 0 0)).toArray 36 (0, 0)) := (hb5.block _ (by simp)).trans heap_new
      have cb5 := fun o => cellB Ab5 o
      have co5 := fun o => cellB Ao5 o
      simp only [bunC] at cb5 co5
      have fo5 := fun o => frozenB Ao5 o
      have ne5 : w1.heap.size ≠ w4.heap.size := by omega
      have HAb5 := Lib.hid Ab5
      have HAo5 := Lib.hid Ao5
      clear Ab5 Ao5 crr cbr hb5 co5 fo5
      go_wp2_with (refine wpList_store_block rfl 36 _ _ rfl w4.heap.size #[.int .i64 r.node, .int .i64 r.time, .int .i64 seq, .int .i64 0, .int .i64 0, .int .i64 1, .int .i64 r.src, .int .i64 life, .int .i64 1, .int .i64 6, .slice none 0 0, .string (B R)] _ 36 rfl rfl ((Below.heap_alloc _ _ _ zo5).trans HAo5.out) rfl (by kernel_rfl) (by simp [Value.oneCell']) ?_; intro W hW hbW hsW hoW; have hBW : Below w.heap.size w W := (balloc hB5 (by omega)).trans (hbW _ (by omega)); have cbW := fun o => cellB ((hoW _ ne5).trans ((Below.heap_alloc _ _ _ zb5).trans HAb5.out)) o; have coW := fun o => cellB hW o; have foW := fun o => frozenB hW o; simp only [bunC] at cbW; have zoW : w4.heap.size < W.heap.size := (by rw [hsW]; simp; omega); clear hW hbW hsW hoW cb5)
      refine (unwrap_any ⟨r.node, r.time, seq, 0, 0, 1, ((r.src + 1) % 16), life, 1, 6, [], R⟩ _ _ (RBlks.nil _ _) HFD.out).mono ?_
      unfold UnwPost RepPost
      rw [HU2.out]
      simp only
      unfold repV zRep
      simp only
      rintro e w6 ⟨rfl, hb6⟩
      have hB6 : Below w.heap.size w w6 := (by repeat' (first | (with_reducible refine bset ?_ ?_) | (with_reducible exact Below.refl _ _) | (with_reducible assumption) | (with_reducible refine bdrewN ?_ _) | (with_reducible refine bdrew ?_) | (with_reducible refine balloc0 ?_) | (with_reducible refine balloc ?_ ?_) | (with_reducible apply btrans0; rotate_left; with_reducible assumption) | (with_reducible apply btrans; rotate_left; with_reducible assumption) | exact Below.refl _ _ | assumption | (apply btrans0; rotate_left; assumption) | (apply btrans; rotate_left; assumption) | (simp; done) | omega | (simp; omega)))
      clear hb6
      go_wp2_with fail
      refine (awake_any _ (hT.stays (by repeat' (first | (with_reducible refine bset ?_ ?_) | (with_reducible exact Below.refl _ _) | (with_reducible assumption) | (with_reducible refine bdrewN ?_ _) | (with_reducible refine bdrew ?_) | (with_reducible refine balloc0 ?_) | (with_reducible refine balloc ?_ ?_) | (with_reducible apply btrans0; rotate_left; with_reducible assumption) | (with_reducible apply btrans; rotate_left; with_reducible assumption) | exact Below.refl _ _ | assumption | (apply btrans0; rotate_left; assumption) | (apply btrans; rotate_left; assumption) | (simp; done) | omega | (simp; omega))))).mono ?_
      rintro e w99 ⟨rfl, hb99⟩
      go_wp2
      go_ret
      exact ⟨rfl, (by repeat' (first | (with_reducible refine bset ?_ ?_) | (with_reducible exact Below.refl _ _) | (with_reducible assumption) | (with_reducible refine bdrewN ?_ _) | (with_reducible refine bdrew ?_) | (with_reducible refine balloc0 ?_) | (with_reducible refine balloc ?_ ?_) | (with_reducible apply btrans0; rotate_left; with_reducible assumption) | (with_reducible apply btrans; rotate_left; with_reducible assumption) | exact Below.refl _ _ | assumption | (apply btrans0; rotate_left; assumption) | (apply btrans; rotate_left; assumption) | (simp; done) | omega | (simp; omega)))⟩

set_option maxRecDepth 100000 in
theorem lifted (os : Os) (started : os.Started) (H : Type) (enc : TypeId × Value → H) :
    ReturnsInHanded {} Tryd.checked os 8 .any (fun w args => (Rows.reportWrapsSpec.pre enc Tryd.prog Tryd.f8 Rows.reportWrapsRow.domain false w args ∧ laidMetH Tryd.prog laid5 w) ∧ sizedMet enc Tryd.prog Tryd.f8 (OpenSpec.ofChange Rows.reportWrapsSpec) false w args)
      (Rows.reportWrapsSpec.post enc Tryd.prog Tryd.f8 false true false false) := by
  refine returnsInHanded_of_change_and (C := Tryd.checked) (X := fun w _ => laidMetH Tryd.prog laid5 w) (fun _ _ _ hh h => h.of_heap hh) own started (by kernel_rfl) Tryd.func8
    (ChangeSpec.witness_at (enc := enc) (C := Tryd.checked) (os := os) (X := fun w _ => laidMetH Tryd.prog laid5 w) false (laidWorld os) #[.agg #[.int .i64 0, .int .i64 0, .int .i64 0, .int .i64 0, .int .i64 0, .int .i64 0, .int .i64 0, .int .i64 0, .int .i64 0], .int .i64 0, .int .i64 0] 8 rfl (by kernel_rfl) (by kernel_rfl) (by kernel_rfl) (by kernel_rfl) (by kernel_rfl) (laid_met os _)) ?_
  intro W base args ds gs before hval0 hW hcnd _ hL _
  have hval : ∀ (j : Nat) t v, Tryd.f8.params[j]? = some t → args[j]? = some v → Value.okWide Tryd.prog W .any base t v := hval0
  have hW' := hW
  obtain ⟨p, q, hA0, hV, rfl, hfz, hnd⟩ := hW
  have hA : DataW.TrodAll enc Tryd.prog W 0 (fun _ => true) true Tryd.f8.params.toList args.toList ds p := hA0
  rw [Tryd.params8] at hA hval
  obtain ⟨v0, vs0, d0, ds0, p0, q0, hargs, rfl, rfl, h0, r0⟩ := trodAll_cons hA
  obtain ⟨v1, vs1, d1, ds1, p1, q1, rfl, rfl, rfl, h1, r1⟩ := trodAll_cons r0
  obtain ⟨v2, vs2, d2, ds2, p2, q2, rfl, rfl, rfl, h2, r2⟩ := trodAll_cons r1
  obtain ⟨rfl, rfl, rfl⟩ := trodAll_nil r2
  obtain rfl : args = #[v0, v1, v2] := by cases args; simp_all
  obtain ⟨x0, rfl⟩ := open_rep_arg (hval 0 25 v0 rfl rfl) h0
  obtain ⟨x1, rfl, _, _, wx1⟩ := open_int Tryd.underlying3 (hval 1 3 v1 rfl rfl) h1
  obtain ⟨x2, rfl, _, _, wx2⟩ := open_int Tryd.underlying3 (hval 2 3 v2 rfl rfl) h2
  refine (walk x0 x1 x2 W  (tabs_of_laid hL)).mono fun e W' ⟨he, hB⟩ => ?_
  subst he
  refine ⟨_, rfl, law_post (by kernel_rfl) (by kernel_rfl) rfl Tryd.underlying4 rfl ?_ hW' hB⟩
  intro es hes
  match es, hes with
  | [_, _, _], _ => rfl

theorem row : Rows.ReportWrapsSaid :=
  OpenClaim.holds_of_wide 8 Tryd.f8 rfl rfl rfl rfl rfl rfl rfl ⟨rfl, rfl, rfl, rfl, rfl⟩ rfl rfl rfl rfl rfl (by kernel_rfl) Tryd.func8 (by kernel_rfl)
    (of_decide_eq_true (by kernel_rfl)) (by unfold Func.isWrapper; first | (rw [if_pos (by decide +kernel)]; kernel_rfl) | (rw [if_neg (by decide +kernel)]; exact ⟨rfl, rfl⟩))
    (fun os started H enc _ => lifted os started H enc)
set_option maxRecDepth 100000 in
theorem proved : Rows.ReportWrapsCardSaid :=
  Claim7.holds_tied_plain_at .later [] [.data, .data, .data, .data, .data] true (true, "c3adbec164aad8dc57ec0e404f071e8c1abcc98f9f74296d1399b69f61a5471c") false
    row (fun _ h => by cases h) (by kernel_rfl) (fun _ h => by cases h) reportWraps_row_tie rfl ⟨rfl, rfl⟩ (by kernel_rfl) rfl
    (fun f fn hf hfn => by
      obtain rfl : f = 8 := Option.some.inj ((show Tryd.prog.funcNamed "mailboat/mailboatlaw20.ReportWraps" = some 8 by kernel_rfl).symm.trans hf) |>.symm
      obtain rfl : fn = Tryd.f8 := (Option.some.inj (Tryd.func8.symm.trans hfn)).symm
      exact ⟨by kernel_rfl, fun j t ht => by
        rw [Tryd.params8] at ht
        rcases j with _ | _ | _ | j
        · obtain rfl : 25 = t := by simpa using ht
          exact (by kernel_rfl)
        · obtain rfl : 3 = t := by simpa using ht
          exact (by kernel_rfl)
        · obtain rfl : 3 = t := by simpa using ht
          exact (by kernel_rfl)
        · simp at ht⟩)
    (by kernel_rfl)
#print axioms proved
end Go.Proofs.YtcmkpnjbnjbegaaDoor.reportWraps
