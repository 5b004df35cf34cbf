/-
  Proved: mailboatlaw14.ExtensionElse returns true for every input, and leaves its arguments as they were. No condition.
-/
import Derived.Test.YthgokfceakbjlaaRows
import Derived.Test.YthgokfceakbjlaaJa
import Derived.Test.YthgokfceakbjlaaJn
import Derived.Test.YthgokfceakbjlaaIl
import Derived.Test.YthgokfceakbjlaaIj
import Derived.Test.YthgokfceakbjlaaIb
import Derived.Test.YthgokfceakbjlaaIc
set_option linter.unusedVariables false
set_option linter.unusedSimpArgs false
namespace Go.Proofs.Ythgokfceakbjlaa.extensionElse
open Go Go.ChangeShapes Go.WideShapes Go.ChangeAt Go.RowKit Go.Joins Go.Proofs.Ythgokfceakbjlaa
attribute [local go_sem] B_getElem B_size B_app B_extract B_get B_toList

theorem own : ownKnob Try.prog.godebug = none := by kernel_rfl

attribute [local go_sem] bunC
theorem setAge_zero {b p : Bun} {x : Int} (h : setAgeS b x = (p, 0)) : chkE b = 0 ∧ 0 ≤ x ∧ x ≤ 1099511627776 ∧ setS b 1 (intE x) = (p, 0) := by
  unfold setAgeS at h
  split at h
  · simp at h
  · rename_i h1
    split at h
    · simp at h
    · rename_i h2; exact ⟨Decidable.not_not.1 h1, by omega, by omega, h⟩
theorem setHop_zero {b p : Bun} {x y : Int} (h : setHopS b x y = (p, 0)) : chkE b = 0 ∧ 1 ≤ x ∧ x ≤ 255 ∧ 0 ≤ y ∧ y ≤ x ∧ setS b 2 (intE x ++ intE y) = (p, 0) := by
  unfold setHopS at h
  split at h
  · simp at h
  · rename_i h1
    split at h
    · simp at h
    · rename_i h2; exact ⟨Decidable.not_not.1 h1, by omega, by omega, by omega, by omega, h⟩
theorem age_set {b p : Bun} {x : Int} (h : setAgeS b x = (p, 0)) : chkE p = 0 ∧ setAgeS p x = (p, 0) ∧ ageS p = (x, 0) := by
  obtain ⟨h1, h2, h3, h4⟩ := setAge_zero h
  obtain ⟨c, _, g, _⟩ := Stp.set h1 (by decide) (by decide) (len1 x) h4 (dat1_enc h2 h3)
  exact ⟨c, by rw [setAgeS_ok c h2 h3]; exact set_again h1 (by decide) (by decide) (len1 x) h4, ageS_eq g⟩
theorem hop_set {b p : Bun} {x y : Int} (h : setHopS b x y = (p, 0)) : chkE p = 0 ∧ setHopS p x y = (p, 0) ∧ hopS p = (x, y, 0) := by
  obtain ⟨h1, h2, h3, h4, h5, h6⟩ := setHop_zero h
  obtain ⟨c, _, g, _⟩ := Stp.set h1 (by decide) (by decide) (len2 x y) h6 (dat2_enc h2 h3 h4 h5)
  exact ⟨c, by rw [setHopS_ok c h2 h3 h4 h5]; exact set_again h1 (by decide) (by decide) (len2 x y) h6, hopS_eq g⟩
theorem set_both {b p q : Bun} {x l c : Int} (h : setAgeS b x = (p, 0)) (k : setHopS b l c = (q, 0)) : setHopS p l c = setAgeS q x := by
  obtain ⟨h1, h2, h3, h4⟩ := setAge_zero h
  obtain ⟨_, k2, k3, k4, k5, k6⟩ := setHop_zero k
  rw [setHopS_ok (age_set h).1 k2 k3 k4 k5, setAgeS_ok (hop_set k).1 h2 h3]
  exact set_comm h1 (by decide) (by decide) (by decide) (by decide) (by decide) (len1 x) (len2 l c) h4 k6
def restB (b : Bun) : Bun := { b with blocks := rest3 b.blocks }
theorem stp_rest {b p : Bun} {k : Int} {r : List Int × Int} (h : Stp b p k r) : chkE p = 0 ∧ restB p = restB b := by
  obtain ⟨h1, ⟨bl, rfl, h3⟩, _, _⟩ := h
  exact ⟨h1, by unfold restB; rw [h3]⟩
theorem visit_zero {b p : Bun} {n : Int} (h : visitS b n = (p, 0)) : ∃ r, Stp b p 3 r := by
  have hc : chkE b = 0 := by
    by_cases z : chkE b = 0
    · exact z
    · unfold visitS at h; rw [getS_bad z, if_pos rfl] at h; simp at h
  obtain ⟨⟨l, E⟩, hg⟩ : ∃ q, getS b 3 = q := ⟨_, rfl⟩
  unfold visitS at h
  rw [hg] at h
  simp only at h
  split at h
  · simp at h
  split at h
  · simp at h
  rename_i hn
  split at h
  · simp at h
  split at h
  · simp at h
  rename_i hk
  have hv := get3_vis hg
  have hn : nodeB n = true := by simpa using hn
  have hk : l.contains n = false := by simpa using hk
  exact ⟨_, Stp.set hc (by decide) (by decide) (vis_len hv) h (dat3_enc (visB_add hv hn hk))⟩
theorem else_age {b p : Bun} {x : Int} (h : setAgeS b x = (p, 0)) : chkE p = 0 ∧ restB p = restB b ∧ getS p 3 = getS b 3 ∧ chkE b = 0 := by
  obtain ⟨h1, h2, h3, h4⟩ := setAge_zero h
  have s := Stp.set h1 (by decide) (by decide) (len1 x) h4 (dat1_enc h2 h3)
  exact ⟨(stp_rest s).1, (stp_rest s).2, s.2.2.2 3 (by decide), h1⟩
theorem else_hop {b p : Bun} {x y : Int} (h : setHopS b x y = (p, 0)) : chkE p = 0 ∧ restB p = restB b ∧ chkE b = 0 := by
  obtain ⟨h1, h2, h3, h4, h5, h6⟩ := setHop_zero h
  have s := Stp.set h1 (by decide) (by decide) (len2 x y) h6 (dat2_enc h2 h3 h4 h5)
  exact ⟨(stp_rest s).1, (stp_rest s).2, h1⟩
theorem chk_of_visit {b p : Bun} {n : Int} (h : visitS b n = (p, 0)) : chkE b = 0 := by
  by_cases z : chkE b = 0
  · exact z
  · unfold visitS at h; rw [getS_bad z, if_pos rfl] at h; simp at h
theorem else_vis {b p : Bun} {n : Int} (h : visitS b n = (p, 0)) : chkE p = 0 ∧ restB p = restB b ∧ chkE b = 0 := by
  obtain ⟨r, s⟩ := visit_zero h
  exact ⟨(stp_rest s).1, (stp_rest s).2, chk_of_visit h⟩
theorem else_fwd {b p : Bun} {n el : Int} (h : fwdS b n el = (p, 0)) : chkE p = 0 ∧ restB p = restB b ∧ chkE b = 0 := by
  obtain ⟨h1, ⟨bl, rfl, h3⟩, _⟩ := fwd_facts h
  obtain ⟨h4, _⟩ := fwdS_ok h
  exact ⟨h1, by unfold restB; rw [h3], (fwdE_zero h4).1.1⟩
theorem blk_len {b : Bun} (h : chkE b = 0) : b.blocks.length ≤ 1000 := by have := (chkAll_iff.1 (chkE_chk h)).1; omega
theorem lawRestB_any (b : Bun) (u : Value) (w : World) (h : RBlks w w.heap.size u b.blocks) (hl : chkE b = 0) :
    Calls Try.prog 28 #[.agg (bunC b u).toArray] w (RestPost (restB b) w) := lawRest_any b u w h (blk_len hl)
set_option maxRecDepth 100000 in
set_option maxHeartbeats 16000000 in
theorem walk (b : Bun) (u : Value) (x y n : Int) (w : World) (hr : RBlks w w.heap.size u b.blocks) (hf : Fits b) :
    Calls Try.prog 6 #[.agg (bunC b u).toArray, .int .i64 x, .int .i64 y, .int .i64 n] w (Says w) := by
  obtain ⟨⟨P, PE⟩, hHP⟩ : ∃ q, setAgeS b x = q := ⟨_, rfl⟩
  have HP := Lib.hid hHP
  obtain ⟨⟨Q, QE⟩, hHQ⟩ : ∃ q, setHopS b x y = q := ⟨_, rfl⟩
  have HQ := Lib.hid hHQ
  obtain ⟨⟨V, VE⟩, hHVI⟩ : ∃ q, visitS b n = q := ⟨_, rfl⟩
  have HVI := Lib.hid hHVI
  obtain ⟨⟨S, SE⟩, hHS⟩ : ∃ q, fwdS b n x = q := ⟨_, rfl⟩
  have HS := Lib.hid hHS
  have HcP : Hid (PE = 0 → chkE P = 0 ∧ Fits P ∧ restB P = restB b ∧ chkE b = 0) := Lib.hid (fun z => by
    subst z
    have q := else_age hHP
    have f := fits_age (x := x) hf
    rw [hHP] at f
    exact ⟨q.1, f, q.2.1, q.2.2.2⟩)
  have HcQ : Hid (QE = 0 → chkE Q = 0 ∧ Fits Q ∧ restB Q = restB b ∧ chkE b = 0) := Lib.hid (fun z => by
    subst z
    have q := else_hop hHQ
    have f := fits_hop (x := x) (y := y) hf
    rw [hHQ] at f
    exact ⟨q.1, f, q.2.1, q.2.2⟩)
  have HcV : Hid (VE = 0 → chkE V = 0 ∧ Fits V ∧ restB V = restB b ∧ chkE b = 0) := Lib.hid (fun z => by
    subst z
    have q := else_vis hHVI
    have f := fits_vis (n := n) hf
    rw [hHVI] at f
    exact ⟨q.1, f, q.2.1, q.2.2⟩)
  have HcS : Hid (SE = 0 → chkE S = 0 ∧ Fits S ∧ restB S = restB b ∧ chkE b = 0) := Lib.hid (fun z => by
    subst z
    have q := else_fwd hHS
    exact ⟨q.1, fits_fwd hHS hf, q.2.1, q.2.2⟩)
  have HVS : Hid (PE = 0 → getS P 3 = getS b 3) := Lib.hid (fun z => by
    subst z
    exact (else_age hHP).2.2.1)
  obtain ⟨⟨lv, ev⟩, hg⟩ : ∃ q, getS b 3 = q := ⟨_, rfl⟩
  have HG := Lib.hid hg
  clear hHP hHQ hHVI hHS hg
  obtain ⟨ua, uc, rfl, _⟩ := id hr
  have HR := Lib.hid hr
  have HF := Lib.hid hf
  clear hr hf
  go_enter Try.func6, Try.ntmps6
  simp only [bunC]
  go_wp2_with fail
  refine (bgreat_any b _ _ (HR.out.below' (balloc0 (Below.refl _ _))) HF.out).mono ?_
  rintro e w1 ⟨g, rfl, hb1⟩
  have hB1 : Below w.heap.size w w1 := btrans0 (balloc0 (Below.refl _ _)) hb1
  have y1 := hb1.size
  (try simp at y1)
  have zb1 : w.heap.size < w1.heap.size := by omega
  have Ab : w1.heap[w.heap.size]? = some (.cells (bunC b (.slice ua b.blocks.length uc)).toArray 28 (0, 0)) := (hb1.block _ (by first | exact zb0 | (simp; done) | (simp; omega) | omega)).trans (by repeat (first | exact HAb.out | exact heap_new | exact heap_new' (by first | rfl | (simp; done)) | refine (Below.heap_alloc _ _ _ (by first | omega | (simp; done) | (simp; omega))).trans ?_))
  have cab := fun o => cellB Ab o
  have HAb := Lib.hid Ab
  simp only [bunC] at cab
  clear Ab
  clear hb1
  cases g
  case true =>
    go_wp2_with fail
    refine (awake_any _).mono ?_
    rintro e w99 ⟨rfl, hb99⟩
    go_wp2
    go_ret
    exact ⟨rfl, (by repeat' (first | with_reducible (first | refine bset ?_ ?_ | exact Below.refl _ _ | assumption | refine bdrewN ?_ _ | refine bdrew ?_ | refine balloc0 ?_ | refine balloc ?_ ?_ | (apply btrans0; rotate_left; assumption) | (apply btrans; rotate_left; assumption)) | exact Below.refl _ _ | assumption | (apply btrans0; rotate_left; assumption) | (apply btrans; rotate_left; assumption) | (simp; done) | omega | (simp; omega)))⟩
  go_wp2_with fail
  refine (setAge_any b _ x _ (HR.out.below' (hB1)) HF.out).mono ?_
  unfold BunPost
  rw [HP.out]
  simp only
  rintro e w2 ⟨v2, rfl, hv2, hrf, hb2⟩
  have hB2 : Below w.heap.size w w2 := btrans0 (hB1) hb2
  have y2 := hb2.size
  (try simp at y2)
  have zb2 : w.heap.size < w2.heap.size := by omega
  have Ab : w2.heap[w.heap.size]? = some (.cells (bunC b (.slice ua b.blocks.length uc)).toArray 28 (0, 0)) := (hb2.block _ (by first | exact zb1 | (simp; done) | (simp; omega) | omega)).trans (by repeat (first | exact HAb.out | exact heap_new | exact heap_new' (by first | rfl | (simp; done)) | refine (Below.heap_alloc _ _ _ (by first | omega | (simp; done) | (simp; omega))).trans ?_))
  clear cab HAb
  have cab := fun o => cellB Ab o
  have HAb := Lib.hid Ab
  simp only [bunC] at cab
  clear Ab
  obtain ⟨va2, vc2, rfl, _⟩ := id hv2
  have HV2 := Lib.hid hv2
  clear hv2 hrf
  clear hb2
  go_wp2_with fail
  refine (setHops_any b _ x y _ (HR.out.below' (balloc0 (hB2))) HF.out).mono ?_
  unfold BunPost
  rw [HQ.out]
  simp only
  rintro e w3 ⟨v3, rfl, hv3, hrf, hb3⟩
  have hB3 : Below w.heap.size w w3 := btrans0 (balloc0 (hB2)) hb3
  have hK2_3 : Below w2.heap.size w2 w3 := btrans0 (balloc0 (Below.refl _ _)) hb3
  have y3 := hb3.size
  (try simp at y3)
  have zb3 : w.heap.size < w3.heap.size := by omega
  have Ab : w3.heap[w.heap.size]? = some (.cells (bunC b (.slice ua b.blocks.length uc)).toArray 28 (0, 0)) := (hb3.block _ (by first | exact zb2 | (simp; done) | (simp; omega) | omega)).trans (by repeat (first | exact HAb.out | exact heap_new | exact heap_new' (by first | rfl | (simp; done)) | refine (Below.heap_alloc _ _ _ (by first | omega | (simp; done) | (simp; omega))).trans ?_))
  clear cab HAb
  have cab := fun o => cellB Ab o
  have HAb := Lib.hid Ab
  simp only [bunC] at cab
  clear Ab
  have zP3 : w2.heap.size < w3.heap.size := by omega
  have AP : w3.heap[w2.heap.size]? = some (.cells (bunC P (.slice va2 P.blocks.length vc2)).toArray 28 (0, 0)) := (hb3.block _ (by first | exact zP2 | (simp; done) | (simp; omega) | omega)).trans (by repeat (first | exact HAP.out | exact heap_new | exact heap_new' (by first | rfl | (simp; done)) | refine (Below.heap_alloc _ _ _ (by first | omega | (simp; done) | (simp; omega))).trans ?_))
  have caP := fun o => cellB AP o
  have HAP := Lib.hid AP
  simp only [bunC] at caP
  clear AP
  obtain ⟨va3, vc3, rfl, _⟩ := id hv3
  have HV3 := Lib.hid hv3
  clear hv3 hrf
  clear hb3
  go_wp2_with fail
  refine (visit_any b _ n _ (HR.out.below' (balloc0 (hB3))) HF.out).mono ?_
  unfold BunPost
  rw [HVI.out]
  simp only
  rintro e w4 ⟨v4, rfl, hv4, hrf, hb4⟩
  have hB4 : Below w.heap.size w w4 := btrans0 (balloc0 (hB3)) hb4
  have hK2_4 : Below w2.heap.size w2 w4 := btrans0 (balloc0 (hK2_3)) hb4
  have hK3_4 : Below w3.heap.size w3 w4 := btrans0 (balloc0 (Below.refl _ _)) hb4
  have y4 := hb4.size
  (try simp at y4)
  have zb4 : w.heap.size < w4.heap.size := by omega
  have Ab : w4.heap[w.heap.size]? = some (.cells (bunC b (.slice ua b.blocks.length uc)).toArray 28 (0, 0)) := (hb4.block _ (by first | exact zb3 | (simp; done) | (simp; omega) | omega)).trans (by repeat (first | exact HAb.out | exact heap_new | exact heap_new' (by first | rfl | (simp; done)) | refine (Below.heap_alloc _ _ _ (by first | omega | (simp; done) | (simp; omega))).trans ?_))
  clear cab HAb
  have cab := fun o => cellB Ab o
  have HAb := Lib.hid Ab
  simp only [bunC] at cab
  clear Ab
  have zP4 : w2.heap.size < w4.heap.size := by omega
  have AP : w4.heap[w2.heap.size]? = some (.cells (bunC P (.slice va2 P.blocks.length vc2)).toArray 28 (0, 0)) := (hb4.block _ (by first | exact zP3 | (simp; done) | (simp; omega) | omega)).trans (by repeat (first | exact HAP.out | exact heap_new | exact heap_new' (by first | rfl | (simp; done)) | refine (Below.heap_alloc _ _ _ (by first | omega | (simp; done) | (simp; omega))).trans ?_))
  clear caP HAP
  have caP := fun o => cellB AP o
  have HAP := Lib.hid AP
  simp only [bunC] at caP
  clear AP
  have zQ4 : w3.heap.size < w4.heap.size := by omega
  have AQ : w4.heap[w3.heap.size]? = some (.cells (bunC Q (.slice va3 Q.blocks.length vc3)).toArray 28 (0, 0)) := (hb4.block _ (by first | exact zQ3 | (simp; done) | (simp; omega) | omega)).trans (by repeat (first | exact HAQ.out | exact heap_new | exact heap_new' (by first | rfl | (simp; done)) | refine (Below.heap_alloc _ _ _ (by first | omega | (simp; done) | (simp; omega))).trans ?_))
  have caQ := fun o => cellB AQ o
  have HAQ := Lib.hid AQ
  simp only [bunC] at caQ
  clear AQ
  obtain ⟨va4, vc4, rfl, _⟩ := id hv4
  have HV4 := Lib.hid hv4
  clear hv4 hrf
  clear hb4
  go_wp2_with fail
  refine (forward_any b _ n x _ (HR.out.below' (balloc0 (hB4))) HF.out).mono ?_
  unfold FwdPost
  rw [HS.out]
  simp only
  rintro e w5 ⟨v5, rfl, hv5, hb5⟩
  have hB5 : Below w.heap.size w w5 := btrans0 (balloc0 (hB4)) hb5
  have hK2_5 : Below w2.heap.size w2 w5 := btrans0 (balloc0 (hK2_4)) hb5
  have hK3_5 : Below w3.heap.size w3 w5 := btrans0 (balloc0 (hK3_4)) hb5
  have hK4_5 : Below w4.heap.size w4 w5 := btrans0 (balloc0 (Below.refl _ _)) hb5
  have y5 := hb5.size
  (try simp at y5)
  have zb5 : w.heap.size < w5.heap.size := by omega
  have Ab : w5.heap[w.heap.size]? = some (.cells (bunC b (.slice ua b.blocks.length uc)).toArray 28 (0, 0)) := (hb5.block _ (by first | exact zb4 | (simp; done) | (simp; omega) | omega)).trans (by repeat (first | exact HAb.out | exact heap_new | exact heap_new' (by first | rfl | (simp; done)) | refine (Below.heap_alloc _ _ _ (by first | omega | (simp; done) | (simp; omega))).trans ?_))
  clear cab HAb
  have cab := fun o => cellB Ab o
  have HAb := Lib.hid Ab
  simp only [bunC] at cab
  clear Ab
  have zP5 : w2.heap.size < w5.heap.size := by omega
  have AP : w5.heap[w2.heap.size]? = some (.cells (bunC P (.slice va2 P.blocks.length vc2)).toArray 28 (0, 0)) := (hb5.block _ (by first | exact zP4 | (simp; done) | (simp; omega) | omega)).trans (by repeat (first | exact HAP.out | exact heap_new | exact heap_new' (by first | rfl | (simp; done)) | refine (Below.heap_alloc _ _ _ (by first | omega | (simp; done) | (simp; omega))).trans ?_))
  clear caP HAP
  have caP := fun o => cellB AP o
  have HAP := Lib.hid AP
  simp only [bunC] at caP
  clear AP
  have zQ5 : w3.heap.size < w5.heap.size := by omega
  have AQ : w5.heap[w3.heap.size]? = some (.cells (bunC Q (.slice va3 Q.blocks.length vc3)).toArray 28 (0, 0)) := (hb5.block _ (by first | exact zQ4 | (simp; done) | (simp; omega) | omega)).trans (by repeat (first | exact HAQ.out | exact heap_new | exact heap_new' (by first | rfl | (simp; done)) | refine (Below.heap_alloc _ _ _ (by first | omega | (simp; done) | (simp; omega))).trans ?_))
  clear caQ HAQ
  have caQ := fun o => cellB AQ o
  have HAQ := Lib.hid AQ
  simp only [bunC] at caQ
  clear AQ
  have zV5 : w4.heap.size < w5.heap.size := by omega
  have AV : w5.heap[w4.heap.size]? = some (.cells (bunC V (.slice va4 V.blocks.length vc4)).toArray 28 (0, 0)) := (hb5.block _ (by first | exact zV4 | (simp; done) | (simp; omega) | omega)).trans (by repeat (first | exact HAV.out | exact heap_new | exact heap_new' (by first | rfl | (simp; done)) | refine (Below.heap_alloc _ _ _ (by first | omega | (simp; done) | (simp; omega))).trans ?_))
  have caV := fun o => cellB AV o
  have HAV := Lib.hid AV
  simp only [bunC] at caV
  clear AV
  obtain ⟨va5, vc5, rfl, _⟩ := id hv5
  have HV5 := Lib.hid hv5
  clear hv5
  clear hb5
  go_wp2
  go_loopw [58] (fun i wr => ∃ k : Nat, k ≤ 4 ∧ i = .int .i64 k ∧ Hid (wr.heap[w5.heap.size + 1]? = some (.cells #[.int .i64 P.src, .int .i64 P.crt, .int .i64 P.seq, .int .i64 P.off, .int .i64 P.tot, .int .i64 P.dk, .int .i64 P.dn, .int .i64 P.life, .int .i64 P.prio, .int .i64 P.flags, .slice va2 P.blocks.length vc2, .string (B P.payload), .int .i64 Q.src, .int .i64 Q.crt, .int .i64 Q.seq, .int .i64 Q.off, .int .i64 Q.tot, .int .i64 Q.dk, .int .i64 Q.dn, .int .i64 Q.life, .int .i64 Q.prio, .int .i64 Q.flags, .slice va3 Q.blocks.length vc3, .string (B Q.payload), .int .i64 V.src, .int .i64 V.crt, .int .i64 V.seq, .int .i64 V.off, .int .i64 V.tot, .int .i64 V.dk, .int .i64 V.dn, .int .i64 V.life, .int .i64 V.prio, .int .i64 V.flags, .slice va4 V.blocks.length vc4, .string (B V.payload), .int .i64 S.src, .int .i64 S.crt, .int .i64 S.seq, .int .i64 S.off, .int .i64 S.tot, .int .i64 S.dk, .int .i64 S.dn, .int .i64 S.life, .int .i64 S.prio, .int .i64 S.flags, .slice va5 S.blocks.length vc5, .string (B S.payload)] 28 (0, 0))) ∧ Below w5.heap.size w5 wr) (fun i _ => 4 - (intOf i).toNat)
  case atStart => exact ⟨0, by omega, rfl, Lib.hid (by repeat (first | exact heap_new' (by first | rfl | (simp; done)) | refine (Below.heap_alloc _ _ _ (by first | (simp; done) | (simp; omega))).trans ?_)), (balloc0 (balloc0 (Below.refl _ _)))⟩
  case round =>
    obtain ⟨k, hk, rfl, HL, hbr⟩ := hrel
    have hBr : Below w.heap.size w wr := btrans0 hB5 hbr
    have zl : w5.heap.size + 1 < wr.heap.size := by
      rcases Nat.lt_or_ge (w5.heap.size + 1) wr.heap.size with z | z
      · exact z
      · have := HL.out; rw [Array.getElem?_eq_none z] at this; cases this
    have zb : w.heap.size < wr.heap.size := by omega
    have zp : w2.heap.size < wr.heap.size := by omega
    have HAb := Lib.hid ((hbr.block _ zb5).trans HAb.out)
    have HAP := Lib.hid ((hbr.block _ zP5).trans HAP.out)
    clear cab caP caQ caV HAQ HAV
    have cl := fun o => cellB HL.out o
    by_cases hk4 : k < 4
    · rcases (show k = 0 ∨ k = 1 ∨ k = 2 ∨ k = 3 by omega) with e | e | e | e <;> clear hk hk4
      · obtain rfl : k = 0 := by omega
        have HVr := Lib.hid (HV2.out.below' (btrans0 hK2_5 hbr))
        go_wp2
        have AC : (wr.alloc (.cells (bunC P (.slice va2 P.blocks.length vc2)).toArray 28)).heap[wr.heap.size]? = some (.cells (bunC P (.slice va2 P.blocks.length vc2)).toArray 28 (0, 0)) := heap_new
        have AB : (wr.alloc (.cells (bunC P (.slice va2 P.blocks.length vc2)).toArray 28)).heap[w.heap.size]? = _ := (Below.heap_alloc _ _ _ zb).trans HAb.out
        have AL : (wr.alloc (.cells (bunC P (.slice va2 P.blocks.length vc2)).toArray 28)).heap[w5.heap.size + 1]? = _ := (Below.heap_alloc _ _ _ zl).trans HL.out
        have B9 : Below w.heap.size w (wr.alloc (.cells (bunC P (.slice va2 P.blocks.length vc2)).toArray 28)) := balloc0 hBr
        have B5 : Below w5.heap.size w5 (wr.alloc (.cells (bunC P (.slice va2 P.blocks.length vc2)).toArray 28)) := balloc0 hbr
        have R9 := HVr.out.below' (balloc0 (o := .cells (bunC P (.slice va2 P.blocks.length vc2)).toArray 28) (Below.refl _ _))
        have zc : wr.heap.size < (wr.alloc (.cells (bunC P (.slice va2 P.blocks.length vc2)).toArray 28)).heap.size := by simp
        simp only [bunC] at AC AB AL B9 B5 R9 zc
        generalize wr.alloc (.cells _ _) = W9 at *
        have zb9 : w.heap.size < W9.heap.size := by omega
        have zl9 : w5.heap.size + 1 < W9.heap.size := by omega
        have HR9 := Lib.hid (HR.out.below' B9)
        have HX9 := Lib.hid R9
        have HL9 := Lib.hid AL
        have cb := fun o => cellB AB o
        have cc := fun o => cellB AC o
        clear AC AB AL R9 cl
        by_cases q : PE = 0
        · subst q
          obtain ⟨f1, f2, f3, f4⟩ := HcP.out rfl
          have HC1 := Lib.hid f1
          have HF1 := Lib.hid f2
          have HR1 := Lib.hid f3
          have HC2 := Lib.hid f4
          clear f1 f2 f3 f4
          refine wp_region_plan (fun V => Below (W9).heap.size (W9) V) [0, 0, 0, 0, 2, 0, 0, 2, 0, 0, 1, 2, 0, 0, 1, 2, 1, 3, 3, 0, 0, 0] [0, 1, 2, 3, 5, 4, 6, 7, 8, 9, 10, 11, 12, 13, 14, 16, 15, 17, 18, 19, 20, 21] (by kernel_rfl) (by kernel_rfl) ?_ ?_
          case refine_1 => exact (by repeat' (first | with_reducible (first | refine bset ?_ ?_ | exact Below.refl _ _ | assumption | refine bdrewN ?_ _ | refine bdrew ?_ | refine balloc0 ?_ | refine balloc ?_ ?_ | (apply btrans0; rotate_left; assumption) | (apply btrans; rotate_left; assumption)) | exact Below.refl _ _ | assumption | (apply btrans0; rotate_left; assumption) | (apply btrans; rotate_left; assumption) | (simp; done) | omega | (simp; omega)))
          (iterate 5 (first | (refine plan_held rfl (by decide) (by rfl) (fun w1 hS => by (try (obtain ⟨_, _⟩ := bcell (hS rfl))); go_simp; rfl) ?_; simp only [Act.put, List.setIfInBounds_toArray, List.set_cons_zero, List.set_cons_succ]) | (refine plan_skip rfl (by decide) (by rfl) ?_; simp only [Act.put, List.setIfInBounds_toArray, List.set_cons_zero, List.set_cons_succ])))
          (refine plan_keep rfl rfl (by rfl) (fun K hK => ?_); go_simp)
          (refine hK _ _ (by exact (by repeat' (first | with_reducible (first | refine bset ?_ ?_ | exact Below.refl _ _ | assumption | refine bdrewN ?_ _ | refine bdrew ?_ | refine balloc0 ?_ | refine balloc ?_ ?_ | (apply btrans0; rotate_left; assumption) | (apply btrans; rotate_left; assumption)) | exact Below.refl _ _ | assumption | (apply btrans0; rotate_left; assumption) | (apply btrans; rotate_left; assumption) | (simp; done) | omega | (simp; omega)))) ?_; clear hK K; (try simp only [Act.put, List.setIfInBounds_toArray, List.set_cons_zero, List.set_cons_succ]))
          (iterate 1 (first | (refine plan_held rfl (by decide) (by rfl) (fun w1 hS => by (try (obtain ⟨_, _⟩ := bcell (hS rfl))); go_simp; rfl) ?_; simp only [Act.put, List.setIfInBounds_toArray, List.set_cons_zero, List.set_cons_succ]) | (refine plan_skip rfl (by decide) (by rfl) ?_; simp only [Act.put, List.setIfInBounds_toArray, List.set_cons_zero, List.set_cons_succ])))
          (refine plan_keep rfl rfl (by rfl) (fun K hK => ?_); go_simp)
          (refine hK _ _ (by exact (by repeat' (first | with_reducible (first | refine bset ?_ ?_ | exact Below.refl _ _ | assumption | refine bdrewN ?_ _ | refine bdrew ?_ | refine balloc0 ?_ | refine balloc ?_ ?_ | (apply btrans0; rotate_left; assumption) | (apply btrans; rotate_left; assumption)) | exact Below.refl _ _ | assumption | (apply btrans0; rotate_left; assumption) | (apply btrans; rotate_left; assumption) | (simp; done) | omega | (simp; omega)))) ?_; clear hK K; (try simp only [Act.put, List.setIfInBounds_toArray, List.set_cons_zero, List.set_cons_succ]))
          (iterate 3 (first | (refine plan_held rfl (by decide) (by rfl) (fun w1 hS => by (try (obtain ⟨_, _⟩ := bcell (hS rfl))); go_simp; rfl) ?_; simp only [Act.put, List.setIfInBounds_toArray, List.set_cons_zero, List.set_cons_succ]) | (refine plan_skip rfl (by decide) (by rfl) ?_; simp only [Act.put, List.setIfInBounds_toArray, List.set_cons_zero, List.set_cons_succ])))
          (refine plan_keep rfl rfl (by rfl) (fun K hK => ?_); go_simp)
          refine (check_any P _ _ (HX9.out.below' (by repeat' (first | with_reducible (first | refine bset ?_ ?_ | exact Below.refl _ _ | assumption | refine bdrewN ?_ _ | refine bdrew ?_ | refine balloc0 ?_ | refine balloc ?_ ?_ | (apply btrans0; rotate_left; assumption) | (apply btrans; rotate_left; assumption)) | exact Below.refl _ _ | assumption | (apply btrans0; rotate_left; assumption) | (apply btrans; rotate_left; assumption) | (simp; done) | omega | (simp; omega)))) HF1.out).mono ?_
          rw [HC1.out]
          rintro e wc74 ⟨rfl, hbc74⟩
          (refine hK _ _ (by exact (by repeat' (first | with_reducible (first | refine bset ?_ ?_ | exact Below.refl _ _ | assumption | refine bdrewN ?_ _ | refine bdrew ?_ | refine balloc0 ?_ | refine balloc ?_ ?_ | (apply btrans0; rotate_left; assumption) | (apply btrans; rotate_left; assumption)) | exact Below.refl _ _ | assumption | (apply btrans0; rotate_left; assumption) | (apply btrans; rotate_left; assumption) | (simp; done) | omega | (simp; omega)))) ?_; clear hK K; (try simp only [Act.put, List.setIfInBounds_toArray, List.set_cons_zero, List.set_cons_succ]))
          (iterate 4 (first | (refine plan_held rfl (by decide) (by rfl) (fun w1 hS => by (try (obtain ⟨_, _⟩ := bcell (hS rfl))); go_simp; rfl) ?_; simp only [Act.put, List.setIfInBounds_toArray, List.set_cons_zero, List.set_cons_succ]) | (refine plan_skip rfl (by decide) (by rfl) ?_; simp only [Act.put, List.setIfInBounds_toArray, List.set_cons_zero, List.set_cons_succ])))
          (refine plan_keep rfl rfl (by rfl) (fun K hK => ?_); go_simp)
          refine (lawRestB_any P _ _ (HX9.out.below' (by repeat' (first | with_reducible (first | refine bset ?_ ?_ | exact Below.refl _ _ | assumption | refine bdrewN ?_ _ | refine bdrew ?_ | refine balloc0 ?_ | refine balloc ?_ ?_ | (apply btrans0; rotate_left; assumption) | (apply btrans; rotate_left; assumption)) | exact Below.refl _ _ | assumption | (apply btrans0; rotate_left; assumption) | (apply btrans; rotate_left; assumption) | (simp; done) | omega | (simp; omega)))) HC1.out).mono ?_
          unfold RestPost
          rw [HR1.out]
          rintro e wc78 ⟨ux, rfl, hrx, hbc78⟩
          have HRX := Lib.hid hrx
          clear hrx
          (refine hK _ _ (by exact (by repeat' (first | with_reducible (first | refine bset ?_ ?_ | exact Below.refl _ _ | assumption | refine bdrewN ?_ _ | refine bdrew ?_ | refine balloc0 ?_ | refine balloc ?_ ?_ | (apply btrans0; rotate_left; assumption) | (apply btrans; rotate_left; assumption)) | exact Below.refl _ _ | assumption | (apply btrans0; rotate_left; assumption) | (apply btrans; rotate_left; assumption) | (simp; done) | omega | (simp; omega)))) ?_; clear hK K; (try simp only [Act.put, List.setIfInBounds_toArray, List.set_cons_zero, List.set_cons_succ]))
          (refine plan_late rfl rfl (by rfl) (fun K hK => ?_); go_simp)
          refine (lawRestB_any b _ _ (HR9.out.below' (by repeat' (first | with_reducible (first | refine bset ?_ ?_ | exact Below.refl _ _ | assumption | refine bdrewN ?_ _ | refine bdrew ?_ | refine balloc0 ?_ | refine balloc ?_ ?_ | (apply btrans0; rotate_left; assumption) | (apply btrans; rotate_left; assumption)) | exact Below.refl _ _ | assumption | (apply btrans0; rotate_left; assumption) | (apply btrans; rotate_left; assumption) | (simp; done) | omega | (simp; omega)))) HC2.out).mono ?_
          unfold RestPost
          rintro e wc80 ⟨ub, rfl, hrb, hbc80⟩
          have HRB := Lib.hid hrb
          clear hrb
          (refine hK _ _ ?_; clear hK K; (try simp only [Act.put, List.setIfInBounds_toArray, List.set_cons_zero, List.set_cons_succ]))
          (refine plan_late rfl rfl (by rfl) (fun K hK => ?_); go_simp)
          refine (lsame_any (restB b) _ _ _ (HRX.out.below' (by repeat' (first | with_reducible (first | refine bset ?_ ?_ | exact Below.refl _ _ | assumption | refine bdrewN ?_ _ | refine bdrew ?_ | refine balloc0 ?_ | refine balloc ?_ ?_ | (apply btrans0; rotate_left; assumption) | (apply btrans; rotate_left; assumption)) | exact Below.refl _ _ | assumption | (apply btrans0; rotate_left; assumption) | (apply btrans; rotate_left; assumption) | (simp; done) | omega | (simp; omega)))) (HRB.out.below' (by repeat' (first | with_reducible (first | refine bset ?_ ?_ | exact Below.refl _ _ | assumption | refine bdrewN ?_ _ | refine bdrew ?_ | refine balloc0 ?_ | refine balloc ?_ ?_ | (apply btrans0; rotate_left; assumption) | (apply btrans; rotate_left; assumption)) | exact Below.refl _ _ | assumption | (apply btrans0; rotate_left; assumption) | (apply btrans; rotate_left; assumption) | (simp; done) | omega | (simp; omega))))).mono ?_
          rintro e wc81 ⟨rfl, hbc81⟩
          (refine hK _ _ ?_; clear hK K; (try simp only [Act.put, List.setIfInBounds_toArray, List.set_cons_zero, List.set_cons_succ]))
          (iterate 3 (first | (refine plan_held rfl (by decide) (by rfl) (fun w1 hS => by (try (obtain ⟨_, _⟩ := bcell (hS rfl))); go_simp; rfl) ?_; simp only [Act.put, List.setIfInBounds_toArray, List.set_cons_zero, List.set_cons_succ]) | (refine plan_skip rfl (by decide) (by rfl) ?_; simp only [Act.put, List.setIfInBounds_toArray, List.set_cons_zero, List.set_cons_succ])))
          refine plan_done ?_
          go_wp2
          go_roundw
          case rel => exact ⟨0 + 1, by omega, by go_num, Lib.hid ((Below.block (B := W9.heap.size) (w := W9) (by repeat' (first | with_reducible (first | refine bset ?_ ?_ | exact Below.refl _ _ | assumption | refine bdrewN ?_ _ | refine bdrew ?_ | refine balloc0 ?_ | refine balloc ?_ ?_ | (apply btrans0; rotate_left; assumption) | (apply btrans; rotate_left; assumption)) | exact Below.refl _ _ | assumption | (apply btrans0; rotate_left; assumption) | (apply btrans; rotate_left; assumption) | (simp; done) | omega | (simp; omega))) _ zl9).trans HL9.out), by clear hBr hB1 hB2 hB3 hB4 hB5 B9; exact (by repeat' (first | with_reducible (first | refine bset ?_ ?_ | exact Below.refl _ _ | assumption | refine bdrewN ?_ _ | refine bdrew ?_ | refine balloc0 ?_ | refine balloc ?_ ?_ | (apply btrans0; rotate_left; assumption) | (apply btrans; rotate_left; assumption)) | exact Below.refl _ _ | assumption | (apply btrans0; rotate_left; assumption) | (apply btrans; rotate_left; assumption) | (simp; done) | omega | (simp; omega)))⟩
          case measure => simp [intOf]
        · have q1 : (PE == 0) = false := beq_eq_false_iff_ne.2 q
          refine wp_region_plan (fun V => Below (W9).heap.size (W9) V) [0, 0, 0, 0, 2, 0, 0, 2, 0, 0, 1, 2, 0, 0, 1, 2, 1, 3, 3, 0, 0, 0] [0, 1, 2, 3, 5, 4, 6, 7, 8, 9, 10, 11, 12, 13, 14, 16, 15, 17, 18, 19, 20, 21] (by kernel_rfl) (by kernel_rfl) ?_ ?_
          case refine_1 => exact (by repeat' (first | with_reducible (first | refine bset ?_ ?_ | exact Below.refl _ _ | assumption | refine bdrewN ?_ _ | refine bdrew ?_ | refine balloc0 ?_ | refine balloc ?_ ?_ | (apply btrans0; rotate_left; assumption) | (apply btrans; rotate_left; assumption)) | exact Below.refl _ _ | assumption | (apply btrans0; rotate_left; assumption) | (apply btrans; rotate_left; assumption) | (simp; done) | omega | (simp; omega)))
          (iterate 5 (first | (refine plan_held rfl (by decide) (by rfl) (fun w1 hS => by (try (obtain ⟨_, _⟩ := bcell (hS rfl))); go_simp; rfl) ?_; simp only [Act.put, List.setIfInBounds_toArray, List.set_cons_zero, List.set_cons_succ]) | (refine plan_skip rfl (by decide) (by rfl) ?_; simp only [Act.put, List.setIfInBounds_toArray, List.set_cons_zero, List.set_cons_succ])))
          (refine plan_keep rfl rfl (by rfl) (fun K hK => ?_); go_simp)
          (refine hK _ _ (by exact (by repeat' (first | with_reducible (first | refine bset ?_ ?_ | exact Below.refl _ _ | assumption | refine bdrewN ?_ _ | refine bdrew ?_ | refine balloc0 ?_ | refine balloc ?_ ?_ | (apply btrans0; rotate_left; assumption) | (apply btrans; rotate_left; assumption)) | exact Below.refl _ _ | assumption | (apply btrans0; rotate_left; assumption) | (apply btrans; rotate_left; assumption) | (simp; done) | omega | (simp; omega)))) ?_; clear hK K; (try simp only [Act.put, List.setIfInBounds_toArray, List.set_cons_zero, List.set_cons_succ]))
          (iterate 1 (first | (refine plan_held rfl (by decide) (by rfl) (fun w1 hS => by (try (obtain ⟨_, _⟩ := bcell (hS rfl))); go_simp; rfl) ?_; simp only [Act.put, List.setIfInBounds_toArray, List.set_cons_zero, List.set_cons_succ]) | (refine plan_skip rfl (by decide) (by rfl) ?_; simp only [Act.put, List.setIfInBounds_toArray, List.set_cons_zero, List.set_cons_succ])))
          (refine plan_keep rfl rfl (by rfl) (fun K hK => ?_); go_simp)
          (refine hK _ _ (by exact (by repeat' (first | with_reducible (first | refine bset ?_ ?_ | exact Below.refl _ _ | assumption | refine bdrewN ?_ _ | refine bdrew ?_ | refine balloc0 ?_ | refine balloc ?_ ?_ | (apply btrans0; rotate_left; assumption) | (apply btrans; rotate_left; assumption)) | exact Below.refl _ _ | assumption | (apply btrans0; rotate_left; assumption) | (apply btrans; rotate_left; assumption) | (simp; done) | omega | (simp; omega)))) ?_; clear hK K; (try simp only [Act.put, List.setIfInBounds_toArray, List.set_cons_zero, List.set_cons_succ]))
          (iterate 3 (first | (refine plan_held rfl (by decide) (by rfl) (fun w1 hS => by (try (obtain ⟨_, _⟩ := bcell (hS rfl))); go_simp; rfl) ?_; simp only [Act.put, List.setIfInBounds_toArray, List.set_cons_zero, List.set_cons_succ]) | (refine plan_skip rfl (by decide) (by rfl) ?_; simp only [Act.put, List.setIfInBounds_toArray, List.set_cons_zero, List.set_cons_succ])))
          (refine plan_skipK rfl (by decide) (by rfl) (by repeat' (first | with_reducible (first | refine bset ?_ ?_ | exact Below.refl _ _ | assumption | refine bdrewN ?_ _ | refine bdrew ?_ | refine balloc0 ?_ | refine balloc ?_ ?_ | (apply btrans0; rotate_left; assumption) | (apply btrans; rotate_left; assumption)) | exact Below.refl _ _ | assumption | (apply btrans0; rotate_left; assumption) | (apply btrans; rotate_left; assumption) | (simp; done) | omega | (simp; omega))) ?_; simp only [Act.put, List.setIfInBounds_toArray, List.set_cons_zero, List.set_cons_succ])
          (iterate 4 (first | (refine plan_held rfl (by decide) (by rfl) (fun w1 hS => by (try (obtain ⟨_, _⟩ := bcell (hS rfl))); go_simp; rfl) ?_; simp only [Act.put, List.setIfInBounds_toArray, List.set_cons_zero, List.set_cons_succ]) | (refine plan_skip rfl (by decide) (by rfl) ?_; simp only [Act.put, List.setIfInBounds_toArray, List.set_cons_zero, List.set_cons_succ])))
          (refine plan_skipK rfl (by decide) (by rfl) (by repeat' (first | with_reducible (first | refine bset ?_ ?_ | exact Below.refl _ _ | assumption | refine bdrewN ?_ _ | refine bdrew ?_ | refine balloc0 ?_ | refine balloc ?_ ?_ | (apply btrans0; rotate_left; assumption) | (apply btrans; rotate_left; assumption)) | exact Below.refl _ _ | assumption | (apply btrans0; rotate_left; assumption) | (apply btrans; rotate_left; assumption) | (simp; done) | omega | (simp; omega))) ?_; simp only [Act.put, List.setIfInBounds_toArray, List.set_cons_zero, List.set_cons_succ])
          (refine plan_skipL rfl (by decide) (by rfl) ?_; simp only [Act.put, List.setIfInBounds_toArray, List.set_cons_zero, List.set_cons_succ])
          (refine plan_skipL rfl (by decide) (by rfl) ?_; simp only [Act.put, List.setIfInBounds_toArray, List.set_cons_zero, List.set_cons_succ])
          (iterate 3 (first | (refine plan_held rfl (by decide) (by rfl) (fun w1 hS => by (try (obtain ⟨_, _⟩ := bcell (hS rfl))); go_simp; rfl) ?_; simp only [Act.put, List.setIfInBounds_toArray, List.set_cons_zero, List.set_cons_succ]) | (refine plan_skip rfl (by decide) (by rfl) ?_; simp only [Act.put, List.setIfInBounds_toArray, List.set_cons_zero, List.set_cons_succ])))
          refine plan_done ?_
          go_wp2
          go_roundw
          case rel => exact ⟨0 + 1, by omega, by go_num, Lib.hid ((Below.block (B := W9.heap.size) (w := W9) (by repeat' (first | with_reducible (first | refine bset ?_ ?_ | exact Below.refl _ _ | assumption | refine bdrewN ?_ _ | refine bdrew ?_ | refine balloc0 ?_ | refine balloc ?_ ?_ | (apply btrans0; rotate_left; assumption) | (apply btrans; rotate_left; assumption)) | exact Below.refl _ _ | assumption | (apply btrans0; rotate_left; assumption) | (apply btrans; rotate_left; assumption) | (simp; done) | omega | (simp; omega))) _ zl9).trans HL9.out), by clear hBr hB1 hB2 hB3 hB4 hB5 B9; exact (by repeat' (first | with_reducible (first | refine bset ?_ ?_ | exact Below.refl _ _ | assumption | refine bdrewN ?_ _ | refine bdrew ?_ | refine balloc0 ?_ | refine balloc ?_ ?_ | (apply btrans0; rotate_left; assumption) | (apply btrans; rotate_left; assumption)) | exact Below.refl _ _ | assumption | (apply btrans0; rotate_left; assumption) | (apply btrans; rotate_left; assumption) | (simp; done) | omega | (simp; omega)))⟩
          case measure => simp [intOf]
      · obtain rfl : k = 1 := by omega
        have HVr := Lib.hid (HV3.out.below' (btrans0 hK3_5 hbr))
        go_wp2
        have AC : (wr.alloc (.cells (bunC Q (.slice va3 Q.blocks.length vc3)).toArray 28)).heap[wr.heap.size]? = some (.cells (bunC Q (.slice va3 Q.blocks.length vc3)).toArray 28 (0, 0)) := heap_new
        have AB : (wr.alloc (.cells (bunC Q (.slice va3 Q.blocks.length vc3)).toArray 28)).heap[w.heap.size]? = _ := (Below.heap_alloc _ _ _ zb).trans HAb.out
        have AL : (wr.alloc (.cells (bunC Q (.slice va3 Q.blocks.length vc3)).toArray 28)).heap[w5.heap.size + 1]? = _ := (Below.heap_alloc _ _ _ zl).trans HL.out
        have B9 : Below w.heap.size w (wr.alloc (.cells (bunC Q (.slice va3 Q.blocks.length vc3)).toArray 28)) := balloc0 hBr
        have B5 : Below w5.heap.size w5 (wr.alloc (.cells (bunC Q (.slice va3 Q.blocks.length vc3)).toArray 28)) := balloc0 hbr
        have R9 := HVr.out.below' (balloc0 (o := .cells (bunC Q (.slice va3 Q.blocks.length vc3)).toArray 28) (Below.refl _ _))
        have zc : wr.heap.size < (wr.alloc (.cells (bunC Q (.slice va3 Q.blocks.length vc3)).toArray 28)).heap.size := by simp
        simp only [bunC] at AC AB AL B9 B5 R9 zc
        generalize wr.alloc (.cells _ _) = W9 at *
        have zb9 : w.heap.size < W9.heap.size := by omega
        have zl9 : w5.heap.size + 1 < W9.heap.size := by omega
        have HR9 := Lib.hid (HR.out.below' B9)
        have HX9 := Lib.hid R9
        have HL9 := Lib.hid AL
        have cb := fun o => cellB AB o
        have cc := fun o => cellB AC o
        clear AC AB AL R9 cl
        by_cases q : QE = 0
        · subst q
          obtain ⟨f1, f2, f3, f4⟩ := HcQ.out rfl
          have HC1 := Lib.hid f1
          have HF1 := Lib.hid f2
          have HR1 := Lib.hid f3
          have HC2 := Lib.hid f4
          clear f1 f2 f3 f4
          refine wp_region_plan (fun V => Below (W9).heap.size (W9) V) [0, 0, 0, 0, 2, 0, 0, 2, 0, 0, 1, 2, 0, 0, 1, 2, 1, 3, 3, 0, 0, 0] [0, 1, 2, 3, 5, 4, 6, 7, 8, 9, 10, 11, 12, 13, 14, 16, 15, 17, 18, 19, 20, 21] (by kernel_rfl) (by kernel_rfl) ?_ ?_
          case refine_1 => exact (by repeat' (first | with_reducible (first | refine bset ?_ ?_ | exact Below.refl _ _ | assumption | refine bdrewN ?_ _ | refine bdrew ?_ | refine balloc0 ?_ | refine balloc ?_ ?_ | (apply btrans0; rotate_left; assumption) | (apply btrans; rotate_left; assumption)) | exact Below.refl _ _ | assumption | (apply btrans0; rotate_left; assumption) | (apply btrans; rotate_left; assumption) | (simp; done) | omega | (simp; omega)))
          (iterate 5 (first | (refine plan_held rfl (by decide) (by rfl) (fun w1 hS => by (try (obtain ⟨_, _⟩ := bcell (hS rfl))); go_simp; rfl) ?_; simp only [Act.put, List.setIfInBounds_toArray, List.set_cons_zero, List.set_cons_succ]) | (refine plan_skip rfl (by decide) (by rfl) ?_; simp only [Act.put, List.setIfInBounds_toArray, List.set_cons_zero, List.set_cons_succ])))
          (refine plan_keep rfl rfl (by rfl) (fun K hK => ?_); go_simp)
          (refine hK _ _ (by exact (by repeat' (first | with_reducible (first | refine bset ?_ ?_ | exact Below.refl _ _ | assumption | refine bdrewN ?_ _ | refine bdrew ?_ | refine balloc0 ?_ | refine balloc ?_ ?_ | (apply btrans0; rotate_left; assumption) | (apply btrans; rotate_left; assumption)) | exact Below.refl _ _ | assumption | (apply btrans0; rotate_left; assumption) | (apply btrans; rotate_left; assumption) | (simp; done) | omega | (simp; omega)))) ?_; clear hK K; (try simp only [Act.put, List.setIfInBounds_toArray, List.set_cons_zero, List.set_cons_succ]))
          (iterate 1 (first | (refine plan_held rfl (by decide) (by rfl) (fun w1 hS => by (try (obtain ⟨_, _⟩ := bcell (hS rfl))); go_simp; rfl) ?_; simp only [Act.put, List.setIfInBounds_toArray, List.set_cons_zero, List.set_cons_succ]) | (refine plan_skip rfl (by decide) (by rfl) ?_; simp only [Act.put, List.setIfInBounds_toArray, List.set_cons_zero, List.set_cons_succ])))
          (refine plan_keep rfl rfl (by rfl) (fun K hK => ?_); go_simp)
          (refine hK _ _ (by exact (by repeat' (first | with_reducible (first | refine bset ?_ ?_ | exact Below.refl _ _ | assumption | refine bdrewN ?_ _ | refine bdrew ?_ | refine balloc0 ?_ | refine balloc ?_ ?_ | (apply btrans0; rotate_left; assumption) | (apply btrans; rotate_left; assumption)) | exact Below.refl _ _ | assumption | (apply btrans0; rotate_left; assumption) | (apply btrans; rotate_left; assumption) | (simp; done) | omega | (simp; omega)))) ?_; clear hK K; (try simp only [Act.put, List.setIfInBounds_toArray, List.set_cons_zero, List.set_cons_succ]))
          (iterate 3 (first | (refine plan_held rfl (by decide) (by rfl) (fun w1 hS => by (try (obtain ⟨_, _⟩ := bcell (hS rfl))); go_simp; rfl) ?_; simp only [Act.put, List.setIfInBounds_toArray, List.set_cons_zero, List.set_cons_succ]) | (refine plan_skip rfl (by decide) (by rfl) ?_; simp only [Act.put, List.setIfInBounds_toArray, List.set_cons_zero, List.set_cons_succ])))
          (refine plan_keep rfl rfl (by rfl) (fun K hK => ?_); go_simp)
          refine (check_any Q _ _ (HX9.out.below' (by repeat' (first | with_reducible (first | refine bset ?_ ?_ | exact Below.refl _ _ | assumption | refine bdrewN ?_ _ | refine bdrew ?_ | refine balloc0 ?_ | refine balloc ?_ ?_ | (apply btrans0; rotate_left; assumption) | (apply btrans; rotate_left; assumption)) | exact Below.refl _ _ | assumption | (apply btrans0; rotate_left; assumption) | (apply btrans; rotate_left; assumption) | (simp; done) | omega | (simp; omega)))) HF1.out).mono ?_
          rw [HC1.out]
          rintro e wc74 ⟨rfl, hbc74⟩
          (refine hK _ _ (by exact (by repeat' (first | with_reducible (first | refine bset ?_ ?_ | exact Below.refl _ _ | assumption | refine bdrewN ?_ _ | refine bdrew ?_ | refine balloc0 ?_ | refine balloc ?_ ?_ | (apply btrans0; rotate_left; assumption) | (apply btrans; rotate_left; assumption)) | exact Below.refl _ _ | assumption | (apply btrans0; rotate_left; assumption) | (apply btrans; rotate_left; assumption) | (simp; done) | omega | (simp; omega)))) ?_; clear hK K; (try simp only [Act.put, List.setIfInBounds_toArray, List.set_cons_zero, List.set_cons_succ]))
          (iterate 4 (first | (refine plan_held rfl (by decide) (by rfl) (fun w1 hS => by (try (obtain ⟨_, _⟩ := bcell (hS rfl))); go_simp; rfl) ?_; simp only [Act.put, List.setIfInBounds_toArray, List.set_cons_zero, List.set_cons_succ]) | (refine plan_skip rfl (by decide) (by rfl) ?_; simp only [Act.put, List.setIfInBounds_toArray, List.set_cons_zero, List.set_cons_succ])))
          (refine plan_keep rfl rfl (by rfl) (fun K hK => ?_); go_simp)
          refine (lawRestB_any Q _ _ (HX9.out.below' (by repeat' (first | with_reducible (first | refine bset ?_ ?_ | exact Below.refl _ _ | assumption | refine bdrewN ?_ _ | refine bdrew ?_ | refine balloc0 ?_ | refine balloc ?_ ?_ | (apply btrans0; rotate_left; assumption) | (apply btrans; rotate_left; assumption)) | exact Below.refl _ _ | assumption | (apply btrans0; rotate_left; assumption) | (apply btrans; rotate_left; assumption) | (simp; done) | omega | (simp; omega)))) HC1.out).mono ?_
          unfold RestPost
          rw [HR1.out]
          rintro e wc78 ⟨ux, rfl, hrx, hbc78⟩
          have HRX := Lib.hid hrx
          clear hrx
          (refine hK _ _ (by exact (by repeat' (first | with_reducible (first | refine bset ?_ ?_ | exact Below.refl _ _ | assumption | refine bdrewN ?_ _ | refine bdrew ?_ | refine balloc0 ?_ | refine balloc ?_ ?_ | (apply btrans0; rotate_left; assumption) | (apply btrans; rotate_left; assumption)) | exact Below.refl _ _ | assumption | (apply btrans0; rotate_left; assumption) | (apply btrans; rotate_left; assumption) | (simp; done) | omega | (simp; omega)))) ?_; clear hK K; (try simp only [Act.put, List.setIfInBounds_toArray, List.set_cons_zero, List.set_cons_succ]))
          (refine plan_late rfl rfl (by rfl) (fun K hK => ?_); go_simp)
          refine (lawRestB_any b _ _ (HR9.out.below' (by repeat' (first | with_reducible (first | refine bset ?_ ?_ | exact Below.refl _ _ | assumption | refine bdrewN ?_ _ | refine bdrew ?_ | refine balloc0 ?_ | refine balloc ?_ ?_ | (apply btrans0; rotate_left; assumption) | (apply btrans; rotate_left; assumption)) | exact Below.refl _ _ | assumption | (apply btrans0; rotate_left; assumption) | (apply btrans; rotate_left; assumption) | (simp; done) | omega | (simp; omega)))) HC2.out).mono ?_
          unfold RestPost
          rintro e wc80 ⟨ub, rfl, hrb, hbc80⟩
          have HRB := Lib.hid hrb
          clear hrb
          (refine hK _ _ ?_; clear hK K; (try simp only [Act.put, List.setIfInBounds_toArray, List.set_cons_zero, List.set_cons_succ]))
          (refine plan_late rfl rfl (by rfl) (fun K hK => ?_); go_simp)
          refine (lsame_any (restB b) _ _ _ (HRX.out.below' (by repeat' (first | with_reducible (first | refine bset ?_ ?_ | exact Below.refl _ _ | assumption | refine bdrewN ?_ _ | refine bdrew ?_ | refine balloc0 ?_ | refine balloc ?_ ?_ | (apply btrans0; rotate_left; assumption) | (apply btrans; rotate_left; assumption)) | exact Below.refl _ _ | assumption | (apply btrans0; rotate_left; assumption) | (apply btrans; rotate_left; assumption) | (simp; done) | omega | (simp; omega)))) (HRB.out.below' (by repeat' (first | with_reducible (first | refine bset ?_ ?_ | exact Below.refl _ _ | assumption | refine bdrewN ?_ _ | refine bdrew ?_ | refine balloc0 ?_ | refine balloc ?_ ?_ | (apply btrans0; rotate_left; assumption) | (apply btrans; rotate_left; assumption)) | exact Below.refl _ _ | assumption | (apply btrans0; rotate_left; assumption) | (apply btrans; rotate_left; assumption) | (simp; done) | omega | (simp; omega))))).mono ?_
          rintro e wc81 ⟨rfl, hbc81⟩
          (refine hK _ _ ?_; clear hK K; (try simp only [Act.put, List.setIfInBounds_toArray, List.set_cons_zero, List.set_cons_succ]))
          (iterate 3 (first | (refine plan_held rfl (by decide) (by rfl) (fun w1 hS => by (try (obtain ⟨_, _⟩ := bcell (hS rfl))); go_simp; rfl) ?_; simp only [Act.put, List.setIfInBounds_toArray, List.set_cons_zero, List.set_cons_succ]) | (refine plan_skip rfl (by decide) (by rfl) ?_; simp only [Act.put, List.setIfInBounds_toArray, List.set_cons_zero, List.set_cons_succ])))
          refine plan_done ?_
          go_wp2
          go_roundw
          case rel => exact ⟨1 + 1, by omega, by go_num, Lib.hid ((Below.block (B := W9.heap.size) (w := W9) (by repeat' (first | with_reducible (first | refine bset ?_ ?_ | exact Below.refl _ _ | assumption | refine bdrewN ?_ _ | refine bdrew ?_ | refine balloc0 ?_ | refine balloc ?_ ?_ | (apply btrans0; rotate_left; assumption) | (apply btrans; rotate_left; assumption)) | exact Below.refl _ _ | assumption | (apply btrans0; rotate_left; assumption) | (apply btrans; rotate_left; assumption) | (simp; done) | omega | (simp; omega))) _ zl9).trans HL9.out), by clear hBr hB1 hB2 hB3 hB4 hB5 B9; exact (by repeat' (first | with_reducible (first | refine bset ?_ ?_ | exact Below.refl _ _ | assumption | refine bdrewN ?_ _ | refine bdrew ?_ | refine balloc0 ?_ | refine balloc ?_ ?_ | (apply btrans0; rotate_left; assumption) | (apply btrans; rotate_left; assumption)) | exact Below.refl _ _ | assumption | (apply btrans0; rotate_left; assumption) | (apply btrans; rotate_left; assumption) | (simp; done) | omega | (simp; omega)))⟩
          case measure => simp [intOf]
        · have q1 : (QE == 0) = false := beq_eq_false_iff_ne.2 q
          refine wp_region_plan (fun V => Below (W9).heap.size (W9) V) [0, 0, 0, 0, 2, 0, 0, 2, 0, 0, 1, 2, 0, 0, 1, 2, 1, 3, 3, 0, 0, 0] [0, 1, 2, 3, 5, 4, 6, 7, 8, 9, 10, 11, 12, 13, 14, 16, 15, 17, 18, 19, 20, 21] (by kernel_rfl) (by kernel_rfl) ?_ ?_
          case refine_1 => exact (by repeat' (first | with_reducible (first | refine bset ?_ ?_ | exact Below.refl _ _ | assumption | refine bdrewN ?_ _ | refine bdrew ?_ | refine balloc0 ?_ | refine balloc ?_ ?_ | (apply btrans0; rotate_left; assumption) | (apply btrans; rotate_left; assumption)) | exact Below.refl _ _ | assumption | (apply btrans0; rotate_left; assumption) | (apply btrans; rotate_left; assumption) | (simp; done) | omega | (simp; omega)))
          (iterate 5 (first | (refine plan_held rfl (by decide) (by rfl) (fun w1 hS => by (try (obtain ⟨_, _⟩ := bcell (hS rfl))); go_simp; rfl) ?_; simp only [Act.put, List.setIfInBounds_toArray, List.set_cons_zero, List.set_cons_succ]) | (refine plan_skip rfl (by decide) (by rfl) ?_; simp only [Act.put, List.setIfInBounds_toArray, List.set_cons_zero, List.set_cons_succ])))
          (refine plan_keep rfl rfl (by rfl) (fun K hK => ?_); go_simp)
          (refine hK _ _ (by exact (by repeat' (first | with_reducible (first | refine bset ?_ ?_ | exact Below.refl _ _ | assumption | refine bdrewN ?_ _ | refine bdrew ?_ | refine balloc0 ?_ | refine balloc ?_ ?_ | (apply btrans0; rotate_left; assumption) | (apply btrans; rotate_left; assumption)) | exact Below.refl _ _ | assumption | (apply btrans0; rotate_left; assumption) | (apply btrans; rotate_left; assumption) | (simp; done) | omega | (simp; omega)))) ?_; clear hK K; (try simp only [Act.put, List.setIfInBounds_toArray, List.set_cons_zero, List.set_cons_succ]))
          (iterate 1 (first | (refine plan_held rfl (by decide) (by rfl) (fun w1 hS => by (try (obtain ⟨_, _⟩ := bcell (hS rfl))); go_simp; rfl) ?_; simp only [Act.put, List.setIfInBounds_toArray, List.set_cons_zero, List.set_cons_succ]) | (refine plan_skip rfl (by decide) (by rfl) ?_; simp only [Act.put, List.setIfInBounds_toArray, List.set_cons_zero, List.set_cons_succ])))
          (refine plan_keep rfl rfl (by rfl) (fun K hK => ?_); go_simp)
          (refine hK _ _ (by exact (by repeat' (first | with_reducible (first | refine bset ?_ ?_ | exact Below.refl _ _ | assumption | refine bdrewN ?_ _ | refine bdrew ?_ | refine balloc0 ?_ | refine balloc ?_ ?_ | (apply btrans0; rotate_left; assumption) | (apply btrans; rotate_left; assumption)) | exact Below.refl _ _ | assumption | (apply btrans0; rotate_left; assumption) | (apply btrans; rotate_left; assumption) | (simp; done) | omega | (simp; omega)))) ?_; clear hK K; (try simp only [Act.put, List.setIfInBounds_toArray, List.set_cons_zero, List.set_cons_succ]))
          (iterate 3 (first | (refine plan_held rfl (by decide) (by rfl) (fun w1 hS => by (try (obtain ⟨_, _⟩ := bcell (hS rfl))); go_simp; rfl) ?_; simp only [Act.put, List.setIfInBounds_toArray, List.set_cons_zero, List.set_cons_succ]) | (refine plan_skip rfl (by decide) (by rfl) ?_; simp only [Act.put, List.setIfInBounds_toArray, List.set_cons_zero, List.set_cons_succ])))
          (refine plan_skipK rfl (by decide) (by rfl) (by repeat' (first | with_reducible (first | refine bset ?_ ?_ | exact Below.refl _ _ | assumption | refine bdrewN ?_ _ | refine bdrew ?_ | refine balloc0 ?_ | refine balloc ?_ ?_ | (apply btrans0; rotate_left; assumption) | (apply btrans; rotate_left; assumption)) | exact Below.refl _ _ | assumption | (apply btrans0; rotate_left; assumption) | (apply btrans; rotate_left; assumption) | (simp; done) | omega | (simp; omega))) ?_; simp only [Act.put, List.setIfInBounds_toArray, List.set_cons_zero, List.set_cons_succ])
          (iterate 4 (first | (refine plan_held rfl (by decide) (by rfl) (fun w1 hS => by (try (obtain ⟨_, _⟩ := bcell (hS rfl))); go_simp; rfl) ?_; simp only [Act.put, List.setIfInBounds_toArray, List.set_cons_zero, List.set_cons_succ]) | (refine plan_skip rfl (by decide) (by rfl) ?_; simp only [Act.put, List.setIfInBounds_toArray, List.set_cons_zero, List.set_cons_succ])))
          (refine plan_skipK rfl (by decide) (by rfl) (by repeat' (first | with_reducible (first | refine bset ?_ ?_ | exact Below.refl _ _ | assumption | refine bdrewN ?_ _ | refine bdrew ?_ | refine balloc0 ?_ | refine balloc ?_ ?_ | (apply btrans0; rotate_left; assumption) | (apply btrans; rotate_left; assumption)) | exact Below.refl _ _ | assumption | (apply btrans0; rotate_left; assumption) | (apply btrans; rotate_left; assumption) | (simp; done) | omega | (simp; omega))) ?_; simp only [Act.put, List.setIfInBounds_toArray, List.set_cons_zero, List.set_cons_succ])
          (refine plan_skipL rfl (by decide) (by rfl) ?_; simp only [Act.put, List.setIfInBounds_toArray, List.set_cons_zero, List.set_cons_succ])
          (refine plan_skipL rfl (by decide) (by rfl) ?_; simp only [Act.put, List.setIfInBounds_toArray, List.set_cons_zero, List.set_cons_succ])
          (iterate 3 (first | (refine plan_held rfl (by decide) (by rfl) (fun w1 hS => by (try (obtain ⟨_, _⟩ := bcell (hS rfl))); go_simp; rfl) ?_; simp only [Act.put, List.setIfInBounds_toArray, List.set_cons_zero, List.set_cons_succ]) | (refine plan_skip rfl (by decide) (by rfl) ?_; simp only [Act.put, List.setIfInBounds_toArray, List.set_cons_zero, List.set_cons_succ])))
          refine plan_done ?_
          go_wp2
          go_roundw
          case rel => exact ⟨1 + 1, by omega, by go_num, Lib.hid ((Below.block (B := W9.heap.size) (w := W9) (by repeat' (first | with_reducible (first | refine bset ?_ ?_ | exact Below.refl _ _ | assumption | refine bdrewN ?_ _ | refine bdrew ?_ | refine balloc0 ?_ | refine balloc ?_ ?_ | (apply btrans0; rotate_left; assumption) | (apply btrans; rotate_left; assumption)) | exact Below.refl _ _ | assumption | (apply btrans0; rotate_left; assumption) | (apply btrans; rotate_left; assumption) | (simp; done) | omega | (simp; omega))) _ zl9).trans HL9.out), by clear hBr hB1 hB2 hB3 hB4 hB5 B9; exact (by repeat' (first | with_reducible (first | refine bset ?_ ?_ | exact Below.refl _ _ | assumption | refine bdrewN ?_ _ | refine bdrew ?_ | refine balloc0 ?_ | refine balloc ?_ ?_ | (apply btrans0; rotate_left; assumption) | (apply btrans; rotate_left; assumption)) | exact Below.refl _ _ | assumption | (apply btrans0; rotate_left; assumption) | (apply btrans; rotate_left; assumption) | (simp; done) | omega | (simp; omega)))⟩
          case measure => simp [intOf]
      · obtain rfl : k = 2 := by omega
        have HVr := Lib.hid (HV4.out.below' (btrans0 hK4_5 hbr))
        go_wp2
        have AC : (wr.alloc (.cells (bunC V (.slice va4 V.blocks.length vc4)).toArray 28)).heap[wr.heap.size]? = some (.cells (bunC V (.slice va4 V.blocks.length vc4)).toArray 28 (0, 0)) := heap_new
        have AB : (wr.alloc (.cells (bunC V (.slice va4 V.blocks.length vc4)).toArray 28)).heap[w.heap.size]? = _ := (Below.heap_alloc _ _ _ zb).trans HAb.out
        have AL : (wr.alloc (.cells (bunC V (.slice va4 V.blocks.length vc4)).toArray 28)).heap[w5.heap.size + 1]? = _ := (Below.heap_alloc _ _ _ zl).trans HL.out
        have B9 : Below w.heap.size w (wr.alloc (.cells (bunC V (.slice va4 V.blocks.length vc4)).toArray 28)) := balloc0 hBr
        have B5 : Below w5.heap.size w5 (wr.alloc (.cells (bunC V (.slice va4 V.blocks.length vc4)).toArray 28)) := balloc0 hbr
        have R9 := HVr.out.below' (balloc0 (o := .cells (bunC V (.slice va4 V.blocks.length vc4)).toArray 28) (Below.refl _ _))
        have zc : wr.heap.size < (wr.alloc (.cells (bunC V (.slice va4 V.blocks.length vc4)).toArray 28)).heap.size := by simp
        simp only [bunC] at AC AB AL B9 B5 R9 zc
        generalize wr.alloc (.cells _ _) = W9 at *
        have zb9 : w.heap.size < W9.heap.size := by omega
        have zl9 : w5.heap.size + 1 < W9.heap.size := by omega
        have HR9 := Lib.hid (HR.out.below' B9)
        have HX9 := Lib.hid R9
        have HL9 := Lib.hid AL
        have cb := fun o => cellB AB o
        have cc := fun o => cellB AC o
        clear AC AB AL R9 cl
        by_cases q : VE = 0
        · subst q
          obtain ⟨f1, f2, f3, f4⟩ := HcV.out rfl
          have HC1 := Lib.hid f1
          have HF1 := Lib.hid f2
          have HR1 := Lib.hid f3
          have HC2 := Lib.hid f4
          clear f1 f2 f3 f4
          refine wp_region_plan (fun V => Below (W9).heap.size (W9) V) [0, 0, 0, 0, 2, 0, 0, 2, 0, 0, 1, 2, 0, 0, 1, 2, 1, 3, 3, 0, 0, 0] [0, 1, 2, 3, 5, 4, 6, 7, 8, 9, 10, 11, 12, 13, 14, 16, 15, 17, 18, 19, 20, 21] (by kernel_rfl) (by kernel_rfl) ?_ ?_
          case refine_1 => exact (by repeat' (first | with_reducible (first | refine bset ?_ ?_ | exact Below.refl _ _ | assumption | refine bdrewN ?_ _ | refine bdrew ?_ | refine balloc0 ?_ | refine balloc ?_ ?_ | (apply btrans0; rotate_left; assumption) | (apply btrans; rotate_left; assumption)) | exact Below.refl _ _ | assumption | (apply btrans0; rotate_left; assumption) | (apply btrans; rotate_left; assumption) | (simp; done) | omega | (simp; omega)))
          (iterate 5 (first | (refine plan_held rfl (by decide) (by rfl) (fun w1 hS => by (try (obtain ⟨_, _⟩ := bcell (hS rfl))); go_simp; rfl) ?_; simp only [Act.put, List.setIfInBounds_toArray, List.set_cons_zero, List.set_cons_succ]) | (refine plan_skip rfl (by decide) (by rfl) ?_; simp only [Act.put, List.setIfInBounds_toArray, List.set_cons_zero, List.set_cons_succ])))
          (refine plan_keep rfl rfl (by rfl) (fun K hK => ?_); go_simp)
          (refine hK _ _ (by exact (by repeat' (first | with_reducible (first | refine bset ?_ ?_ | exact Below.refl _ _ | assumption | refine bdrewN ?_ _ | refine bdrew ?_ | refine balloc0 ?_ | refine balloc ?_ ?_ | (apply btrans0; rotate_left; assumption) | (apply btrans; rotate_left; assumption)) | exact Below.refl _ _ | assumption | (apply btrans0; rotate_left; assumption) | (apply btrans; rotate_left; assumption) | (simp; done) | omega | (simp; omega)))) ?_; clear hK K; (try simp only [Act.put, List.setIfInBounds_toArray, List.set_cons_zero, List.set_cons_succ]))
          (iterate 1 (first | (refine plan_held rfl (by decide) (by rfl) (fun w1 hS => by (try (obtain ⟨_, _⟩ := bcell (hS rfl))); go_simp; rfl) ?_; simp only [Act.put, List.setIfInBounds_toArray, List.set_cons_zero, List.set_cons_succ]) | (refine plan_skip rfl (by decide) (by rfl) ?_; simp only [Act.put, List.setIfInBounds_toArray, List.set_cons_zero, List.set_cons_succ])))
          (refine plan_keep rfl rfl (by rfl) (fun K hK => ?_); go_simp)
          (refine hK _ _ (by exact (by repeat' (first | with_reducible (first | refine bset ?_ ?_ | exact Below.refl _ _ | assumption | refine bdrewN ?_ _ | refine bdrew ?_ | refine balloc0 ?_ | refine balloc ?_ ?_ | (apply btrans0; rotate_left; assumption) | (apply btrans; rotate_left; assumption)) | exact Below.refl _ _ | assumption | (apply btrans0; rotate_left; assumption) | (apply btrans; rotate_left; assumption) | (simp; done) | omega | (simp; omega)))) ?_; clear hK K; (try simp only [Act.put, List.setIfInBounds_toArray, List.set_cons_zero, List.set_cons_succ]))
          (iterate 3 (first | (refine plan_held rfl (by decide) (by rfl) (fun w1 hS => by (try (obtain ⟨_, _⟩ := bcell (hS rfl))); go_simp; rfl) ?_; simp only [Act.put, List.setIfInBounds_toArray, List.set_cons_zero, List.set_cons_succ]) | (refine plan_skip rfl (by decide) (by rfl) ?_; simp only [Act.put, List.setIfInBounds_toArray, List.set_cons_zero, List.set_cons_succ])))
          (refine plan_keep rfl rfl (by rfl) (fun K hK => ?_); go_simp)
          refine (check_any V _ _ (HX9.out.below' (by repeat' (first | with_reducible (first | refine bset ?_ ?_ | exact Below.refl _ _ | assumption | refine bdrewN ?_ _ | refine bdrew ?_ | refine balloc0 ?_ | refine balloc ?_ ?_ | (apply btrans0; rotate_left; assumption) | (apply btrans; rotate_left; assumption)) | exact Below.refl _ _ | assumption | (apply btrans0; rotate_left; assumption) | (apply btrans; rotate_left; assumption) | (simp; done) | omega | (simp; omega)))) HF1.out).mono ?_
          rw [HC1.out]
          rintro e wc74 ⟨rfl, hbc74⟩
          (refine hK _ _ (by exact (by repeat' (first | with_reducible (first | refine bset ?_ ?_ | exact Below.refl _ _ | assumption | refine bdrewN ?_ _ | refine bdrew ?_ | refine balloc0 ?_ | refine balloc ?_ ?_ | (apply btrans0; rotate_left; assumption) | (apply btrans; rotate_left; assumption)) | exact Below.refl _ _ | assumption | (apply btrans0; rotate_left; assumption) | (apply btrans; rotate_left; assumption) | (simp; done) | omega | (simp; omega)))) ?_; clear hK K; (try simp only [Act.put, List.setIfInBounds_toArray, List.set_cons_zero, List.set_cons_succ]))
          (iterate 4 (first | (refine plan_held rfl (by decide) (by rfl) (fun w1 hS => by (try (obtain ⟨_, _⟩ := bcell (hS rfl))); go_simp; rfl) ?_; simp only [Act.put, List.setIfInBounds_toArray, List.set_cons_zero, List.set_cons_succ]) | (refine plan_skip rfl (by decide) (by rfl) ?_; simp only [Act.put, List.setIfInBounds_toArray, List.set_cons_zero, List.set_cons_succ])))
          (refine plan_keep rfl rfl (by rfl) (fun K hK => ?_); go_simp)
          refine (lawRestB_any V _ _ (HX9.out.below' (by repeat' (first | with_reducible (first | refine bset ?_ ?_ | exact Below.refl _ _ | assumption | refine bdrewN ?_ _ | refine bdrew ?_ | refine balloc0 ?_ | refine balloc ?_ ?_ | (apply btrans0; rotate_left; assumption) | (apply btrans; rotate_left; assumption)) | exact Below.refl _ _ | assumption | (apply btrans0; rotate_left; assumption) | (apply btrans; rotate_left; assumption) | (simp; done) | omega | (simp; omega)))) HC1.out).mono ?_
          unfold RestPost
          rw [HR1.out]
          rintro e wc78 ⟨ux, rfl, hrx, hbc78⟩
          have HRX := Lib.hid hrx
          clear hrx
          (refine hK _ _ (by exact (by repeat' (first | with_reducible (first | refine bset ?_ ?_ | exact Below.refl _ _ | assumption | refine bdrewN ?_ _ | refine bdrew ?_ | refine balloc0 ?_ | refine balloc ?_ ?_ | (apply btrans0; rotate_left; assumption) | (apply btrans; rotate_left; assumption)) | exact Below.refl _ _ | assumption | (apply btrans0; rotate_left; assumption) | (apply btrans; rotate_left; assumption) | (simp; done) | omega | (simp; omega)))) ?_; clear hK K; (try simp only [Act.put, List.setIfInBounds_toArray, List.set_cons_zero, List.set_cons_succ]))
          (refine plan_late rfl rfl (by rfl) (fun K hK => ?_); go_simp)
          refine (lawRestB_any b _ _ (HR9.out.below' (by repeat' (first | with_reducible (first | refine bset ?_ ?_ | exact Below.refl _ _ | assumption | refine bdrewN ?_ _ | refine bdrew ?_ | refine balloc0 ?_ | refine balloc ?_ ?_ | (apply btrans0; rotate_left; assumption) | (apply btrans; rotate_left; assumption)) | exact Below.refl _ _ | assumption | (apply btrans0; rotate_left; assumption) | (apply btrans; rotate_left; assumption) | (simp; done) | omega | (simp; omega)))) HC2.out).mono ?_
          unfold RestPost
          rintro e wc80 ⟨ub, rfl, hrb, hbc80⟩
          have HRB := Lib.hid hrb
          clear hrb
          (refine hK _ _ ?_; clear hK K; (try simp only [Act.put, List.setIfInBounds_toArray, List.set_cons_zero, List.set_cons_succ]))
          (refine plan_late rfl rfl (by rfl) (fun K hK => ?_); go_simp)
          refine (lsame_any (restB b) _ _ _ (HRX.out.below' (by repeat' (first | with_reducible (first | refine bset ?_ ?_ | exact Below.refl _ _ | assumption | refine bdrewN ?_ _ | refine bdrew ?_ | refine balloc0 ?_ | refine balloc ?_ ?_ | (apply btrans0; rotate_left; assumption) | (apply btrans; rotate_left; assumption)) | exact Below.refl _ _ | assumption | (apply btrans0; rotate_left; assumption) | (apply btrans; rotate_left; assumption) | (simp; done) | omega | (simp; omega)))) (HRB.out.below' (by repeat' (first | with_reducible (first | refine bset ?_ ?_ | exact Below.refl _ _ | assumption | refine bdrewN ?_ _ | refine bdrew ?_ | refine balloc0 ?_ | refine balloc ?_ ?_ | (apply btrans0; rotate_left; assumption) | (apply btrans; rotate_left; assumption)) | exact Below.refl _ _ | assumption | (apply btrans0; rotate_left; assumption) | (apply btrans; rotate_left; assumption) | (simp; done) | omega | (simp; omega))))).mono ?_
          rintro e wc81 ⟨rfl, hbc81⟩
          (refine hK _ _ ?_; clear hK K; (try simp only [Act.put, List.setIfInBounds_toArray, List.set_cons_zero, List.set_cons_succ]))
          (iterate 3 (first | (refine plan_held rfl (by decide) (by rfl) (fun w1 hS => by (try (obtain ⟨_, _⟩ := bcell (hS rfl))); go_simp; rfl) ?_; simp only [Act.put, List.setIfInBounds_toArray, List.set_cons_zero, List.set_cons_succ]) | (refine plan_skip rfl (by decide) (by rfl) ?_; simp only [Act.put, List.setIfInBounds_toArray, List.set_cons_zero, List.set_cons_succ])))
          refine plan_done ?_
          go_wp2
          go_roundw
          case rel => exact ⟨2 + 1, by omega, by go_num, Lib.hid ((Below.block (B := W9.heap.size) (w := W9) (by repeat' (first | with_reducible (first | refine bset ?_ ?_ | exact Below.refl _ _ | assumption | refine bdrewN ?_ _ | refine bdrew ?_ | refine balloc0 ?_ | refine balloc ?_ ?_ | (apply btrans0; rotate_left; assumption) | (apply btrans; rotate_left; assumption)) | exact Below.refl _ _ | assumption | (apply btrans0; rotate_left; assumption) | (apply btrans; rotate_left; assumption) | (simp; done) | omega | (simp; omega))) _ zl9).trans HL9.out), by clear hBr hB1 hB2 hB3 hB4 hB5 B9; exact (by repeat' (first | with_reducible (first | refine bset ?_ ?_ | exact Below.refl _ _ | assumption | refine bdrewN ?_ _ | refine bdrew ?_ | refine balloc0 ?_ | refine balloc ?_ ?_ | (apply btrans0; rotate_left; assumption) | (apply btrans; rotate_left; assumption)) | exact Below.refl _ _ | assumption | (apply btrans0; rotate_left; assumption) | (apply btrans; rotate_left; assumption) | (simp; done) | omega | (simp; omega)))⟩
          case measure => simp [intOf]
        · have q1 : (VE == 0) = false := beq_eq_false_iff_ne.2 q
          refine wp_region_plan (fun V => Below (W9).heap.size (W9) V) [0, 0, 0, 0, 2, 0, 0, 2, 0, 0, 1, 2, 0, 0, 1, 2, 1, 3, 3, 0, 0, 0] [0, 1, 2, 3, 5, 4, 6, 7, 8, 9, 10, 11, 12, 13, 14, 16, 15, 17, 18, 19, 20, 21] (by kernel_rfl) (by kernel_rfl) ?_ ?_
          case refine_1 => exact (by repeat' (first | with_reducible (first | refine bset ?_ ?_ | exact Below.refl _ _ | assumption | refine bdrewN ?_ _ | refine bdrew ?_ | refine balloc0 ?_ | refine balloc ?_ ?_ | (apply btrans0; rotate_left; assumption) | (apply btrans; rotate_left; assumption)) | exact Below.refl _ _ | assumption | (apply btrans0; rotate_left; assumption) | (apply btrans; rotate_left; assumption) | (simp; done) | omega | (simp; omega)))
          (iterate 5 (first | (refine plan_held rfl (by decide) (by rfl) (fun w1 hS => by (try (obtain ⟨_, _⟩ := bcell (hS rfl))); go_simp; rfl) ?_; simp only [Act.put, List.setIfInBounds_toArray, List.set_cons_zero, List.set_cons_succ]) | (refine plan_skip rfl (by decide) (by rfl) ?_; simp only [Act.put, List.setIfInBounds_toArray, List.set_cons_zero, List.set_cons_succ])))
          (refine plan_keep rfl rfl (by rfl) (fun K hK => ?_); go_simp)
          (refine hK _ _ (by exact (by repeat' (first | with_reducible (first | refine bset ?_ ?_ | exact Below.refl _ _ | assumption | refine bdrewN ?_ _ | refine bdrew ?_ | refine balloc0 ?_ | refine balloc ?_ ?_ | (apply btrans0; rotate_left; assumption) | (apply btrans; rotate_left; assumption)) | exact Below.refl _ _ | assumption | (apply btrans0; rotate_left; assumption) | (apply btrans; rotate_left; assumption) | (simp; done) | omega | (simp; omega)))) ?_; clear hK K; (try simp only [Act.put, List.setIfInBounds_toArray, List.set_cons_zero, List.set_cons_succ]))
          (iterate 1 (first | (refine plan_held rfl (by decide) (by rfl) (fun w1 hS => by (try (obtain ⟨_, _⟩ := bcell (hS rfl))); go_simp; rfl) ?_; simp only [Act.put, List.setIfInBounds_toArray, List.set_cons_zero, List.set_cons_succ]) | (refine plan_skip rfl (by decide) (by rfl) ?_; simp only [Act.put, List.setIfInBounds_toArray, List.set_cons_zero, List.set_cons_succ])))
          (refine plan_keep rfl rfl (by rfl) (fun K hK => ?_); go_simp)
          (refine hK _ _ (by exact (by repeat' (first | with_reducible (first | refine bset ?_ ?_ | exact Below.refl _ _ | assumption | refine bdrewN ?_ _ | refine bdrew ?_ | refine balloc0 ?_ | refine balloc ?_ ?_ | (apply btrans0; rotate_left; assumption) | (apply btrans; rotate_left; assumption)) | exact Below.refl _ _ | assumption | (apply btrans0; rotate_left; assumption) | (apply btrans; rotate_left; assumption) | (simp; done) | omega | (simp; omega)))) ?_; clear hK K; (try simp only [Act.put, List.setIfInBounds_toArray, List.set_cons_zero, List.set_cons_succ]))
          (iterate 3 (first | (refine plan_held rfl (by decide) (by rfl) (fun w1 hS => by (try (obtain ⟨_, _⟩ := bcell (hS rfl))); go_simp; rfl) ?_; simp only [Act.put, List.setIfInBounds_toArray, List.set_cons_zero, List.set_cons_succ]) | (refine plan_skip rfl (by decide) (by rfl) ?_; simp only [Act.put, List.setIfInBounds_toArray, List.set_cons_zero, List.set_cons_succ])))
          (refine plan_skipK rfl (by decide) (by rfl) (by repeat' (first | with_reducible (first | refine bset ?_ ?_ | exact Below.refl _ _ | assumption | refine bdrewN ?_ _ | refine bdrew ?_ | refine balloc0 ?_ | refine balloc ?_ ?_ | (apply btrans0; rotate_left; assumption) | (apply btrans; rotate_left; assumption)) | exact Below.refl _ _ | assumption | (apply btrans0; rotate_left; assumption) | (apply btrans; rotate_left; assumption) | (simp; done) | omega | (simp; omega))) ?_; simp only [Act.put, List.setIfInBounds_toArray, List.set_cons_zero, List.set_cons_succ])
          (iterate 4 (first | (refine plan_held rfl (by decide) (by rfl) (fun w1 hS => by (try (obtain ⟨_, _⟩ := bcell (hS rfl))); go_simp; rfl) ?_; simp only [Act.put, List.setIfInBounds_toArray, List.set_cons_zero, List.set_cons_succ]) | (refine plan_skip rfl (by decide) (by rfl) ?_; simp only [Act.put, List.setIfInBounds_toArray, List.set_cons_zero, List.set_cons_succ])))
          (refine plan_skipK rfl (by decide) (by rfl) (by repeat' (first | with_reducible (first | refine bset ?_ ?_ | exact Below.refl _ _ | assumption | refine bdrewN ?_ _ | refine bdrew ?_ | refine balloc0 ?_ | refine balloc ?_ ?_ | (apply btrans0; rotate_left; assumption) | (apply btrans; rotate_left; assumption)) | exact Below.refl _ _ | assumption | (apply btrans0; rotate_left; assumption) | (apply btrans; rotate_left; assumption) | (simp; done) | omega | (simp; omega))) ?_; simp only [Act.put, List.setIfInBounds_toArray, List.set_cons_zero, List.set_cons_succ])
          (refine plan_skipL rfl (by decide) (by rfl) ?_; simp only [Act.put, List.setIfInBounds_toArray, List.set_cons_zero, List.set_cons_succ])
          (refine plan_skipL rfl (by decide) (by rfl) ?_; simp only [Act.put, List.setIfInBounds_toArray, List.set_cons_zero, List.set_cons_succ])
          (iterate 3 (first | (refine plan_held rfl (by decide) (by rfl) (fun w1 hS => by (try (obtain ⟨_, _⟩ := bcell (hS rfl))); go_simp; rfl) ?_; simp only [Act.put, List.setIfInBounds_toArray, List.set_cons_zero, List.set_cons_succ]) | (refine plan_skip rfl (by decide) (by rfl) ?_; simp only [Act.put, List.setIfInBounds_toArray, List.set_cons_zero, List.set_cons_succ])))
          refine plan_done ?_
          go_wp2
          go_roundw
          case rel => exact ⟨2 + 1, by omega, by go_num, Lib.hid ((Below.block (B := W9.heap.size) (w := W9) (by repeat' (first | with_reducible (first | refine bset ?_ ?_ | exact Below.refl _ _ | assumption | refine bdrewN ?_ _ | refine bdrew ?_ | refine balloc0 ?_ | refine balloc ?_ ?_ | (apply btrans0; rotate_left; assumption) | (apply btrans; rotate_left; assumption)) | exact Below.refl _ _ | assumption | (apply btrans0; rotate_left; assumption) | (apply btrans; rotate_left; assumption) | (simp; done) | omega | (simp; omega))) _ zl9).trans HL9.out), by clear hBr hB1 hB2 hB3 hB4 hB5 B9; exact (by repeat' (first | with_reducible (first | refine bset ?_ ?_ | exact Below.refl _ _ | assumption | refine bdrewN ?_ _ | refine bdrew ?_ | refine balloc0 ?_ | refine balloc ?_ ?_ | (apply btrans0; rotate_left; assumption) | (apply btrans; rotate_left; assumption)) | exact Below.refl _ _ | assumption | (apply btrans0; rotate_left; assumption) | (apply btrans; rotate_left; assumption) | (simp; done) | omega | (simp; omega)))⟩
          case measure => simp [intOf]
      · obtain rfl : k = 3 := by omega
        have HVr := Lib.hid (HV5.out.below' (hbr))
        go_wp2
        have AC : (wr.alloc (.cells (bunC S (.slice va5 S.blocks.length vc5)).toArray 28)).heap[wr.heap.size]? = some (.cells (bunC S (.slice va5 S.blocks.length vc5)).toArray 28 (0, 0)) := heap_new
        have AB : (wr.alloc (.cells (bunC S (.slice va5 S.blocks.length vc5)).toArray 28)).heap[w.heap.size]? = _ := (Below.heap_alloc _ _ _ zb).trans HAb.out
        have AL : (wr.alloc (.cells (bunC S (.slice va5 S.blocks.length vc5)).toArray 28)).heap[w5.heap.size + 1]? = _ := (Below.heap_alloc _ _ _ zl).trans HL.out
        have B9 : Below w.heap.size w (wr.alloc (.cells (bunC S (.slice va5 S.blocks.length vc5)).toArray 28)) := balloc0 hBr
        have B5 : Below w5.heap.size w5 (wr.alloc (.cells (bunC S (.slice va5 S.blocks.length vc5)).toArray 28)) := balloc0 hbr
        have R9 := HVr.out.below' (balloc0 (o := .cells (bunC S (.slice va5 S.blocks.length vc5)).toArray 28) (Below.refl _ _))
        have zc : wr.heap.size < (wr.alloc (.cells (bunC S (.slice va5 S.blocks.length vc5)).toArray 28)).heap.size := by simp
        simp only [bunC] at AC AB AL B9 B5 R9 zc
        generalize wr.alloc (.cells _ _) = W9 at *
        have zb9 : w.heap.size < W9.heap.size := by omega
        have zl9 : w5.heap.size + 1 < W9.heap.size := by omega
        have HR9 := Lib.hid (HR.out.below' B9)
        have HX9 := Lib.hid R9
        have HL9 := Lib.hid AL
        have cb := fun o => cellB AB o
        have cc := fun o => cellB AC o
        clear AC AB AL R9 cl
        by_cases q : SE = 0
        · subst q
          obtain ⟨f1, f2, f3, f4⟩ := HcS.out rfl
          have HC1 := Lib.hid f1
          have HF1 := Lib.hid f2
          have HR1 := Lib.hid f3
          have HC2 := Lib.hid f4
          clear f1 f2 f3 f4
          refine wp_region_plan (fun V => Below (W9).heap.size (W9) V) [0, 0, 0, 0, 2, 0, 0, 2, 0, 0, 1, 2, 0, 0, 1, 2, 1, 3, 3, 0, 0, 0] [0, 1, 2, 3, 5, 4, 6, 7, 8, 9, 10, 11, 12, 13, 14, 16, 15, 17, 18, 19, 20, 21] (by kernel_rfl) (by kernel_rfl) ?_ ?_
          case refine_1 => exact (by repeat' (first | with_reducible (first | refine bset ?_ ?_ | exact Below.refl _ _ | assumption | refine bdrewN ?_ _ | refine bdrew ?_ | refine balloc0 ?_ | refine balloc ?_ ?_ | (apply btrans0; rotate_left; assumption) | (apply btrans; rotate_left; assumption)) | exact Below.refl _ _ | assumption | (apply btrans0; rotate_left; assumption) | (apply btrans; rotate_left; assumption) | (simp; done) | omega | (simp; omega)))
          (iterate 5 (first | (refine plan_held rfl (by decide) (by rfl) (fun w1 hS => by (try (obtain ⟨_, _⟩ := bcell (hS rfl))); go_simp; rfl) ?_; simp only [Act.put, List.setIfInBounds_toArray, List.set_cons_zero, List.set_cons_succ]) | (refine plan_skip rfl (by decide) (by rfl) ?_; simp only [Act.put, List.setIfInBounds_toArray, List.set_cons_zero, List.set_cons_succ])))
          (refine plan_keep rfl rfl (by rfl) (fun K hK => ?_); go_simp)
          (refine hK _ _ (by exact (by repeat' (first | with_reducible (first | refine bset ?_ ?_ | exact Below.refl _ _ | assumption | refine bdrewN ?_ _ | refine bdrew ?_ | refine balloc0 ?_ | refine balloc ?_ ?_ | (apply btrans0; rotate_left; assumption) | (apply btrans; rotate_left; assumption)) | exact Below.refl _ _ | assumption | (apply btrans0; rotate_left; assumption) | (apply btrans; rotate_left; assumption) | (simp; done) | omega | (simp; omega)))) ?_; clear hK K; (try simp only [Act.put, List.setIfInBounds_toArray, List.set_cons_zero, List.set_cons_succ]))
          (iterate 1 (first | (refine plan_held rfl (by decide) (by rfl) (fun w1 hS => by (try (obtain ⟨_, _⟩ := bcell (hS rfl))); go_simp; rfl) ?_; simp only [Act.put, List.setIfInBounds_toArray, List.set_cons_zero, List.set_cons_succ]) | (refine plan_skip rfl (by decide) (by rfl) ?_; simp only [Act.put, List.setIfInBounds_toArray, List.set_cons_zero, List.set_cons_succ])))
          (refine plan_keep rfl rfl (by rfl) (fun K hK => ?_); go_simp)
          (refine hK _ _ (by exact (by repeat' (first | with_reducible (first | refine bset ?_ ?_ | exact Below.refl _ _ | assumption | refine bdrewN ?_ _ | refine bdrew ?_ | refine balloc0 ?_ | refine balloc ?_ ?_ | (apply btrans0; rotate_left; assumption) | (apply btrans; rotate_left; assumption)) | exact Below.refl _ _ | assumption | (apply btrans0; rotate_left; assumption) | (apply btrans; rotate_left; assumption) | (simp; done) | omega | (simp; omega)))) ?_; clear hK K; (try simp only [Act.put, List.setIfInBounds_toArray, List.set_cons_zero, List.set_cons_succ]))
          (iterate 3 (first | (refine plan_held rfl (by decide) (by rfl) (fun w1 hS => by (try (obtain ⟨_, _⟩ := bcell (hS rfl))); go_simp; rfl) ?_; simp only [Act.put, List.setIfInBounds_toArray, List.set_cons_zero, List.set_cons_succ]) | (refine plan_skip rfl (by decide) (by rfl) ?_; simp only [Act.put, List.setIfInBounds_toArray, List.set_cons_zero, List.set_cons_succ])))
          (refine plan_keep rfl rfl (by rfl) (fun K hK => ?_); go_simp)
          refine (check_any S _ _ (HX9.out.below' (by repeat' (first | with_reducible (first | refine bset ?_ ?_ | exact Below.refl _ _ | assumption | refine bdrewN ?_ _ | refine bdrew ?_ | refine balloc0 ?_ | refine balloc ?_ ?_ | (apply btrans0; rotate_left; assumption) | (apply btrans; rotate_left; assumption)) | exact Below.refl _ _ | assumption | (apply btrans0; rotate_left; assumption) | (apply btrans; rotate_left; assumption) | (simp; done) | omega | (simp; omega)))) HF1.out).mono ?_
          rw [HC1.out]
          rintro e wc74 ⟨rfl, hbc74⟩
          (refine hK _ _ (by exact (by repeat' (first | with_reducible (first | refine bset ?_ ?_ | exact Below.refl _ _ | assumption | refine bdrewN ?_ _ | refine bdrew ?_ | refine balloc0 ?_ | refine balloc ?_ ?_ | (apply btrans0; rotate_left; assumption) | (apply btrans; rotate_left; assumption)) | exact Below.refl _ _ | assumption | (apply btrans0; rotate_left; assumption) | (apply btrans; rotate_left; assumption) | (simp; done) | omega | (simp; omega)))) ?_; clear hK K; (try simp only [Act.put, List.setIfInBounds_toArray, List.set_cons_zero, List.set_cons_succ]))
          (iterate 4 (first | (refine plan_held rfl (by decide) (by rfl) (fun w1 hS => by (try (obtain ⟨_, _⟩ := bcell (hS rfl))); go_simp; rfl) ?_; simp only [Act.put, List.setIfInBounds_toArray, List.set_cons_zero, List.set_cons_succ]) | (refine plan_skip rfl (by decide) (by rfl) ?_; simp only [Act.put, List.setIfInBounds_toArray, List.set_cons_zero, List.set_cons_succ])))
          (refine plan_keep rfl rfl (by rfl) (fun K hK => ?_); go_simp)
          refine (lawRestB_any S _ _ (HX9.out.below' (by repeat' (first | with_reducible (first | refine bset ?_ ?_ | exact Below.refl _ _ | assumption | refine bdrewN ?_ _ | refine bdrew ?_ | refine balloc0 ?_ | refine balloc ?_ ?_ | (apply btrans0; rotate_left; assumption) | (apply btrans; rotate_left; assumption)) | exact Below.refl _ _ | assumption | (apply btrans0; rotate_left; assumption) | (apply btrans; rotate_left; assumption) | (simp; done) | omega | (simp; omega)))) HC1.out).mono ?_
          unfold RestPost
          rw [HR1.out]
          rintro e wc78 ⟨ux, rfl, hrx, hbc78⟩
          have HRX := Lib.hid hrx
          clear hrx
          (refine hK _ _ (by exact (by repeat' (first | with_reducible (first | refine bset ?_ ?_ | exact Below.refl _ _ | assumption | refine bdrewN ?_ _ | refine bdrew ?_ | refine balloc0 ?_ | refine balloc ?_ ?_ | (apply btrans0; rotate_left; assumption) | (apply btrans; rotate_left; assumption)) | exact Below.refl _ _ | assumption | (apply btrans0; rotate_left; assumption) | (apply btrans; rotate_left; assumption) | (simp; done) | omega | (simp; omega)))) ?_; clear hK K; (try simp only [Act.put, List.setIfInBounds_toArray, List.set_cons_zero, List.set_cons_succ]))
          (refine plan_late rfl rfl (by rfl) (fun K hK => ?_); go_simp)
          refine (lawRestB_any b _ _ (HR9.out.below' (by repeat' (first | with_reducible (first | refine bset ?_ ?_ | exact Below.refl _ _ | assumption | refine bdrewN ?_ _ | refine bdrew ?_ | refine balloc0 ?_ | refine balloc ?_ ?_ | (apply btrans0; rotate_left; assumption) | (apply btrans; rotate_left; assumption)) | exact Below.refl _ _ | assumption | (apply btrans0; rotate_left; assumption) | (apply btrans; rotate_left; assumption) | (simp; done) | omega | (simp; omega)))) HC2.out).mono ?_
          unfold RestPost
          rintro e wc80 ⟨ub, rfl, hrb, hbc80⟩
          have HRB := Lib.hid hrb
          clear hrb
          (refine hK _ _ ?_; clear hK K; (try simp only [Act.put, List.setIfInBounds_toArray, List.set_cons_zero, List.set_cons_succ]))
          (refine plan_late rfl rfl (by rfl) (fun K hK => ?_); go_simp)
          refine (lsame_any (restB b) _ _ _ (HRX.out.below' (by repeat' (first | with_reducible (first | refine bset ?_ ?_ | exact Below.refl _ _ | assumption | refine bdrewN ?_ _ | refine bdrew ?_ | refine balloc0 ?_ | refine balloc ?_ ?_ | (apply btrans0; rotate_left; assumption) | (apply btrans; rotate_left; assumption)) | exact Below.refl _ _ | assumption | (apply btrans0; rotate_left; assumption) | (apply btrans; rotate_left; assumption) | (simp; done) | omega | (simp; omega)))) (HRB.out.below' (by repeat' (first | with_reducible (first | refine bset ?_ ?_ | exact Below.refl _ _ | assumption | refine bdrewN ?_ _ | refine bdrew ?_ | refine balloc0 ?_ | refine balloc ?_ ?_ | (apply btrans0; rotate_left; assumption) | (apply btrans; rotate_left; assumption)) | exact Below.refl _ _ | assumption | (apply btrans0; rotate_left; assumption) | (apply btrans; rotate_left; assumption) | (simp; done) | omega | (simp; omega))))).mono ?_
          rintro e wc81 ⟨rfl, hbc81⟩
          (refine hK _ _ ?_; clear hK K; (try simp only [Act.put, List.setIfInBounds_toArray, List.set_cons_zero, List.set_cons_succ]))
          (iterate 3 (first | (refine plan_held rfl (by decide) (by rfl) (fun w1 hS => by (try (obtain ⟨_, _⟩ := bcell (hS rfl))); go_simp; rfl) ?_; simp only [Act.put, List.setIfInBounds_toArray, List.set_cons_zero, List.set_cons_succ]) | (refine plan_skip rfl (by decide) (by rfl) ?_; simp only [Act.put, List.setIfInBounds_toArray, List.set_cons_zero, List.set_cons_succ])))
          refine plan_done ?_
          go_wp2
          go_roundw
          case rel => exact ⟨3 + 1, by omega, by go_num, Lib.hid ((Below.block (B := W9.heap.size) (w := W9) (by repeat' (first | with_reducible (first | refine bset ?_ ?_ | exact Below.refl _ _ | assumption | refine bdrewN ?_ _ | refine bdrew ?_ | refine balloc0 ?_ | refine balloc ?_ ?_ | (apply btrans0; rotate_left; assumption) | (apply btrans; rotate_left; assumption)) | exact Below.refl _ _ | assumption | (apply btrans0; rotate_left; assumption) | (apply btrans; rotate_left; assumption) | (simp; done) | omega | (simp; omega))) _ zl9).trans HL9.out), by clear hBr hB1 hB2 hB3 hB4 hB5 B9; exact (by repeat' (first | with_reducible (first | refine bset ?_ ?_ | exact Below.refl _ _ | assumption | refine bdrewN ?_ _ | refine bdrew ?_ | refine balloc0 ?_ | refine balloc ?_ ?_ | (apply btrans0; rotate_left; assumption) | (apply btrans; rotate_left; assumption)) | exact Below.refl _ _ | assumption | (apply btrans0; rotate_left; assumption) | (apply btrans; rotate_left; assumption) | (simp; done) | omega | (simp; omega)))⟩
          case measure => simp [intOf]
        · have q1 : (SE == 0) = false := beq_eq_false_iff_ne.2 q
          refine wp_region_plan (fun V => Below (W9).heap.size (W9) V) [0, 0, 0, 0, 2, 0, 0, 2, 0, 0, 1, 2, 0, 0, 1, 2, 1, 3, 3, 0, 0, 0] [0, 1, 2, 3, 5, 4, 6, 7, 8, 9, 10, 11, 12, 13, 14, 16, 15, 17, 18, 19, 20, 21] (by kernel_rfl) (by kernel_rfl) ?_ ?_
          case refine_1 => exact (by repeat' (first | with_reducible (first | refine bset ?_ ?_ | exact Below.refl _ _ | assumption | refine bdrewN ?_ _ | refine bdrew ?_ | refine balloc0 ?_ | refine balloc ?_ ?_ | (apply btrans0; rotate_left; assumption) | (apply btrans; rotate_left; assumption)) | exact Below.refl _ _ | assumption | (apply btrans0; rotate_left; assumption) | (apply btrans; rotate_left; assumption) | (simp; done) | omega | (simp; omega)))
          (iterate 5 (first | (refine plan_held rfl (by decide) (by rfl) (fun w1 hS => by (try (obtain ⟨_, _⟩ := bcell (hS rfl))); go_simp; rfl) ?_; simp only [Act.put, List.setIfInBounds_toArray, List.set_cons_zero, List.set_cons_succ]) | (refine plan_skip rfl (by decide) (by rfl) ?_; simp only [Act.put, List.setIfInBounds_toArray, List.set_cons_zero, List.set_cons_succ])))
          (refine plan_keep rfl rfl (by rfl) (fun K hK => ?_); go_simp)
          (refine hK _ _ (by exact (by repeat' (first | with_reducible (first | refine bset ?_ ?_ | exact Below.refl _ _ | assumption | refine bdrewN ?_ _ | refine bdrew ?_ | refine balloc0 ?_ | refine balloc ?_ ?_ | (apply btrans0; rotate_left; assumption) | (apply btrans; rotate_left; assumption)) | exact Below.refl _ _ | assumption | (apply btrans0; rotate_left; assumption) | (apply btrans; rotate_left; assumption) | (simp; done) | omega | (simp; omega)))) ?_; clear hK K; (try simp only [Act.put, List.setIfInBounds_toArray, List.set_cons_zero, List.set_cons_succ]))
          (iterate 1 (first | (refine plan_held rfl (by decide) (by rfl) (fun w1 hS => by (try (obtain ⟨_, _⟩ := bcell (hS rfl))); go_simp; rfl) ?_; simp only [Act.put, List.setIfInBounds_toArray, List.set_cons_zero, List.set_cons_succ]) | (refine plan_skip rfl (by decide) (by rfl) ?_; simp only [Act.put, List.setIfInBounds_toArray, List.set_cons_zero, List.set_cons_succ])))
          (refine plan_keep rfl rfl (by rfl) (fun K hK => ?_); go_simp)
          (refine hK _ _ (by exact (by repeat' (first | with_reducible (first | refine bset ?_ ?_ | exact Below.refl _ _ | assumption | refine bdrewN ?_ _ | refine bdrew ?_ | refine balloc0 ?_ | refine balloc ?_ ?_ | (apply btrans0; rotate_left; assumption) | (apply btrans; rotate_left; assumption)) | exact Below.refl _ _ | assumption | (apply btrans0; rotate_left; assumption) | (apply btrans; rotate_left; assumption) | (simp; done) | omega | (simp; omega)))) ?_; clear hK K; (try simp only [Act.put, List.setIfInBounds_toArray, List.set_cons_zero, List.set_cons_succ]))
          (iterate 3 (first | (refine plan_held rfl (by decide) (by rfl) (fun w1 hS => by (try (obtain ⟨_, _⟩ := bcell (hS rfl))); go_simp; rfl) ?_; simp only [Act.put, List.setIfInBounds_toArray, List.set_cons_zero, List.set_cons_succ]) | (refine plan_skip rfl (by decide) (by rfl) ?_; simp only [Act.put, List.setIfInBounds_toArray, List.set_cons_zero, List.set_cons_succ])))
          (refine plan_skipK rfl (by decide) (by rfl) (by repeat' (first | with_reducible (first | refine bset ?_ ?_ | exact Below.refl _ _ | assumption | refine bdrewN ?_ _ | refine bdrew ?_ | refine balloc0 ?_ | refine balloc ?_ ?_ | (apply btrans0; rotate_left; assumption) | (apply btrans; rotate_left; assumption)) | exact Below.refl _ _ | assumption | (apply btrans0; rotate_left; assumption) | (apply btrans; rotate_left; assumption) | (simp; done) | omega | (simp; omega))) ?_; simp only [Act.put, List.setIfInBounds_toArray, List.set_cons_zero, List.set_cons_succ])
          (iterate 4 (first | (refine plan_held rfl (by decide) (by rfl) (fun w1 hS => by (try (obtain ⟨_, _⟩ := bcell (hS rfl))); go_simp; rfl) ?_; simp only [Act.put, List.setIfInBounds_toArray, List.set_cons_zero, List.set_cons_succ]) | (refine plan_skip rfl (by decide) (by rfl) ?_; simp only [Act.put, List.setIfInBounds_toArray, List.set_cons_zero, List.set_cons_succ])))
          (refine plan_skipK rfl (by decide) (by rfl) (by repeat' (first | with_reducible (first | refine bset ?_ ?_ | exact Below.refl _ _ | assumption | refine bdrewN ?_ _ | refine bdrew ?_ | refine balloc0 ?_ | refine balloc ?_ ?_ | (apply btrans0; rotate_left; assumption) | (apply btrans; rotate_left; assumption)) | exact Below.refl _ _ | assumption | (apply btrans0; rotate_left; assumption) | (apply btrans; rotate_left; assumption) | (simp; done) | omega | (simp; omega))) ?_; simp only [Act.put, List.setIfInBounds_toArray, List.set_cons_zero, List.set_cons_succ])
          (refine plan_skipL rfl (by decide) (by rfl) ?_; simp only [Act.put, List.setIfInBounds_toArray, List.set_cons_zero, List.set_cons_succ])
          (refine plan_skipL rfl (by decide) (by rfl) ?_; simp only [Act.put, List.setIfInBounds_toArray, List.set_cons_zero, List.set_cons_succ])
          (iterate 3 (first | (refine plan_held rfl (by decide) (by rfl) (fun w1 hS => by (try (obtain ⟨_, _⟩ := bcell (hS rfl))); go_simp; rfl) ?_; simp only [Act.put, List.setIfInBounds_toArray, List.set_cons_zero, List.set_cons_succ]) | (refine plan_skip rfl (by decide) (by rfl) ?_; simp only [Act.put, List.setIfInBounds_toArray, List.set_cons_zero, List.set_cons_succ])))
          refine plan_done ?_
          go_wp2
          go_roundw
          case rel => exact ⟨3 + 1, by omega, by go_num, Lib.hid ((Below.block (B := W9.heap.size) (w := W9) (by repeat' (first | with_reducible (first | refine bset ?_ ?_ | exact Below.refl _ _ | assumption | refine bdrewN ?_ _ | refine bdrew ?_ | refine balloc0 ?_ | refine balloc ?_ ?_ | (apply btrans0; rotate_left; assumption) | (apply btrans; rotate_left; assumption)) | exact Below.refl _ _ | assumption | (apply btrans0; rotate_left; assumption) | (apply btrans; rotate_left; assumption) | (simp; done) | omega | (simp; omega))) _ zl9).trans HL9.out), by clear hBr hB1 hB2 hB3 hB4 hB5 B9; exact (by repeat' (first | with_reducible (first | refine bset ?_ ?_ | exact Below.refl _ _ | assumption | refine bdrewN ?_ _ | refine bdrew ?_ | refine balloc0 ?_ | refine balloc ?_ ?_ | (apply btrans0; rotate_left; assumption) | (apply btrans; rotate_left; assumption)) | exact Below.refl _ _ | assumption | (apply btrans0; rotate_left; assumption) | (apply btrans; rotate_left; assumption) | (simp; done) | omega | (simp; omega)))⟩
          case measure => simp [intOf]
    · obtain rfl : k = 4 := by omega
      clear hk hk4 cl
      by_cases q : PE = 0
      · subst q
        have HGP := Lib.hid ((HVS.out rfl).trans HG.out)
        obtain ⟨_, f2, _, _⟩ := HcP.out rfl
        have FP := Lib.hid f2
        have HR6 := Lib.hid (HR.out.below' hBr)
        have HV6 := Lib.hid (HV2.out.below' (btrans0 hK2_5 hbr))
        have cb := fun o => cellB HAb.out o
        have cp := fun o => cellB HAP.out o
        simp only [bunC] at cb cp
        clear f2
        go_wp2_with fail
        refine (visited_any b _ _ HR6.out HF.out).mono ?_
        unfold GetPost
        rw [HG.out]
        simp only
        rintro e w7 ⟨v7, rfl, hb7, hi7⟩
        have y7 := hb7.size
        have A7 := (hb7.block _ zp).trans HAP.out
        have cp := fun o => cellB A7 o
        simp only [bunC] at cp
        have HI7 := Lib.hid hi7
        have hB7 : Below w.heap.size w w7 := btrans0 hBr hb7
        clear hi7 cb A7
        go_wp2_with fail
        refine (visited_any P _ _ (HV6.out.below' hb7) FP.out).mono ?_
        unfold GetPost
        rw [HGP.out]
        simp only
        rintro e w8 ⟨v8, rfl, hb8, hi8⟩
        have HI8 := Lib.hid hi8
        have hB8 : Below w.heap.size w w8 := btrans0 hB7 hb8
        clear hi8 cp
        go_wp2_with fail
        refine (equalI_any lv _ _ _ (HI7.out.below' hb8) HI8.out).mono ?_
        rintro e w9 ⟨rfl, hb9⟩
        have hB9 : Below w.heap.size w w9 := btrans0 hB8 hb9
        go_wp2_with fail
        refine (awake_any _).mono ?_
        rintro e w99 ⟨rfl, hb99⟩
        go_wp2
        go_ret
        exact ⟨rfl, (by repeat' (first | with_reducible (first | refine bset ?_ ?_ | exact Below.refl _ _ | assumption | refine bdrewN ?_ _ | refine bdrew ?_ | refine balloc0 ?_ | refine balloc ?_ ?_ | (apply btrans0; rotate_left; assumption) | (apply btrans; rotate_left; assumption)) | exact Below.refl _ _ | assumption | (apply btrans0; rotate_left; assumption) | (apply btrans; rotate_left; assumption) | (simp; done) | omega | (simp; omega)))⟩
      · have q1 : (PE == 0) = false := beq_eq_false_iff_ne.2 q
        go_wp2_with fail
        refine (awake_any _).mono ?_
        rintro e w99 ⟨rfl, hb99⟩
        go_wp2
        go_ret
        exact ⟨rfl, (by repeat' (first | with_reducible (first | refine bset ?_ ?_ | exact Below.refl _ _ | assumption | refine bdrewN ?_ _ | refine bdrew ?_ | refine balloc0 ?_ | refine balloc ?_ ?_ | (apply btrans0; rotate_left; assumption) | (apply btrans; rotate_left; assumption)) | exact Below.refl _ _ | assumption | (apply btrans0; rotate_left; assumption) | (apply btrans; rotate_left; assumption) | (simp; done) | omega | (simp; omega)))⟩

set_option maxRecDepth 100000 in
theorem lifted (os : Os) (started : os.Started) (H : Type) (enc : TypeId × Value → H) :
    ReturnsInHanded {} Try.checked os 6 .any (Rows.extensionElseSpec.pre6 enc Try.prog Try.f6 Rows.extensionElseRow.domain false) (Rows.extensionElseSpec.post enc Try.prog Try.f6 false true false false) := by
  refine returnsInHanded_of_change (C := Try.checked) own started (by kernel_rfl) Try.func6
    (ChangeSpec.witness6 (enc := enc) (C := Try.checked) false ⟨#[], #[.agg #[.int .i64 0, .int .i64 0, .int .i64 0, .int .i64 0, .int .i64 0, .int .i64 0, .int .i64 0, .int .i64 0, .int .i64 0, .int .i64 0, .slice none 0 0, .string (B [])], .int .i64 0, .int .i64 0, .int .i64 0], []⟩ 8 (by kernel_rfl) (by kernel_rfl) (by kernel_rfl) (by kernel_rfl)) ?_
  intro W base args ds gs before hval0 hW hcnd _
  have hval : ∀ (j : Nat) t v, Try.f6.params[j]? = some t → args[j]? = some v → Value.okWide Try.prog W .any base t v := hval0
  have hW' := hW
  obtain ⟨p, q, hA0, hV, rfl, hfz, hnd⟩ := hW
  have hA : DataW.TrodAll enc Try.prog W 0 (fun _ => true) true Try.f6.params.toList args.toList ds p := hA0
  rw [Try.params6] at hA hval
  obtain ⟨v0, vs0, d0, ds0, p0, q0, hargs, rfl, rfl, h0, r0⟩ := trodAll_cons hA
  obtain ⟨v1, vs1, d1, ds1, p1, q1, rfl, rfl, rfl, h1, r1⟩ := trodAll_cons r0
  obtain ⟨v2, vs2, d2, ds2, p2, q2, rfl, rfl, rfl, h2, r2⟩ := trodAll_cons r1
  obtain ⟨v3, vs3, d3, ds3, p3, q3, rfl, rfl, rfl, h3, r3⟩ := trodAll_cons r2
  obtain ⟨rfl, rfl, rfl⟩ := trodAll_nil r3
  obtain rfl : args = #[v0, v1, v2, v3] := by cases args; simp_all
  obtain ⟨x0, u0, rfl, hr0, hf0⟩ := open_bun (hval 0 28 v0 rfl rfl) h0
  obtain ⟨x1, rfl, _, _, wx1⟩ := open_int Try.underlying3 (hval 1 3 v1 rfl rfl) h1
  obtain ⟨x2, rfl, _, _, wx2⟩ := open_int Try.underlying3 (hval 2 3 v2 rfl rfl) h2
  obtain ⟨x3, rfl, _, _, wx3⟩ := open_int Try.underlying3 (hval 3 3 v3 rfl rfl) h3
  refine (walk x0 u0 x1 x2 x3 W hr0 hf0).mono fun e W' ⟨he, hB⟩ => ?_
  subst he
  refine ⟨_, rfl, law_post (by kernel_rfl) (by kernel_rfl) rfl Try.underlying4 rfl ?_ hW' hB⟩
  intro es hes
  match es, hes with
  | [_, _, _, _], _ => rfl

theorem proved : Rows.ExtensionElseSaid :=
  OpenClaim.holds_of_wide 6 Try.f6 rfl rfl rfl rfl rfl rfl rfl ⟨rfl, rfl, rfl, rfl, rfl⟩ rfl rfl rfl rfl rfl (by kernel_rfl) Try.func6 (by kernel_rfl)
    (of_decide_eq_true (by kernel_rfl)) (by unfold Func.isWrapper; first | (rw [if_pos (by decide +kernel)]; kernel_rfl) | (rw [if_neg (by decide +kernel)]; exact ⟨rfl, rfl⟩))
    (fun os started H enc _ => lifted os started H enc)
#print axioms proved
end Go.Proofs.Ythgokfceakbjlaa.extensionElse
