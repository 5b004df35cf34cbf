/- Layer 14, the reference: Forward's ways. -/
import Derived.Test.YthgokfceakbjlaaIe
import Derived.Test.YthgokfceakbjlaaIk
set_option linter.unusedVariables false
set_option linter.unusedSimpArgs false
namespace Go.Proofs.Ythgokfceakbjlaa
open Go Go.RowKit
attribute [local go_sem] B_getElem B_size B_app B_extract B_get B_toList

set_option maxRecDepth 100000 in
set_option maxHeartbeats 8000000 in
theorem rfwd_00 (b : Bun) (u : Value) (n el : Int) (w : World) (h : RBlks w w.heap.size u b.blocks) (hf : Fits b) (a1 lim cnt : Int) (lv : List Int) (ev : Int) (hk : Fwk b n el) (hag : ageS b = (a1, 0)) (hho : hopS b = (lim, cnt, 0)) (hg : getS b 3 = (lv, ev)) :
    Calls Try.prog 25 #[.agg (bunC b u).toArray, .int .i64 n, .int .i64 el] w (FwdPost (fwdS b n el) w) := by
  have hfA := fits_age (x := a1 + el) hf
  have HF := Lib.hid hf
  have HR := Lib.hid h
  obtain ⟨a, c, rfl, h1, h2, h3, h4⟩ := h
  clear h1 h2 h3 h4 hf
  obtain ⟨hck, he1, he2⟩ := fwk_end hk
  obtain ⟨sA, eA⟩ := stepA hk
  obtain ⟨sH, eH⟩ := stepH hk sA
  obtain ⟨hE, hnd, r1, r2, -, -, q3, h8, h9⟩ := hk
  have ga : (getS b 1).2 = 0 := by have := congrArg Prod.snd hag; exact this
  have gh : (getS b 2).2 = 0 := by have := congrArg (fun q => q.2.2) hho; exact this
  have r1' : ¬ el < 0 := by omega
  have r2' : ¬ 1099511627776 < el := by omega
  have h8 := h8 ga
  have eA := eA ga
  rw [hag] at h8 eA
  simp only at h8 eA
  obtain ⟨y1, y2⟩ := age_facts hag
  have hwr : IntKind.i64.wrap (a1 + el) = a1 + el := by rw [IntKind.wrap_i64]; omega
  have hl2 : ¬ b.life ≤ a1 + el := by omega
  rw [eA] at hfA
  obtain ⟨bA, hbA⟩ : ∃ q, fwdA b el = q := ⟨_, rfl⟩
  rw [hbA] at eA hfA eH hck he1 he2
  have HSA := Lib.hid eA
  have HFA := Lib.hid hfA
  have h9 := h9 gh
  have eH := eH gh
  rw [hho] at h9 eH
  simp only at h9 eH
  obtain ⟨x1, x2, x3, x4⟩ := hop_facts hho
  have hwh : IntKind.i64.wrap (cnt + 1) = cnt + 1 := by rw [IntKind.wrap_i64]; omega
  have hcl : (cnt == lim) = false := beq_eq_false_iff_ne.2 (by omega)
  have hfH := fits_hop (x := lim) (y := cnt + 1) (hfA)
  rw [eH] at hfH
  obtain ⟨bH, hbH⟩ : ∃ q, fwdH b bA = q := ⟨_, rfl⟩
  rw [hbH] at eH hfH hck he1 he2
  have HSH := Lib.hid eH
  have HFH := Lib.hid hfH
  have HCK := Lib.hid hck
  rw [hg] at he1 he2 q3
  simp only at he1 he2 q3
  have HVL := Lib.hid (get3_vis hg)
  have HE := Lib.hid hE
  have HND := Lib.hid hnd
  have HAG := Lib.hid hag
  have HHO := Lib.hid hho
  have HG := Lib.hid hg
  have k3 : (ev == 11) = false := beq_eq_false_iff_ne.2 q3
  by_cases q0 : ev = 0
  case neg =>
    have he := he1 q0
    rw [he]
    have k0 : (ev != 0) = true := by rw [bne_iff_ne]; exact q0
    clear hE hnd hag hho hg q3 ga gh sA sH hck h8 h9 eA eH hbA hbH hfA hfH he he1 he2 q0
    go_enter Try.func25, Try.ntmps25
    simp only [bunC]
    go_wp2_with fail
    refine (rcheck_any b _ _ (HR.out.below' (by repeat' (first | with_reducible (first | refine bset ?_ ?_ | exact Below.refl _ _ | assumption | refine bdrewN ?_ _ | refine bdrew ?_ | refine balloc0 ?_ | refine balloc ?_ ?_ | (apply btrans0; rotate_left; assumption) | (apply btrans; rotate_left; assumption)) | exact Below.refl _ _ | assumption | (apply btrans0; rotate_left; assumption) | (apply btrans; rotate_left; assumption) | (simp; done) | omega | (simp; omega)))) HF.out).mono ?_
    rw [HE.out]
    rintro e w1 ⟨rfl, hb1⟩
    have hB1 : Below w.heap.size w w1 := (by repeat' (first | with_reducible (first | refine bset ?_ ?_ | exact Below.refl _ _ | assumption | refine bdrewN ?_ _ | refine bdrew ?_ | refine balloc0 ?_ | refine balloc ?_ ?_ | (apply btrans0; rotate_left; assumption) | (apply btrans; rotate_left; assumption)) | exact Below.refl _ _ | assumption | (apply btrans0; rotate_left; assumption) | (apply btrans; rotate_left; assumption) | (simp; done) | omega | (simp; omega)))
    have z1 : w.heap.size + 1 < w1.heap.size := by have := hb1.size; (try simp at this); omega
    have z1a : w.heap.size < w1.heap.size := by omega
    have A1 : w1.heap[w.heap.size]? = some (.cells (bunC b (.slice a b.blocks.length c)).toArray 28 (0, 0)) := (hb1.block _ (by first | omega | (simp; done) | (simp; omega))).trans (by repeat (first | exact heap_new' (by first | rfl | (simp; done)) | refine (Below.heap_alloc _ _ _ (by first | (simp; done) | (simp; omega))).trans ?_))
    have R1 : w1.heap[w.heap.size + 1]? = some (.cells #[.int .i64 0, .int .i64 0, .int .i64 0, .int .i64 0, .int .i64 0, .int .i64 0, .int .i64 0, .int .i64 0, .int .i64 0, .int .i64 0, .slice none 0 0, .string ⟨#[]⟩] 28 (0, 0)) := (hb1.block _ (by simp)).trans (by repeat (first | exact heap_new' (by first | rfl | (simp; done)) | refine (Below.heap_alloc _ _ _ (by first | (simp; done) | (simp; omega))).trans ?_))
    have ca := fun o => cellB A1 o
    have cr := fun o => cellB R1 o
    have fr := fun o => frozenB R1 o
    simp only [bunC] at ca
    have HA1 := Lib.hid A1
    have HR1 := Lib.hid R1
    clear A1 R1 hb1
    go_wp2_with fail
    refine (rnode_any n _).mono ?_
    rw [HND.out]
    rintro e w99 ⟨rfl, hw⟩
    subst hw
    go_wp2_with fail
    refine (rage0_any b _ _ (HR.out.below' (by repeat' (first | with_reducible (first | refine bset ?_ ?_ | exact Below.refl _ _ | assumption | refine bdrewN ?_ _ | refine bdrew ?_ | refine balloc0 ?_ | refine balloc ?_ ?_ | (apply btrans0; rotate_left; assumption) | (apply btrans; rotate_left; assumption)) | exact Below.refl _ _ | assumption | (apply btrans0; rotate_left; assumption) | (apply btrans; rotate_left; assumption) | (simp; done) | omega | (simp; omega)))) HE.out).mono ?_
    rw [HAG.out]
    simp only
    rintro e w2 ⟨rfl, hb2⟩
    have hB2 : Below w.heap.size w w2 := (by repeat' (first | with_reducible (first | refine bset ?_ ?_ | exact Below.refl _ _ | assumption | refine bdrewN ?_ _ | refine bdrew ?_ | refine balloc0 ?_ | refine balloc ?_ ?_ | (apply btrans0; rotate_left; assumption) | (apply btrans; rotate_left; assumption)) | exact Below.refl _ _ | assumption | (apply btrans0; rotate_left; assumption) | (apply btrans; rotate_left; assumption) | (simp; done) | omega | (simp; omega)))
    have z2 : w.heap.size + 1 < w2.heap.size := by have := hb2.size; (try simp at this); omega
    have z2a : w.heap.size < w2.heap.size := by omega
    have A2 : w2.heap[w.heap.size]? = some (.cells (bunC b (.slice a b.blocks.length c)).toArray 28 (0, 0)) := (hb2.block _ z1a).trans HA1.out
    have R2 : w2.heap[w.heap.size + 1]? = some (.cells #[.int .i64 0, .int .i64 0, .int .i64 0, .int .i64 0, .int .i64 0, .int .i64 0, .int .i64 0, .int .i64 0, .int .i64 0, .int .i64 0, .slice none 0 0, .string ⟨#[]⟩] 28 (0, 0)) := (hb2.block _ z1).trans HR1.out
    clear ca cr fr
    have ca := fun o => cellB A2 o
    have cr := fun o => cellB R2 o
    have fr := fun o => frozenB R2 o
    simp only [bunC] at ca
    have HA2 := Lib.hid A2
    have HR2 := Lib.hid R2
    clear A2 R2 hb2
    go_wp2_with fail
    refine (rhop0_any b _ _ (HR.out.below' (by repeat' (first | with_reducible (first | refine bset ?_ ?_ | exact Below.refl _ _ | assumption | refine bdrewN ?_ _ | refine bdrew ?_ | refine balloc0 ?_ | refine balloc ?_ ?_ | (apply btrans0; rotate_left; assumption) | (apply btrans; rotate_left; assumption)) | exact Below.refl _ _ | assumption | (apply btrans0; rotate_left; assumption) | (apply btrans; rotate_left; assumption) | (simp; done) | omega | (simp; omega)))) HE.out).mono ?_
    rw [HHO.out]
    simp only
    rintro e w3 ⟨rfl, hb3⟩
    have hB3 : Below w.heap.size w w3 := (by repeat' (first | with_reducible (first | refine bset ?_ ?_ | exact Below.refl _ _ | assumption | refine bdrewN ?_ _ | refine bdrew ?_ | refine balloc0 ?_ | refine balloc ?_ ?_ | (apply btrans0; rotate_left; assumption) | (apply btrans; rotate_left; assumption)) | exact Below.refl _ _ | assumption | (apply btrans0; rotate_left; assumption) | (apply btrans; rotate_left; assumption) | (simp; done) | omega | (simp; omega)))
    have z3 : w.heap.size + 1 < w3.heap.size := by have := hb3.size; (try simp at this); omega
    have z3a : w.heap.size < w3.heap.size := by omega
    have A3 : w3.heap[w.heap.size]? = some (.cells (bunC b (.slice a b.blocks.length c)).toArray 28 (0, 0)) := (hb3.block _ z2a).trans HA2.out
    have R3 : w3.heap[w.heap.size + 1]? = some (.cells #[.int .i64 0, .int .i64 0, .int .i64 0, .int .i64 0, .int .i64 0, .int .i64 0, .int .i64 0, .int .i64 0, .int .i64 0, .int .i64 0, .slice none 0 0, .string ⟨#[]⟩] 28 (0, 0)) := (hb3.block _ z2).trans HR2.out
    clear ca cr fr
    have ca := fun o => cellB A3 o
    have cr := fun o => cellB R3 o
    have fr := fun o => frozenB R3 o
    simp only [bunC] at ca
    have HA3 := Lib.hid A3
    have HR3 := Lib.hid R3
    clear A3 R3 hb3
    go_wp2_with fail
    refine (rvis0_from b _ _ (HR.out.below' (by repeat' (first | with_reducible (first | refine bset ?_ ?_ | exact Below.refl _ _ | assumption | refine bdrewN ?_ _ | refine bdrew ?_ | refine balloc0 ?_ | refine balloc ?_ ?_ | (apply btrans0; rotate_left; assumption) | (apply btrans; rotate_left; assumption)) | exact Below.refl _ _ | assumption | (apply btrans0; rotate_left; assumption) | (apply btrans; rotate_left; assumption) | (simp; done) | omega | (simp; omega)))) HE.out).mono ?_
    unfold GetFrom
    rw [HG.out]
    simp only
    rintro e w4 ⟨v, rfl, hb4, hri, hfr⟩
    have HI4 := Lib.hid hri
    have HFR : Hid (RFrom (w.heap.size + 2) v) := Lib.hid (hfr.mono (by omega))
    clear hri hfr
    have hB4 : Below w.heap.size w w4 := (by repeat' (first | with_reducible (first | refine bset ?_ ?_ | exact Below.refl _ _ | assumption | refine bdrewN ?_ _ | refine bdrew ?_ | refine balloc0 ?_ | refine balloc ?_ ?_ | (apply btrans0; rotate_left; assumption) | (apply btrans; rotate_left; assumption)) | exact Below.refl _ _ | assumption | (apply btrans0; rotate_left; assumption) | (apply btrans; rotate_left; assumption) | (simp; done) | omega | (simp; omega)))
    have z4 : w.heap.size + 1 < w4.heap.size := by have := hb4.size; (try simp at this); omega
    have z4a : w.heap.size < w4.heap.size := by omega
    have A4 : w4.heap[w.heap.size]? = some (.cells (bunC b (.slice a b.blocks.length c)).toArray 28 (0, 0)) := (hb4.block _ z3a).trans HA3.out
    have R4 : w4.heap[w.heap.size + 1]? = some (.cells #[.int .i64 0, .int .i64 0, .int .i64 0, .int .i64 0, .int .i64 0, .int .i64 0, .int .i64 0, .int .i64 0, .int .i64 0, .int .i64 0, .slice none 0 0, .string ⟨#[]⟩] 28 (0, 0)) := (hb4.block _ z3).trans HR3.out
    clear ca cr fr
    have ca := fun o => cellB A4 o
    have cr := fun o => cellB R4 o
    have fr := fun o => frozenB R4 o
    simp only [bunC] at ca
    have HA4 := Lib.hid A4
    have HR4 := Lib.hid R4
    clear A4 R4 hb4
    go_wp2_with fail
    refine (rsetAge_any b _ (a1 + el) _ (HR.out.below' (by repeat' (first | with_reducible (first | refine bset ?_ ?_ | exact Below.refl _ _ | assumption | refine bdrewN ?_ _ | refine bdrew ?_ | refine balloc0 ?_ | refine balloc ?_ ?_ | (apply btrans0; rotate_left; assumption) | (apply btrans; rotate_left; assumption)) | exact Below.refl _ _ | assumption | (apply btrans0; rotate_left; assumption) | (apply btrans; rotate_left; assumption) | (simp; done) | omega | (simp; omega)))) HF.out).mono ?_
    unfold FwdPost
    rw [HSA.out]
    simp only
    rintro e w15 ⟨u15, rfl, hru, hb15⟩
    obtain ⟨va15, vc15, rfl, g1, g2, g3, g4⟩ := id hru
    have A15 := (hb15.block _ z4a).trans HA4.out
    have R15 := (hb15.block _ z4).trans HR4.out
    have hsp : Sep w.heap.size (w.heap.size + 1) (.slice va15 bA.blocks.length vc15) bA.blocks := (Sep.box hru A15 (by first | exact noBlk_bun _ _ _ _ | exact noBlk12)).two (Sep.box hru R15 noBlk12)
    have hb150 := Lib.hid hb15
    have z15 : w.heap.size + 1 < w15.heap.size := by have := hb15.size; omega
    have z15a : w.heap.size < w15.heap.size := by omega
    have hB15 : Below w.heap.size w w15 := (by repeat' (first | with_reducible (first | refine bset ?_ ?_ | exact Below.refl _ _ | assumption | refine bdrewN ?_ _ | refine bdrew ?_ | refine balloc0 ?_ | refine balloc ?_ ?_ | (apply btrans0; rotate_left; assumption) | (apply btrans; rotate_left; assumption)) | exact Below.refl _ _ | assumption | (apply btrans0; rotate_left; assumption) | (apply btrans; rotate_left; assumption) | (simp; done) | omega | (simp; omega)))
    have HRU := Lib.hid hru
    have HSP := Lib.hid hsp
    obtain ⟨nn15, hnn⟩ : ∃ n, bA.blocks.length = n := ⟨_, rfl⟩
    rw [hnn]
    rw [hnn] at HRU HSP
    have HNN15 := Lib.hid hnn
    have fa15 := fun o => frozenB A15 o
    have HA150 := Lib.hid A15
    have HR150 := Lib.hid R15
    clear A15 R15 hru g1 g2 g3 g4 hnn ca cr fr hsp hb15
    simp only [bunC]
    go_wp2_with (refine wpList_store_block rfl 28 _ _ rfl w.heap.size #[.int .i64 bA.src, .int .i64 bA.crt, .int .i64 bA.seq, .int .i64 bA.off, .int .i64 bA.tot, .int .i64 bA.dk, .int .i64 bA.dn, .int .i64 bA.life, .int .i64 bA.prio, .int .i64 bA.flags, .slice va15 nn15 vc15, .string (B bA.payload)] _ 28 rfl rfl HA150.out rfl (by kernel_rfl) (by simp [Value.oneCell']) ?_; intro w5 hW hbW hsW hoW; have hB5 : Below w.heap.size w w5 := hB15.trans (hbW _ (by omega)); have z5 : w.heap.size + 1 < w5.heap.size := (by rw [hsW]; omega); have z5a : w.heap.size < w5.heap.size := (by rw [hsW]; omega); have R5 := (hoW (w.heap.size + 1) (by omega)).trans HR150.out; have ca := fun o => cellB hW o; have fa := fun o => frozenB hW o; have cr := fun o => cellB R5 o; have fr := fun o => frozenB R5 o; have HA5 := Lib.hid hW; have HR5 := Lib.hid R5; have HI5 := Lib.hid (RInts.fresh ((HI4.out).below' hb150.out) HFR.out (fun q o hq hq2 => World.cell?_of_block (hoW q (by omega))) (M := w5.heap.size) (by rw [hsW]; omega)); have HB5 := Lib.hid (RBlks.apart HRU.out HSP.out (fun q o hq hq2 => World.cell?_of_block (hoW q hq)) (M := w5.heap.size) (by rw [hsW]; omega)); clear hW R5 hbW hsW hoW fa15)
    go_wp2_with fail
    refine (rsetHops_any bA _ lim (cnt + 1) _ (HB5.out) HFA.out).mono ?_
    unfold FwdPost
    rw [HSH.out]
    simp only
    rintro e w16 ⟨u16, rfl, hru, hb16⟩
    obtain ⟨va16, vc16, rfl, g1, g2, g3, g4⟩ := id hru
    have A16 := (hb16.block _ z5a).trans HA5.out
    have R16 := (hb16.block _ z5).trans HR5.out
    have hsp : Sep w.heap.size (w.heap.size + 1) (.slice va16 bH.blocks.length vc16) bH.blocks := (Sep.box hru A16 (by first | exact noBlk_bun _ _ _ _ | exact noBlk12)).two (Sep.box hru R16 noBlk12)
    have hb160 := Lib.hid hb16
    have z16 : w.heap.size + 1 < w16.heap.size := by have := hb16.size; omega
    have z16a : w.heap.size < w16.heap.size := by omega
    have hB16 : Below w.heap.size w w16 := (by repeat' (first | with_reducible (first | refine bset ?_ ?_ | exact Below.refl _ _ | assumption | refine bdrewN ?_ _ | refine bdrew ?_ | refine balloc0 ?_ | refine balloc ?_ ?_ | (apply btrans0; rotate_left; assumption) | (apply btrans; rotate_left; assumption)) | exact Below.refl _ _ | assumption | (apply btrans0; rotate_left; assumption) | (apply btrans; rotate_left; assumption) | (simp; done) | omega | (simp; omega)))
    have HRU := Lib.hid hru
    have HSP := Lib.hid hsp
    obtain ⟨nn16, hnn⟩ : ∃ n, bH.blocks.length = n := ⟨_, rfl⟩
    rw [hnn]
    rw [hnn] at HRU HSP
    have HNN16 := Lib.hid hnn
    have fa16 := fun o => frozenB A16 o
    have HA160 := Lib.hid A16
    have HR160 := Lib.hid R16
    clear A16 R16 hru g1 g2 g3 g4 hnn ca cr fr hsp hb16
    simp only [bunC]
    go_wp2_with (refine wpList_store_block rfl 28 _ _ rfl w.heap.size #[.int .i64 bH.src, .int .i64 bH.crt, .int .i64 bH.seq, .int .i64 bH.off, .int .i64 bH.tot, .int .i64 bH.dk, .int .i64 bH.dn, .int .i64 bH.life, .int .i64 bH.prio, .int .i64 bH.flags, .slice va16 nn16 vc16, .string (B bH.payload)] _ 28 rfl rfl HA160.out rfl (by kernel_rfl) (by simp [Value.oneCell']) ?_; intro w6 hW hbW hsW hoW; have hB6 : Below w.heap.size w w6 := hB16.trans (hbW _ (by omega)); have z6 : w.heap.size + 1 < w6.heap.size := (by rw [hsW]; omega); have z6a : w.heap.size < w6.heap.size := (by rw [hsW]; omega); have R6 := (hoW (w.heap.size + 1) (by omega)).trans HR160.out; have ca := fun o => cellB hW o; have fa := fun o => frozenB hW o; have cr := fun o => cellB R6 o; have fr := fun o => frozenB R6 o; have HA6 := Lib.hid hW; have HR6 := Lib.hid R6; have HI6 := Lib.hid (RInts.fresh ((HI5.out).below' hb160.out) HFR.out (fun q o hq hq2 => World.cell?_of_block (hoW q (by omega))) (M := w6.heap.size) (by rw [hsW]; omega)); have HB6 := Lib.hid (RBlks.apart HRU.out HSP.out (fun q o hq hq2 => World.cell?_of_block (hoW q hq)) (M := w6.heap.size) (by rw [hsW]; omega)); clear hW R6 hbW hsW hoW fa16)
    have HSE := Lib.hid (Sep.box (N := w6.heap.size) (HB6.out) HR6.out noBlk12)
    go_wp2_with fail
    refine bodyPost_ret (v := .tuple #[.agg #[.int .i64 bH.src, .int .i64 bH.crt, .int .i64 bH.seq, .int .i64 bH.off, .int .i64 bH.tot, .int .i64 bH.dk, .int .i64 bH.dn, .int .i64 bH.life, .int .i64 bH.prio, .int .i64 bH.flags, .slice va16 nn16 vc16, .string (B bH.payload)], .int .i64 0]) (by simp [results, Try.results25, go_sem, World.cell?_setCell_same', cr, ca, z6]) rfl ?_
    unfold FwdPost
    exact ⟨_, rfl, RBlks.apart (HB6.out) HSE.out (fun q o hq hq2 => by simp (disch := first | exact hq | exact fun e => hq e.symm | (simp; omega)) only [World.cell?_setCell_far]) (by simp), (by repeat' (first | with_reducible (first | refine bset ?_ ?_ | exact Below.refl _ _ | assumption | refine bdrewN ?_ _ | refine bdrew ?_ | refine balloc0 ?_ | refine balloc ?_ ?_ | (apply btrans0; rotate_left; assumption) | (apply btrans; rotate_left; assumption)) | exact Below.refl _ _ | assumption | (apply btrans0; rotate_left; assumption) | (apply btrans; rotate_left; assumption) | (simp; done) | omega | (simp; omega)))⟩
  have he := he2 q0
  obtain ⟨⟨X, XE⟩, hX⟩ : ∃ q, fwdS b n el = q := ⟨_, rfl⟩
  rw [hX] at he ⊢
  have HEND := Lib.hid he.symm
  subst q0
  clear hE hnd hag hho hg q3 ga gh sA sH hck h8 h9 eA eH hbA hbH hfA hfH he he1 he2 hX
  go_enter Try.func25, Try.ntmps25
  simp only [bunC]
  go_wp2_with fail
  refine (rcheck_any b _ _ (HR.out.below' (by repeat' (first | with_reducible (first | refine bset ?_ ?_ | exact Below.refl _ _ | assumption | refine bdrewN ?_ _ | refine bdrew ?_ | refine balloc0 ?_ | refine balloc ?_ ?_ | (apply btrans0; rotate_left; assumption) | (apply btrans; rotate_left; assumption)) | exact Below.refl _ _ | assumption | (apply btrans0; rotate_left; assumption) | (apply btrans; rotate_left; assumption) | (simp; done) | omega | (simp; omega)))) HF.out).mono ?_
  rw [HE.out]
  rintro e w1 ⟨rfl, hb1⟩
  have hB1 : Below w.heap.size w w1 := (by repeat' (first | with_reducible (first | refine bset ?_ ?_ | exact Below.refl _ _ | assumption | refine bdrewN ?_ _ | refine bdrew ?_ | refine balloc0 ?_ | refine balloc ?_ ?_ | (apply btrans0; rotate_left; assumption) | (apply btrans; rotate_left; assumption)) | exact Below.refl _ _ | assumption | (apply btrans0; rotate_left; assumption) | (apply btrans; rotate_left; assumption) | (simp; done) | omega | (simp; omega)))
  have z1 : w.heap.size + 1 < w1.heap.size := by have := hb1.size; (try simp at this); omega
  have z1a : w.heap.size < w1.heap.size := by omega
  have A1 : w1.heap[w.heap.size]? = some (.cells (bunC b (.slice a b.blocks.length c)).toArray 28 (0, 0)) := (hb1.block _ (by first | omega | (simp; done) | (simp; omega))).trans (by repeat (first | exact heap_new' (by first | rfl | (simp; done)) | refine (Below.heap_alloc _ _ _ (by first | (simp; done) | (simp; omega))).trans ?_))
  have R1 : w1.heap[w.heap.size + 1]? = some (.cells #[.int .i64 0, .int .i64 0, .int .i64 0, .int .i64 0, .int .i64 0, .int .i64 0, .int .i64 0, .int .i64 0, .int .i64 0, .int .i64 0, .slice none 0 0, .string ⟨#[]⟩] 28 (0, 0)) := (hb1.block _ (by simp)).trans (by repeat (first | exact heap_new' (by first | rfl | (simp; done)) | refine (Below.heap_alloc _ _ _ (by first | (simp; done) | (simp; omega))).trans ?_))
  have ca := fun o => cellB A1 o
  have cr := fun o => cellB R1 o
  have fr := fun o => frozenB R1 o
  simp only [bunC] at ca
  have HA1 := Lib.hid A1
  have HR1 := Lib.hid R1
  clear A1 R1 hb1
  go_wp2_with fail
  refine (rnode_any n _).mono ?_
  rw [HND.out]
  rintro e w99 ⟨rfl, hw⟩
  subst hw
  go_wp2_with fail
  refine (rage0_any b _ _ (HR.out.below' (by repeat' (first | with_reducible (first | refine bset ?_ ?_ | exact Below.refl _ _ | assumption | refine bdrewN ?_ _ | refine bdrew ?_ | refine balloc0 ?_ | refine balloc ?_ ?_ | (apply btrans0; rotate_left; assumption) | (apply btrans; rotate_left; assumption)) | exact Below.refl _ _ | assumption | (apply btrans0; rotate_left; assumption) | (apply btrans; rotate_left; assumption) | (simp; done) | omega | (simp; omega)))) HE.out).mono ?_
  rw [HAG.out]
  simp only
  rintro e w2 ⟨rfl, hb2⟩
  have hB2 : Below w.heap.size w w2 := (by repeat' (first | with_reducible (first | refine bset ?_ ?_ | exact Below.refl _ _ | assumption | refine bdrewN ?_ _ | refine bdrew ?_ | refine balloc0 ?_ | refine balloc ?_ ?_ | (apply btrans0; rotate_left; assumption) | (apply btrans; rotate_left; assumption)) | exact Below.refl _ _ | assumption | (apply btrans0; rotate_left; assumption) | (apply btrans; rotate_left; assumption) | (simp; done) | omega | (simp; omega)))
  have z2 : w.heap.size + 1 < w2.heap.size := by have := hb2.size; (try simp at this); omega
  have z2a : w.heap.size < w2.heap.size := by omega
  have A2 : w2.heap[w.heap.size]? = some (.cells (bunC b (.slice a b.blocks.length c)).toArray 28 (0, 0)) := (hb2.block _ z1a).trans HA1.out
  have R2 : w2.heap[w.heap.size + 1]? = some (.cells #[.int .i64 0, .int .i64 0, .int .i64 0, .int .i64 0, .int .i64 0, .int .i64 0, .int .i64 0, .int .i64 0, .int .i64 0, .int .i64 0, .slice none 0 0, .string ⟨#[]⟩] 28 (0, 0)) := (hb2.block _ z1).trans HR1.out
  clear ca cr fr
  have ca := fun o => cellB A2 o
  have cr := fun o => cellB R2 o
  have fr := fun o => frozenB R2 o
  simp only [bunC] at ca
  have HA2 := Lib.hid A2
  have HR2 := Lib.hid R2
  clear A2 R2 hb2
  go_wp2_with fail
  refine (rhop0_any b _ _ (HR.out.below' (by repeat' (first | with_reducible (first | refine bset ?_ ?_ | exact Below.refl _ _ | assumption | refine bdrewN ?_ _ | refine bdrew ?_ | refine balloc0 ?_ | refine balloc ?_ ?_ | (apply btrans0; rotate_left; assumption) | (apply btrans; rotate_left; assumption)) | exact Below.refl _ _ | assumption | (apply btrans0; rotate_left; assumption) | (apply btrans; rotate_left; assumption) | (simp; done) | omega | (simp; omega)))) HE.out).mono ?_
  rw [HHO.out]
  simp only
  rintro e w3 ⟨rfl, hb3⟩
  have hB3 : Below w.heap.size w w3 := (by repeat' (first | with_reducible (first | refine bset ?_ ?_ | exact Below.refl _ _ | assumption | refine bdrewN ?_ _ | refine bdrew ?_ | refine balloc0 ?_ | refine balloc ?_ ?_ | (apply btrans0; rotate_left; assumption) | (apply btrans; rotate_left; assumption)) | exact Below.refl _ _ | assumption | (apply btrans0; rotate_left; assumption) | (apply btrans; rotate_left; assumption) | (simp; done) | omega | (simp; omega)))
  have z3 : w.heap.size + 1 < w3.heap.size := by have := hb3.size; (try simp at this); omega
  have z3a : w.heap.size < w3.heap.size := by omega
  have A3 : w3.heap[w.heap.size]? = some (.cells (bunC b (.slice a b.blocks.length c)).toArray 28 (0, 0)) := (hb3.block _ z2a).trans HA2.out
  have R3 : w3.heap[w.heap.size + 1]? = some (.cells #[.int .i64 0, .int .i64 0, .int .i64 0, .int .i64 0, .int .i64 0, .int .i64 0, .int .i64 0, .int .i64 0, .int .i64 0, .int .i64 0, .slice none 0 0, .string ⟨#[]⟩] 28 (0, 0)) := (hb3.block _ z2).trans HR2.out
  clear ca cr fr
  have ca := fun o => cellB A3 o
  have cr := fun o => cellB R3 o
  have fr := fun o => frozenB R3 o
  simp only [bunC] at ca
  have HA3 := Lib.hid A3
  have HR3 := Lib.hid R3
  clear A3 R3 hb3
  go_wp2_with fail
  refine (rvis0_from b _ _ (HR.out.below' (by repeat' (first | with_reducible (first | refine bset ?_ ?_ | exact Below.refl _ _ | assumption | refine bdrewN ?_ _ | refine bdrew ?_ | refine balloc0 ?_ | refine balloc ?_ ?_ | (apply btrans0; rotate_left; assumption) | (apply btrans; rotate_left; assumption)) | exact Below.refl _ _ | assumption | (apply btrans0; rotate_left; assumption) | (apply btrans; rotate_left; assumption) | (simp; done) | omega | (simp; omega)))) HE.out).mono ?_
  unfold GetFrom
  rw [HG.out]
  simp only
  rintro e w4 ⟨v, rfl, hb4, hri, hfr⟩
  have HI4 := Lib.hid hri
  have HFR : Hid (RFrom (w.heap.size + 2) v) := Lib.hid (hfr.mono (by omega))
  clear hri hfr
  have hB4 : Below w.heap.size w w4 := (by repeat' (first | with_reducible (first | refine bset ?_ ?_ | exact Below.refl _ _ | assumption | refine bdrewN ?_ _ | refine bdrew ?_ | refine balloc0 ?_ | refine balloc ?_ ?_ | (apply btrans0; rotate_left; assumption) | (apply btrans; rotate_left; assumption)) | exact Below.refl _ _ | assumption | (apply btrans0; rotate_left; assumption) | (apply btrans; rotate_left; assumption) | (simp; done) | omega | (simp; omega)))
  have z4 : w.heap.size + 1 < w4.heap.size := by have := hb4.size; (try simp at this); omega
  have z4a : w.heap.size < w4.heap.size := by omega
  have A4 : w4.heap[w.heap.size]? = some (.cells (bunC b (.slice a b.blocks.length c)).toArray 28 (0, 0)) := (hb4.block _ z3a).trans HA3.out
  have R4 : w4.heap[w.heap.size + 1]? = some (.cells #[.int .i64 0, .int .i64 0, .int .i64 0, .int .i64 0, .int .i64 0, .int .i64 0, .int .i64 0, .int .i64 0, .int .i64 0, .int .i64 0, .slice none 0 0, .string ⟨#[]⟩] 28 (0, 0)) := (hb4.block _ z3).trans HR3.out
  clear ca cr fr
  have ca := fun o => cellB A4 o
  have cr := fun o => cellB R4 o
  have fr := fun o => frozenB R4 o
  simp only [bunC] at ca
  have HA4 := Lib.hid A4
  have HR4 := Lib.hid R4
  clear A4 R4 hb4
  go_wp2_with fail
  refine (rsetAge_any b _ (a1 + el) _ (HR.out.below' (by repeat' (first | with_reducible (first | refine bset ?_ ?_ | exact Below.refl _ _ | assumption | refine bdrewN ?_ _ | refine bdrew ?_ | refine balloc0 ?_ | refine balloc ?_ ?_ | (apply btrans0; rotate_left; assumption) | (apply btrans; rotate_left; assumption)) | exact Below.refl _ _ | assumption | (apply btrans0; rotate_left; assumption) | (apply btrans; rotate_left; assumption) | (simp; done) | omega | (simp; omega)))) HF.out).mono ?_
  unfold FwdPost
  rw [HSA.out]
  simp only
  rintro e w15 ⟨u15, rfl, hru, hb15⟩
  obtain ⟨va15, vc15, rfl, g1, g2, g3, g4⟩ := id hru
  have A15 := (hb15.block _ z4a).trans HA4.out
  have R15 := (hb15.block _ z4).trans HR4.out
  have hsp : Sep w.heap.size (w.heap.size + 1) (.slice va15 bA.blocks.length vc15) bA.blocks := (Sep.box hru A15 (by first | exact noBlk_bun _ _ _ _ | exact noBlk12)).two (Sep.box hru R15 noBlk12)
  have hb150 := Lib.hid hb15
  have z15 : w.heap.size + 1 < w15.heap.size := by have := hb15.size; omega
  have z15a : w.heap.size < w15.heap.size := by omega
  have hB15 : Below w.heap.size w w15 := (by repeat' (first | with_reducible (first | refine bset ?_ ?_ | exact Below.refl _ _ | assumption | refine bdrewN ?_ _ | refine bdrew ?_ | refine balloc0 ?_ | refine balloc ?_ ?_ | (apply btrans0; rotate_left; assumption) | (apply btrans; rotate_left; assumption)) | exact Below.refl _ _ | assumption | (apply btrans0; rotate_left; assumption) | (apply btrans; rotate_left; assumption) | (simp; done) | omega | (simp; omega)))
  have HRU := Lib.hid hru
  have HSP := Lib.hid hsp
  obtain ⟨nn15, hnn⟩ : ∃ n, bA.blocks.length = n := ⟨_, rfl⟩
  rw [hnn]
  rw [hnn] at HRU HSP
  have HNN15 := Lib.hid hnn
  have fa15 := fun o => frozenB A15 o
  have HA150 := Lib.hid A15
  have HR150 := Lib.hid R15
  clear A15 R15 hru g1 g2 g3 g4 hnn ca cr fr hsp hb15
  simp only [bunC]
  go_wp2_with (refine wpList_store_block rfl 28 _ _ rfl w.heap.size #[.int .i64 bA.src, .int .i64 bA.crt, .int .i64 bA.seq, .int .i64 bA.off, .int .i64 bA.tot, .int .i64 bA.dk, .int .i64 bA.dn, .int .i64 bA.life, .int .i64 bA.prio, .int .i64 bA.flags, .slice va15 nn15 vc15, .string (B bA.payload)] _ 28 rfl rfl HA150.out rfl (by kernel_rfl) (by simp [Value.oneCell']) ?_; intro w5 hW hbW hsW hoW; have hB5 : Below w.heap.size w w5 := hB15.trans (hbW _ (by omega)); have z5 : w.heap.size + 1 < w5.heap.size := (by rw [hsW]; omega); have z5a : w.heap.size < w5.heap.size := (by rw [hsW]; omega); have R5 := (hoW (w.heap.size + 1) (by omega)).trans HR150.out; have ca := fun o => cellB hW o; have fa := fun o => frozenB hW o; have cr := fun o => cellB R5 o; have fr := fun o => frozenB R5 o; have HA5 := Lib.hid hW; have HR5 := Lib.hid R5; have HI5 := Lib.hid (RInts.fresh ((HI4.out).below' hb150.out) HFR.out (fun q o hq hq2 => World.cell?_of_block (hoW q (by omega))) (M := w5.heap.size) (by rw [hsW]; omega)); have HB5 := Lib.hid (RBlks.apart HRU.out HSP.out (fun q o hq hq2 => World.cell?_of_block (hoW q hq)) (M := w5.heap.size) (by rw [hsW]; omega)); clear hW R5 hbW hsW hoW fa15)
  go_wp2_with fail
  refine (rsetHops_any bA _ lim (cnt + 1) _ (HB5.out) HFA.out).mono ?_
  unfold FwdPost
  rw [HSH.out]
  simp only
  rintro e w16 ⟨u16, rfl, hru, hb16⟩
  obtain ⟨va16, vc16, rfl, g1, g2, g3, g4⟩ := id hru
  have A16 := (hb16.block _ z5a).trans HA5.out
  have R16 := (hb16.block _ z5).trans HR5.out
  have hsp : Sep w.heap.size (w.heap.size + 1) (.slice va16 bH.blocks.length vc16) bH.blocks := (Sep.box hru A16 (by first | exact noBlk_bun _ _ _ _ | exact noBlk12)).two (Sep.box hru R16 noBlk12)
  have hb160 := Lib.hid hb16
  have z16 : w.heap.size + 1 < w16.heap.size := by have := hb16.size; omega
  have z16a : w.heap.size < w16.heap.size := by omega
  have hB16 : Below w.heap.size w w16 := (by repeat' (first | with_reducible (first | refine bset ?_ ?_ | exact Below.refl _ _ | assumption | refine bdrewN ?_ _ | refine bdrew ?_ | refine balloc0 ?_ | refine balloc ?_ ?_ | (apply btrans0; rotate_left; assumption) | (apply btrans; rotate_left; assumption)) | exact Below.refl _ _ | assumption | (apply btrans0; rotate_left; assumption) | (apply btrans; rotate_left; assumption) | (simp; done) | omega | (simp; omega)))
  have HRU := Lib.hid hru
  have HSP := Lib.hid hsp
  obtain ⟨nn16, hnn⟩ : ∃ n, bH.blocks.length = n := ⟨_, rfl⟩
  rw [hnn]
  rw [hnn] at HRU HSP
  have HNN16 := Lib.hid hnn
  have fa16 := fun o => frozenB A16 o
  have HA160 := Lib.hid A16
  have HR160 := Lib.hid R16
  clear A16 R16 hru g1 g2 g3 g4 hnn ca cr fr hsp hb16
  simp only [bunC]
  go_wp2_with (refine wpList_store_block rfl 28 _ _ rfl w.heap.size #[.int .i64 bH.src, .int .i64 bH.crt, .int .i64 bH.seq, .int .i64 bH.off, .int .i64 bH.tot, .int .i64 bH.dk, .int .i64 bH.dn, .int .i64 bH.life, .int .i64 bH.prio, .int .i64 bH.flags, .slice va16 nn16 vc16, .string (B bH.payload)] _ 28 rfl rfl HA160.out rfl (by kernel_rfl) (by simp [Value.oneCell']) ?_; intro w6 hW hbW hsW hoW; have hB6 : Below w.heap.size w w6 := hB16.trans (hbW _ (by omega)); have z6 : w.heap.size + 1 < w6.heap.size := (by rw [hsW]; omega); have z6a : w.heap.size < w6.heap.size := (by rw [hsW]; omega); have R6 := (hoW (w.heap.size + 1) (by omega)).trans HR160.out; have ca := fun o => cellB hW o; have fa := fun o => frozenB hW o; have cr := fun o => cellB R6 o; have fr := fun o => frozenB R6 o; have HA6 := Lib.hid hW; have HR6 := Lib.hid R6; have HI6 := Lib.hid (RInts.fresh ((HI5.out).below' hb160.out) HFR.out (fun q o hq hq2 => World.cell?_of_block (hoW q (by omega))) (M := w6.heap.size) (by rw [hsW]; omega)); have HB6 := Lib.hid (RBlks.apart HRU.out HSP.out (fun q o hq hq2 => World.cell?_of_block (hoW q hq)) (M := w6.heap.size) (by rw [hsW]; omega)); clear hW R6 hbW hsW hoW fa16)
  go_wp2_with fail
  refine (rvisit0_any bH _ lv _ n _ (HB6.out) HFH.out HCK.out (HI6.out) HVL.out HND.out).mono ?_
  unfold FwdPost
  rw [HEND.out]
  simp only
  rintro e w9 ⟨u9, rfl, hru, hb9⟩
  obtain ⟨va, vc, rfl, g1, g2, g3, g4⟩ := id hru
  have R9 := (hb9.block _ z6).trans HR6.out
  have hsp : Sep (w.heap.size + 1) (w.heap.size + 1) (.slice va X.blocks.length vc) X.blocks := Sep.box hru R9 noBlk12
  have cr9 := fun o => cellB R9 o
  have fr9 := fun o => frozenB R9 o
  have z9 : w.heap.size + 1 < w9.heap.size := by have := hb9.size; omega
  have hB9 : Below w.heap.size w w9 := (by repeat' (first | with_reducible (first | refine bset ?_ ?_ | exact Below.refl _ _ | assumption | refine bdrewN ?_ _ | refine bdrew ?_ | refine balloc0 ?_ | refine balloc ?_ ?_ | (apply btrans0; rotate_left; assumption) | (apply btrans; rotate_left; assumption)) | exact Below.refl _ _ | assumption | (apply btrans0; rotate_left; assumption) | (apply btrans; rotate_left; assumption) | (simp; done) | omega | (simp; omega)))
  have HRU := Lib.hid hru
  have HSP := Lib.hid hsp
  obtain ⟨nn, hnn⟩ : ∃ n, X.blocks.length = n := ⟨_, rfl⟩
  rw [hnn]
  rw [hnn] at HRU HSP
  have HNN := Lib.hid hnn
  clear R9 hru g1 g2 g3 g4 hnn ca cr fr hsp hb9
  simp only [bunC]
  go_wp2_with fail
  refine bodyPost_ret (v := .tuple #[.agg #[.int .i64 X.src, .int .i64 X.crt, .int .i64 X.seq, .int .i64 X.off, .int .i64 X.tot, .int .i64 X.dk, .int .i64 X.dn, .int .i64 X.life, .int .i64 X.prio, .int .i64 X.flags, .slice va nn vc, .string (B X.payload)], .int .i64 XE]) (by simp [results, Try.results25, go_sem, World.cell?_setCell_same', cr9, z9]) rfl ?_
  unfold FwdPost
  exact ⟨_, rfl, RBlks.apart HRU.out HSP.out (fun q o hq hq2 => by simp (disch := first | exact hq | exact fun e => hq e.symm | (simp; omega)) only [World.cell?_setCell_far]) (by simp), (by repeat' (first | with_reducible (first | refine bset ?_ ?_ | exact Below.refl _ _ | assumption | refine bdrewN ?_ _ | refine bdrew ?_ | refine balloc0 ?_ | refine balloc ?_ ?_ | (apply btrans0; rotate_left; assumption) | (apply btrans; rotate_left; assumption)) | exact Below.refl _ _ | assumption | (apply btrans0; rotate_left; assumption) | (apply btrans; rotate_left; assumption) | (simp; done) | omega | (simp; omega)))⟩
set_option maxRecDepth 100000 in
set_option maxHeartbeats 8000000 in
theorem rfwd_07 (b : Bun) (u : Value) (n el : Int) (w : World) (h : RBlks w w.heap.size u b.blocks) (hf : Fits b) (a1 lim cnt : Int) (lv : List Int) (ev : Int) (hk : Fwk b n el) (hag : ageS b = (a1, 0)) (hho : hopS b = (lim, cnt, 7)) (hg : getS b 3 = (lv, ev)) :
    Calls Try.prog 25 #[.agg (bunC b u).toArray, .int .i64 n, .int .i64 el] w (FwdPost (fwdS b n el) w) := by
  have hfA := fits_age (x := a1 + el) hf
  have HF := Lib.hid hf
  have HR := Lib.hid h
  obtain ⟨a, c, rfl, h1, h2, h3, h4⟩ := h
  clear h1 h2 h3 h4 hf
  obtain ⟨hck, he1, he2⟩ := fwk_end hk
  obtain ⟨sA, eA⟩ := stepA hk
  obtain ⟨sH, eH⟩ := stepH hk sA
  obtain ⟨hE, hnd, r1, r2, -, -, q3, h8, h9⟩ := hk
  have ga : (getS b 1).2 = 0 := by have := congrArg Prod.snd hag; exact this
  have gh : (getS b 2).2 = 7 := by have := congrArg (fun q => q.2.2) hho; exact this
  have r1' : ¬ el < 0 := by omega
  have r2' : ¬ 1099511627776 < el := by omega
  have h8 := h8 ga
  have eA := eA ga
  rw [hag] at h8 eA
  simp only at h8 eA
  obtain ⟨y1, y2⟩ := age_facts hag
  have hwr : IntKind.i64.wrap (a1 + el) = a1 + el := by rw [IntKind.wrap_i64]; omega
  have hl2 : ¬ b.life ≤ a1 + el := by omega
  rw [eA] at hfA
  obtain ⟨bA, hbA⟩ : ∃ q, fwdA b el = q := ⟨_, rfl⟩
  rw [hbA] at eA hfA eH hck he1 he2
  have HSA := Lib.hid eA
  have HFA := Lib.hid hfA
  have hbH : fwdH b bA = bA := if_neg (by rw [gh]; decide)
  rw [hbH] at hck he1 he2
  have HCK := Lib.hid hck
  rw [hg] at he1 he2 q3
  simp only at he1 he2 q3
  have HVL := Lib.hid (get3_vis hg)
  have HE := Lib.hid hE
  have HND := Lib.hid hnd
  have HAG := Lib.hid hag
  have HHO := Lib.hid hho
  have HG := Lib.hid hg
  have k3 : (ev == 11) = false := beq_eq_false_iff_ne.2 q3
  by_cases q0 : ev = 0
  case neg =>
    have he := he1 q0
    rw [he]
    have k0 : (ev != 0) = true := by rw [bne_iff_ne]; exact q0
    clear hE hnd hag hho hg q3 ga gh sA sH hck h8 h9 eA eH hbA hbH hfA he he1 he2 q0
    go_enter Try.func25, Try.ntmps25
    simp only [bunC]
    go_wp2_with fail
    refine (rcheck_any b _ _ (HR.out.below' (by repeat' (first | with_reducible (first | refine bset ?_ ?_ | exact Below.refl _ _ | assumption | refine bdrewN ?_ _ | refine bdrew ?_ | refine balloc0 ?_ | refine balloc ?_ ?_ | (apply btrans0; rotate_left; assumption) | (apply btrans; rotate_left; assumption)) | exact Below.refl _ _ | assumption | (apply btrans0; rotate_left; assumption) | (apply btrans; rotate_left; assumption) | (simp; done) | omega | (simp; omega)))) HF.out).mono ?_
    rw [HE.out]
    rintro e w1 ⟨rfl, hb1⟩
    have hB1 : Below w.heap.size w w1 := (by repeat' (first | with_reducible (first | refine bset ?_ ?_ | exact Below.refl _ _ | assumption | refine bdrewN ?_ _ | refine bdrew ?_ | refine balloc0 ?_ | refine balloc ?_ ?_ | (apply btrans0; rotate_left; assumption) | (apply btrans; rotate_left; assumption)) | exact Below.refl _ _ | assumption | (apply btrans0; rotate_left; assumption) | (apply btrans; rotate_left; assumption) | (simp; done) | omega | (simp; omega)))
    have z1 : w.heap.size + 1 < w1.heap.size := by have := hb1.size; (try simp at this); omega
    have z1a : w.heap.size < w1.heap.size := by omega
    have A1 : w1.heap[w.heap.size]? = some (.cells (bunC b (.slice a b.blocks.length c)).toArray 28 (0, 0)) := (hb1.block _ (by first | omega | (simp; done) | (simp; omega))).trans (by repeat (first | exact heap_new' (by first | rfl | (simp; done)) | refine (Below.heap_alloc _ _ _ (by first | (simp; done) | (simp; omega))).trans ?_))
    have R1 : w1.heap[w.heap.size + 1]? = some (.cells #[.int .i64 0, .int .i64 0, .int .i64 0, .int .i64 0, .int .i64 0, .int .i64 0, .int .i64 0, .int .i64 0, .int .i64 0, .int .i64 0, .slice none 0 0, .string ⟨#[]⟩] 28 (0, 0)) := (hb1.block _ (by simp)).trans (by repeat (first | exact heap_new' (by first | rfl | (simp; done)) | refine (Below.heap_alloc _ _ _ (by first | (simp; done) | (simp; omega))).trans ?_))
    have ca := fun o => cellB A1 o
    have cr := fun o => cellB R1 o
    have fr := fun o => frozenB R1 o
    simp only [bunC] at ca
    have HA1 := Lib.hid A1
    have HR1 := Lib.hid R1
    clear A1 R1 hb1
    go_wp2_with fail
    refine (rnode_any n _).mono ?_
    rw [HND.out]
    rintro e w99 ⟨rfl, hw⟩
    subst hw
    go_wp2_with fail
    refine (rage0_any b _ _ (HR.out.below' (by repeat' (first | with_reducible (first | refine bset ?_ ?_ | exact Below.refl _ _ | assumption | refine bdrewN ?_ _ | refine bdrew ?_ | refine balloc0 ?_ | refine balloc ?_ ?_ | (apply btrans0; rotate_left; assumption) | (apply btrans; rotate_left; assumption)) | exact Below.refl _ _ | assumption | (apply btrans0; rotate_left; assumption) | (apply btrans; rotate_left; assumption) | (simp; done) | omega | (simp; omega)))) HE.out).mono ?_
    rw [HAG.out]
    simp only
    rintro e w2 ⟨rfl, hb2⟩
    have hB2 : Below w.heap.size w w2 := (by repeat' (first | with_reducible (first | refine bset ?_ ?_ | exact Below.refl _ _ | assumption | refine bdrewN ?_ _ | refine bdrew ?_ | refine balloc0 ?_ | refine balloc ?_ ?_ | (apply btrans0; rotate_left; assumption) | (apply btrans; rotate_left; assumption)) | exact Below.refl _ _ | assumption | (apply btrans0; rotate_left; assumption) | (apply btrans; rotate_left; assumption) | (simp; done) | omega | (simp; omega)))
    have z2 : w.heap.size + 1 < w2.heap.size := by have := hb2.size; (try simp at this); omega
    have z2a : w.heap.size < w2.heap.size := by omega
    have A2 : w2.heap[w.heap.size]? = some (.cells (bunC b (.slice a b.blocks.length c)).toArray 28 (0, 0)) := (hb2.block _ z1a).trans HA1.out
    have R2 : w2.heap[w.heap.size + 1]? = some (.cells #[.int .i64 0, .int .i64 0, .int .i64 0, .int .i64 0, .int .i64 0, .int .i64 0, .int .i64 0, .int .i64 0, .int .i64 0, .int .i64 0, .slice none 0 0, .string ⟨#[]⟩] 28 (0, 0)) := (hb2.block _ z1).trans HR1.out
    clear ca cr fr
    have ca := fun o => cellB A2 o
    have cr := fun o => cellB R2 o
    have fr := fun o => frozenB R2 o
    simp only [bunC] at ca
    have HA2 := Lib.hid A2
    have HR2 := Lib.hid R2
    clear A2 R2 hb2
    go_wp2_with fail
    refine (rhop0_any b _ _ (HR.out.below' (by repeat' (first | with_reducible (first | refine bset ?_ ?_ | exact Below.refl _ _ | assumption | refine bdrewN ?_ _ | refine bdrew ?_ | refine balloc0 ?_ | refine balloc ?_ ?_ | (apply btrans0; rotate_left; assumption) | (apply btrans; rotate_left; assumption)) | exact Below.refl _ _ | assumption | (apply btrans0; rotate_left; assumption) | (apply btrans; rotate_left; assumption) | (simp; done) | omega | (simp; omega)))) HE.out).mono ?_
    rw [HHO.out]
    simp only
    rintro e w3 ⟨rfl, hb3⟩
    have hB3 : Below w.heap.size w w3 := (by repeat' (first | with_reducible (first | refine bset ?_ ?_ | exact Below.refl _ _ | assumption | refine bdrewN ?_ _ | refine bdrew ?_ | refine balloc0 ?_ | refine balloc ?_ ?_ | (apply btrans0; rotate_left; assumption) | (apply btrans; rotate_left; assumption)) | exact Below.refl _ _ | assumption | (apply btrans0; rotate_left; assumption) | (apply btrans; rotate_left; assumption) | (simp; done) | omega | (simp; omega)))
    have z3 : w.heap.size + 1 < w3.heap.size := by have := hb3.size; (try simp at this); omega
    have z3a : w.heap.size < w3.heap.size := by omega
    have A3 : w3.heap[w.heap.size]? = some (.cells (bunC b (.slice a b.blocks.length c)).toArray 28 (0, 0)) := (hb3.block _ z2a).trans HA2.out
    have R3 : w3.heap[w.heap.size + 1]? = some (.cells #[.int .i64 0, .int .i64 0, .int .i64 0, .int .i64 0, .int .i64 0, .int .i64 0, .int .i64 0, .int .i64 0, .int .i64 0, .int .i64 0, .slice none 0 0, .string ⟨#[]⟩] 28 (0, 0)) := (hb3.block _ z2).trans HR2.out
    clear ca cr fr
    have ca := fun o => cellB A3 o
    have cr := fun o => cellB R3 o
    have fr := fun o => frozenB R3 o
    simp only [bunC] at ca
    have HA3 := Lib.hid A3
    have HR3 := Lib.hid R3
    clear A3 R3 hb3
    go_wp2_with fail
    refine (rvis0_from b _ _ (HR.out.below' (by repeat' (first | with_reducible (first | refine bset ?_ ?_ | exact Below.refl _ _ | assumption | refine bdrewN ?_ _ | refine bdrew ?_ | refine balloc0 ?_ | refine balloc ?_ ?_ | (apply btrans0; rotate_left; assumption) | (apply btrans; rotate_left; assumption)) | exact Below.refl _ _ | assumption | (apply btrans0; rotate_left; assumption) | (apply btrans; rotate_left; assumption) | (simp; done) | omega | (simp; omega)))) HE.out).mono ?_
    unfold GetFrom
    rw [HG.out]
    simp only
    rintro e w4 ⟨v, rfl, hb4, hri, hfr⟩
    have HI4 := Lib.hid hri
    have HFR : Hid (RFrom (w.heap.size + 2) v) := Lib.hid (hfr.mono (by omega))
    clear hri hfr
    have hB4 : Below w.heap.size w w4 := (by repeat' (first | with_reducible (first | refine bset ?_ ?_ | exact Below.refl _ _ | assumption | refine bdrewN ?_ _ | refine bdrew ?_ | refine balloc0 ?_ | refine balloc ?_ ?_ | (apply btrans0; rotate_left; assumption) | (apply btrans; rotate_left; assumption)) | exact Below.refl _ _ | assumption | (apply btrans0; rotate_left; assumption) | (apply btrans; rotate_left; assumption) | (simp; done) | omega | (simp; omega)))
    have z4 : w.heap.size + 1 < w4.heap.size := by have := hb4.size; (try simp at this); omega
    have z4a : w.heap.size < w4.heap.size := by omega
    have A4 : w4.heap[w.heap.size]? = some (.cells (bunC b (.slice a b.blocks.length c)).toArray 28 (0, 0)) := (hb4.block _ z3a).trans HA3.out
    have R4 : w4.heap[w.heap.size + 1]? = some (.cells #[.int .i64 0, .int .i64 0, .int .i64 0, .int .i64 0, .int .i64 0, .int .i64 0, .int .i64 0, .int .i64 0, .int .i64 0, .int .i64 0, .slice none 0 0, .string ⟨#[]⟩] 28 (0, 0)) := (hb4.block _ z3).trans HR3.out
    clear ca cr fr
    have ca := fun o => cellB A4 o
    have cr := fun o => cellB R4 o
    have fr := fun o => frozenB R4 o
    simp only [bunC] at ca
    have HA4 := Lib.hid A4
    have HR4 := Lib.hid R4
    clear A4 R4 hb4
    go_wp2_with fail
    refine (rsetAge_any b _ (a1 + el) _ (HR.out.below' (by repeat' (first | with_reducible (first | refine bset ?_ ?_ | exact Below.refl _ _ | assumption | refine bdrewN ?_ _ | refine bdrew ?_ | refine balloc0 ?_ | refine balloc ?_ ?_ | (apply btrans0; rotate_left; assumption) | (apply btrans; rotate_left; assumption)) | exact Below.refl _ _ | assumption | (apply btrans0; rotate_left; assumption) | (apply btrans; rotate_left; assumption) | (simp; done) | omega | (simp; omega)))) HF.out).mono ?_
    unfold FwdPost
    rw [HSA.out]
    simp only
    rintro e w15 ⟨u15, rfl, hru, hb15⟩
    obtain ⟨va15, vc15, rfl, g1, g2, g3, g4⟩ := id hru
    have A15 := (hb15.block _ z4a).trans HA4.out
    have R15 := (hb15.block _ z4).trans HR4.out
    have hsp : Sep w.heap.size (w.heap.size + 1) (.slice va15 bA.blocks.length vc15) bA.blocks := (Sep.box hru A15 (by first | exact noBlk_bun _ _ _ _ | exact noBlk12)).two (Sep.box hru R15 noBlk12)
    have hb150 := Lib.hid hb15
    have z15 : w.heap.size + 1 < w15.heap.size := by have := hb15.size; omega
    have z15a : w.heap.size < w15.heap.size := by omega
    have hB15 : Below w.heap.size w w15 := (by repeat' (first | with_reducible (first | refine bset ?_ ?_ | exact Below.refl _ _ | assumption | refine bdrewN ?_ _ | refine bdrew ?_ | refine balloc0 ?_ | refine balloc ?_ ?_ | (apply btrans0; rotate_left; assumption) | (apply btrans; rotate_left; assumption)) | exact Below.refl _ _ | assumption | (apply btrans0; rotate_left; assumption) | (apply btrans; rotate_left; assumption) | (simp; done) | omega | (simp; omega)))
    have HRU := Lib.hid hru
    have HSP := Lib.hid hsp
    obtain ⟨nn15, hnn⟩ : ∃ n, bA.blocks.length = n := ⟨_, rfl⟩
    rw [hnn]
    rw [hnn] at HRU HSP
    have HNN15 := Lib.hid hnn
    have fa15 := fun o => frozenB A15 o
    have HA150 := Lib.hid A15
    have HR150 := Lib.hid R15
    clear A15 R15 hru g1 g2 g3 g4 hnn ca cr fr hsp hb15
    simp only [bunC]
    go_wp2_with (refine wpList_store_block rfl 28 _ _ rfl w.heap.size #[.int .i64 bA.src, .int .i64 bA.crt, .int .i64 bA.seq, .int .i64 bA.off, .int .i64 bA.tot, .int .i64 bA.dk, .int .i64 bA.dn, .int .i64 bA.life, .int .i64 bA.prio, .int .i64 bA.flags, .slice va15 nn15 vc15, .string (B bA.payload)] _ 28 rfl rfl HA150.out rfl (by kernel_rfl) (by simp [Value.oneCell']) ?_; intro w5 hW hbW hsW hoW; have hB5 : Below w.heap.size w w5 := hB15.trans (hbW _ (by omega)); have z5 : w.heap.size + 1 < w5.heap.size := (by rw [hsW]; omega); have z5a : w.heap.size < w5.heap.size := (by rw [hsW]; omega); have R5 := (hoW (w.heap.size + 1) (by omega)).trans HR150.out; have ca := fun o => cellB hW o; have fa := fun o => frozenB hW o; have cr := fun o => cellB R5 o; have fr := fun o => frozenB R5 o; have HA5 := Lib.hid hW; have HR5 := Lib.hid R5; have HI5 := Lib.hid (RInts.fresh ((HI4.out).below' hb150.out) HFR.out (fun q o hq hq2 => World.cell?_of_block (hoW q (by omega))) (M := w5.heap.size) (by rw [hsW]; omega)); have HB5 := Lib.hid (RBlks.apart HRU.out HSP.out (fun q o hq hq2 => World.cell?_of_block (hoW q hq)) (M := w5.heap.size) (by rw [hsW]; omega)); clear hW R5 hbW hsW hoW fa15)
    have HSE := Lib.hid (Sep.box (N := w5.heap.size) (HB5.out) HR5.out noBlk12)
    go_wp2_with fail
    refine bodyPost_ret (v := .tuple #[.agg #[.int .i64 bA.src, .int .i64 bA.crt, .int .i64 bA.seq, .int .i64 bA.off, .int .i64 bA.tot, .int .i64 bA.dk, .int .i64 bA.dn, .int .i64 bA.life, .int .i64 bA.prio, .int .i64 bA.flags, .slice va15 nn15 vc15, .string (B bA.payload)], .int .i64 0]) (by simp [results, Try.results25, go_sem, World.cell?_setCell_same', cr, ca, z5]) rfl ?_
    unfold FwdPost
    exact ⟨_, rfl, RBlks.apart (HB5.out) HSE.out (fun q o hq hq2 => by simp (disch := first | exact hq | exact fun e => hq e.symm | (simp; omega)) only [World.cell?_setCell_far]) (by simp), (by repeat' (first | with_reducible (first | refine bset ?_ ?_ | exact Below.refl _ _ | assumption | refine bdrewN ?_ _ | refine bdrew ?_ | refine balloc0 ?_ | refine balloc ?_ ?_ | (apply btrans0; rotate_left; assumption) | (apply btrans; rotate_left; assumption)) | exact Below.refl _ _ | assumption | (apply btrans0; rotate_left; assumption) | (apply btrans; rotate_left; assumption) | (simp; done) | omega | (simp; omega)))⟩
  have he := he2 q0
  obtain ⟨⟨X, XE⟩, hX⟩ : ∃ q, fwdS b n el = q := ⟨_, rfl⟩
  rw [hX] at he ⊢
  have HEND := Lib.hid he.symm
  subst q0
  clear hE hnd hag hho hg q3 ga gh sA sH hck h8 h9 eA eH hbA hbH hfA he he1 he2 hX
  go_enter Try.func25, Try.ntmps25
  simp only [bunC]
  go_wp2_with fail
  refine (rcheck_any b _ _ (HR.out.below' (by repeat' (first | with_reducible (first | refine bset ?_ ?_ | exact Below.refl _ _ | assumption | refine bdrewN ?_ _ | refine bdrew ?_ | refine balloc0 ?_ | refine balloc ?_ ?_ | (apply btrans0; rotate_left; assumption) | (apply btrans; rotate_left; assumption)) | exact Below.refl _ _ | assumption | (apply btrans0; rotate_left; assumption) | (apply btrans; rotate_left; assumption) | (simp; done) | omega | (simp; omega)))) HF.out).mono ?_
  rw [HE.out]
  rintro e w1 ⟨rfl, hb1⟩
  have hB1 : Below w.heap.size w w1 := (by repeat' (first | with_reducible (first | refine bset ?_ ?_ | exact Below.refl _ _ | assumption | refine bdrewN ?_ _ | refine bdrew ?_ | refine balloc0 ?_ | refine balloc ?_ ?_ | (apply btrans0; rotate_left; assumption) | (apply btrans; rotate_left; assumption)) | exact Below.refl _ _ | assumption | (apply btrans0; rotate_left; assumption) | (apply btrans; rotate_left; assumption) | (simp; done) | omega | (simp; omega)))
  have z1 : w.heap.size + 1 < w1.heap.size := by have := hb1.size; (try simp at this); omega
  have z1a : w.heap.size < w1.heap.size := by omega
  have A1 : w1.heap[w.heap.size]? = some (.cells (bunC b (.slice a b.blocks.length c)).toArray 28 (0, 0)) := (hb1.block _ (by first | omega | (simp; done) | (simp; omega))).trans (by repeat (first | exact heap_new' (by first | rfl | (simp; done)) | refine (Below.heap_alloc _ _ _ (by first | (simp; done) | (simp; omega))).trans ?_))
  have R1 : w1.heap[w.heap.size + 1]? = some (.cells #[.int .i64 0, .int .i64 0, .int .i64 0, .int .i64 0, .int .i64 0, .int .i64 0, .int .i64 0, .int .i64 0, .int .i64 0, .int .i64 0, .slice none 0 0, .string ⟨#[]⟩] 28 (0, 0)) := (hb1.block _ (by simp)).trans (by repeat (first | exact heap_new' (by first | rfl | (simp; done)) | refine (Below.heap_alloc _ _ _ (by first | (simp; done) | (simp; omega))).trans ?_))
  have ca := fun o => cellB A1 o
  have cr := fun o => cellB R1 o
  have fr := fun o => frozenB R1 o
  simp only [bunC] at ca
  have HA1 := Lib.hid A1
  have HR1 := Lib.hid R1
  clear A1 R1 hb1
  go_wp2_with fail
  refine (rnode_any n _).mono ?_
  rw [HND.out]
  rintro e w99 ⟨rfl, hw⟩
  subst hw
  go_wp2_with fail
  refine (rage0_any b _ _ (HR.out.below' (by repeat' (first | with_reducible (first | refine bset ?_ ?_ | exact Below.refl _ _ | assumption | refine bdrewN ?_ _ | refine bdrew ?_ | refine balloc0 ?_ | refine balloc ?_ ?_ | (apply btrans0; rotate_left; assumption) | (apply btrans; rotate_left; assumption)) | exact Below.refl _ _ | assumption | (apply btrans0; rotate_left; assumption) | (apply btrans; rotate_left; assumption) | (simp; done) | omega | (simp; omega)))) HE.out).mono ?_
  rw [HAG.out]
  simp only
  rintro e w2 ⟨rfl, hb2⟩
  have hB2 : Below w.heap.size w w2 := (by repeat' (first | with_reducible (first | refine bset ?_ ?_ | exact Below.refl _ _ | assumption | refine bdrewN ?_ _ | refine bdrew ?_ | refine balloc0 ?_ | refine balloc ?_ ?_ | (apply btrans0; rotate_left; assumption) | (apply btrans; rotate_left; assumption)) | exact Below.refl _ _ | assumption | (apply btrans0; rotate_left; assumption) | (apply btrans; rotate_left; assumption) | (simp; done) | omega | (simp; omega)))
  have z2 : w.heap.size + 1 < w2.heap.size := by have := hb2.size; (try simp at this); omega
  have z2a : w.heap.size < w2.heap.size := by omega
  have A2 : w2.heap[w.heap.size]? = some (.cells (bunC b (.slice a b.blocks.length c)).toArray 28 (0, 0)) := (hb2.block _ z1a).trans HA1.out
  have R2 : w2.heap[w.heap.size + 1]? = some (.cells #[.int .i64 0, .int .i64 0, .int .i64 0, .int .i64 0, .int .i64 0, .int .i64 0, .int .i64 0, .int .i64 0, .int .i64 0, .int .i64 0, .slice none 0 0, .string ⟨#[]⟩] 28 (0, 0)) := (hb2.block _ z1).trans HR1.out
  clear ca cr fr
  have ca := fun o => cellB A2 o
  have cr := fun o => cellB R2 o
  have fr := fun o => frozenB R2 o
  simp only [bunC] at ca
  have HA2 := Lib.hid A2
  have HR2 := Lib.hid R2
  clear A2 R2 hb2
  go_wp2_with fail
  refine (rhop0_any b _ _ (HR.out.below' (by repeat' (first | with_reducible (first | refine bset ?_ ?_ | exact Below.refl _ _ | assumption | refine bdrewN ?_ _ | refine bdrew ?_ | refine balloc0 ?_ | refine balloc ?_ ?_ | (apply btrans0; rotate_left; assumption) | (apply btrans; rotate_left; assumption)) | exact Below.refl _ _ | assumption | (apply btrans0; rotate_left; assumption) | (apply btrans; rotate_left; assumption) | (simp; done) | omega | (simp; omega)))) HE.out).mono ?_
  rw [HHO.out]
  simp only
  rintro e w3 ⟨rfl, hb3⟩
  have hB3 : Below w.heap.size w w3 := (by repeat' (first | with_reducible (first | refine bset ?_ ?_ | exact Below.refl _ _ | assumption | refine bdrewN ?_ _ | refine bdrew ?_ | refine balloc0 ?_ | refine balloc ?_ ?_ | (apply btrans0; rotate_left; assumption) | (apply btrans; rotate_left; assumption)) | exact Below.refl _ _ | assumption | (apply btrans0; rotate_left; assumption) | (apply btrans; rotate_left; assumption) | (simp; done) | omega | (simp; omega)))
  have z3 : w.heap.size + 1 < w3.heap.size := by have := hb3.size; (try simp at this); omega
  have z3a : w.heap.size < w3.heap.size := by omega
  have A3 : w3.heap[w.heap.size]? = some (.cells (bunC b (.slice a b.blocks.length c)).toArray 28 (0, 0)) := (hb3.block _ z2a).trans HA2.out
  have R3 : w3.heap[w.heap.size + 1]? = some (.cells #[.int .i64 0, .int .i64 0, .int .i64 0, .int .i64 0, .int .i64 0, .int .i64 0, .int .i64 0, .int .i64 0, .int .i64 0, .int .i64 0, .slice none 0 0, .string ⟨#[]⟩] 28 (0, 0)) := (hb3.block _ z2).trans HR2.out
  clear ca cr fr
  have ca := fun o => cellB A3 o
  have cr := fun o => cellB R3 o
  have fr := fun o => frozenB R3 o
  simp only [bunC] at ca
  have HA3 := Lib.hid A3
  have HR3 := Lib.hid R3
  clear A3 R3 hb3
  go_wp2_with fail
  refine (rvis0_from b _ _ (HR.out.below' (by repeat' (first | with_reducible (first | refine bset ?_ ?_ | exact Below.refl _ _ | assumption | refine bdrewN ?_ _ | refine bdrew ?_ | refine balloc0 ?_ | refine balloc ?_ ?_ | (apply btrans0; rotate_left; assumption) | (apply btrans; rotate_left; assumption)) | exact Below.refl _ _ | assumption | (apply btrans0; rotate_left; assumption) | (apply btrans; rotate_left; assumption) | (simp; done) | omega | (simp; omega)))) HE.out).mono ?_
  unfold GetFrom
  rw [HG.out]
  simp only
  rintro e w4 ⟨v, rfl, hb4, hri, hfr⟩
  have HI4 := Lib.hid hri
  have HFR : Hid (RFrom (w.heap.size + 2) v) := Lib.hid (hfr.mono (by omega))
  clear hri hfr
  have hB4 : Below w.heap.size w w4 := (by repeat' (first | with_reducible (first | refine bset ?_ ?_ | exact Below.refl _ _ | assumption | refine bdrewN ?_ _ | refine bdrew ?_ | refine balloc0 ?_ | refine balloc ?_ ?_ | (apply btrans0; rotate_left; assumption) | (apply btrans; rotate_left; assumption)) | exact Below.refl _ _ | assumption | (apply btrans0; rotate_left; assumption) | (apply btrans; rotate_left; assumption) | (simp; done) | omega | (simp; omega)))
  have z4 : w.heap.size + 1 < w4.heap.size := by have := hb4.size; (try simp at this); omega
  have z4a : w.heap.size < w4.heap.size := by omega
  have A4 : w4.heap[w.heap.size]? = some (.cells (bunC b (.slice a b.blocks.length c)).toArray 28 (0, 0)) := (hb4.block _ z3a).trans HA3.out
  have R4 : w4.heap[w.heap.size + 1]? = some (.cells #[.int .i64 0, .int .i64 0, .int .i64 0, .int .i64 0, .int .i64 0, .int .i64 0, .int .i64 0, .int .i64 0, .int .i64 0, .int .i64 0, .slice none 0 0, .string ⟨#[]⟩] 28 (0, 0)) := (hb4.block _ z3).trans HR3.out
  clear ca cr fr
  have ca := fun o => cellB A4 o
  have cr := fun o => cellB R4 o
  have fr := fun o => frozenB R4 o
  simp only [bunC] at ca
  have HA4 := Lib.hid A4
  have HR4 := Lib.hid R4
  clear A4 R4 hb4
  go_wp2_with fail
  refine (rsetAge_any b _ (a1 + el) _ (HR.out.below' (by repeat' (first | with_reducible (first | refine bset ?_ ?_ | exact Below.refl _ _ | assumption | refine bdrewN ?_ _ | refine bdrew ?_ | refine balloc0 ?_ | refine balloc ?_ ?_ | (apply btrans0; rotate_left; assumption) | (apply btrans; rotate_left; assumption)) | exact Below.refl _ _ | assumption | (apply btrans0; rotate_left; assumption) | (apply btrans; rotate_left; assumption) | (simp; done) | omega | (simp; omega)))) HF.out).mono ?_
  unfold FwdPost
  rw [HSA.out]
  simp only
  rintro e w15 ⟨u15, rfl, hru, hb15⟩
  obtain ⟨va15, vc15, rfl, g1, g2, g3, g4⟩ := id hru
  have A15 := (hb15.block _ z4a).trans HA4.out
  have R15 := (hb15.block _ z4).trans HR4.out
  have hsp : Sep w.heap.size (w.heap.size + 1) (.slice va15 bA.blocks.length vc15) bA.blocks := (Sep.box hru A15 (by first | exact noBlk_bun _ _ _ _ | exact noBlk12)).two (Sep.box hru R15 noBlk12)
  have hb150 := Lib.hid hb15
  have z15 : w.heap.size + 1 < w15.heap.size := by have := hb15.size; omega
  have z15a : w.heap.size < w15.heap.size := by omega
  have hB15 : Below w.heap.size w w15 := (by repeat' (first | with_reducible (first | refine bset ?_ ?_ | exact Below.refl _ _ | assumption | refine bdrewN ?_ _ | refine bdrew ?_ | refine balloc0 ?_ | refine balloc ?_ ?_ | (apply btrans0; rotate_left; assumption) | (apply btrans; rotate_left; assumption)) | exact Below.refl _ _ | assumption | (apply btrans0; rotate_left; assumption) | (apply btrans; rotate_left; assumption) | (simp; done) | omega | (simp; omega)))
  have HRU := Lib.hid hru
  have HSP := Lib.hid hsp
  obtain ⟨nn15, hnn⟩ : ∃ n, bA.blocks.length = n := ⟨_, rfl⟩
  rw [hnn]
  rw [hnn] at HRU HSP
  have HNN15 := Lib.hid hnn
  have fa15 := fun o => frozenB A15 o
  have HA150 := Lib.hid A15
  have HR150 := Lib.hid R15
  clear A15 R15 hru g1 g2 g3 g4 hnn ca cr fr hsp hb15
  simp only [bunC]
  go_wp2_with (refine wpList_store_block rfl 28 _ _ rfl w.heap.size #[.int .i64 bA.src, .int .i64 bA.crt, .int .i64 bA.seq, .int .i64 bA.off, .int .i64 bA.tot, .int .i64 bA.dk, .int .i64 bA.dn, .int .i64 bA.life, .int .i64 bA.prio, .int .i64 bA.flags, .slice va15 nn15 vc15, .string (B bA.payload)] _ 28 rfl rfl HA150.out rfl (by kernel_rfl) (by simp [Value.oneCell']) ?_; intro w5 hW hbW hsW hoW; have hB5 : Below w.heap.size w w5 := hB15.trans (hbW _ (by omega)); have z5 : w.heap.size + 1 < w5.heap.size := (by rw [hsW]; omega); have z5a : w.heap.size < w5.heap.size := (by rw [hsW]; omega); have R5 := (hoW (w.heap.size + 1) (by omega)).trans HR150.out; have ca := fun o => cellB hW o; have fa := fun o => frozenB hW o; have cr := fun o => cellB R5 o; have fr := fun o => frozenB R5 o; have HA5 := Lib.hid hW; have HR5 := Lib.hid R5; have HI5 := Lib.hid (RInts.fresh ((HI4.out).below' hb150.out) HFR.out (fun q o hq hq2 => World.cell?_of_block (hoW q (by omega))) (M := w5.heap.size) (by rw [hsW]; omega)); have HB5 := Lib.hid (RBlks.apart HRU.out HSP.out (fun q o hq hq2 => World.cell?_of_block (hoW q hq)) (M := w5.heap.size) (by rw [hsW]; omega)); clear hW R5 hbW hsW hoW fa15)
  go_wp2_with fail
  refine (rvisit0_any bA _ lv _ n _ (HB5.out) HFA.out HCK.out (HI5.out) HVL.out HND.out).mono ?_
  unfold FwdPost
  rw [HEND.out]
  simp only
  rintro e w9 ⟨u9, rfl, hru, hb9⟩
  obtain ⟨va, vc, rfl, g1, g2, g3, g4⟩ := id hru
  have R9 := (hb9.block _ z5).trans HR5.out
  have hsp : Sep (w.heap.size + 1) (w.heap.size + 1) (.slice va X.blocks.length vc) X.blocks := Sep.box hru R9 noBlk12
  have cr9 := fun o => cellB R9 o
  have fr9 := fun o => frozenB R9 o
  have z9 : w.heap.size + 1 < w9.heap.size := by have := hb9.size; omega
  have hB9 : Below w.heap.size w w9 := (by repeat' (first | with_reducible (first | refine bset ?_ ?_ | exact Below.refl _ _ | assumption | refine bdrewN ?_ _ | refine bdrew ?_ | refine balloc0 ?_ | refine balloc ?_ ?_ | (apply btrans0; rotate_left; assumption) | (apply btrans; rotate_left; assumption)) | exact Below.refl _ _ | assumption | (apply btrans0; rotate_left; assumption) | (apply btrans; rotate_left; assumption) | (simp; done) | omega | (simp; omega)))
  have HRU := Lib.hid hru
  have HSP := Lib.hid hsp
  obtain ⟨nn, hnn⟩ : ∃ n, X.blocks.length = n := ⟨_, rfl⟩
  rw [hnn]
  rw [hnn] at HRU HSP
  have HNN := Lib.hid hnn
  clear R9 hru g1 g2 g3 g4 hnn ca cr fr hsp hb9
  simp only [bunC]
  go_wp2_with fail
  refine bodyPost_ret (v := .tuple #[.agg #[.int .i64 X.src, .int .i64 X.crt, .int .i64 X.seq, .int .i64 X.off, .int .i64 X.tot, .int .i64 X.dk, .int .i64 X.dn, .int .i64 X.life, .int .i64 X.prio, .int .i64 X.flags, .slice va nn vc, .string (B X.payload)], .int .i64 XE]) (by simp [results, Try.results25, go_sem, World.cell?_setCell_same', cr9, z9]) rfl ?_
  unfold FwdPost
  exact ⟨_, rfl, RBlks.apart HRU.out HSP.out (fun q o hq hq2 => by simp (disch := first | exact hq | exact fun e => hq e.symm | (simp; omega)) only [World.cell?_setCell_far]) (by simp), (by repeat' (first | with_reducible (first | refine bset ?_ ?_ | exact Below.refl _ _ | assumption | refine bdrewN ?_ _ | refine bdrew ?_ | refine balloc0 ?_ | refine balloc ?_ ?_ | (apply btrans0; rotate_left; assumption) | (apply btrans; rotate_left; assumption)) | exact Below.refl _ _ | assumption | (apply btrans0; rotate_left; assumption) | (apply btrans; rotate_left; assumption) | (simp; done) | omega | (simp; omega)))⟩
end Go.Proofs.Ythgokfceakbjlaa
