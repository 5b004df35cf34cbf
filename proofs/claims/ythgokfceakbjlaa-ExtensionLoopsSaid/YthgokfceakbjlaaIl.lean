/- Layer 14: the law's awake. -/
import Derived.Test.YthgokfceakbjlaaIj
import Derived.Test.YthgokfceakbjlaaIa
set_option linter.unusedVariables false
set_option linter.unusedSimpArgs false
namespace Go.Proofs.Ythgokfceakbjlaa
open Go Go.RowKit
attribute [local go_sem] B_getElem B_size B_app B_extract B_get B_toList

theorem putlen_le {l : List Blk} {y : Blk} (h : Srt l) : (putL l y).length ≤ l.length + 1 := by
  rw [putL_eq]
  have := congrArg List.length (srt_split (k := y.kind) h)
  simp only [List.length_append, List.length_singleton] at this ⊢
  omega
theorem room {b : Bun} {k : Int} {s : List UInt8} (h : chkE b = 0) (hk1 : 1 ≤ k) (hk2 : k ≤ 255) (hs : s.length ≤ 1024) (hl : b.blocks.length ≤ 7) : ∃ p, setS b k s = (p, 0) ∧ p.blocks.length ≤ b.blocks.length + 1 := by
  have hp := putlen_le (y := setBlk b k s) (chkE_srt h)
  rcases put_err h hk1 hk2 hs with ⟨a, _, _⟩ | ⟨_, _, a⟩
  · omega
  · exact ⟨_, a, hp⟩
def aw0 : Bun := ⟨0, 0, 0, 0, 0, 1, 0, 100, 0, 0, [], []⟩
theorem aw0_chk : chkE aw0 = 0 := by rfl
theorem aw0_fit : Fits aw0 := ⟨by simp [aw0, maxLen], fun x hx => by simp [aw0] at hx⟩
theorem fits_fwd {b p : Bun} {n el E : Int} (h : fwdS b n el = (p, E)) (hf : Fits b) : Fits p := by
  unfold fwdS at h
  split at h
  · simp only [Prod.mk.injEq] at h; rw [← h.1]; exact fits_z
  · simp only [Prod.mk.injEq] at h
    rw [← h.1]
    have f1 : Fits (fwdA b el) := by unfold fwdA; split; exact fits_age hf; exact hf
    have f2 : Fits (fwdH b (fwdA b el)) := by unfold fwdH; split; exact fits_hop f1; exact f1
    unfold fwdV; split; exact fits_vis f2; exact f2
theorem aw_facts : ∃ B1 B2 B3 B4 : Bun, setAgeS aw0 10 = (B1, 0) ∧ setHopS B1 2 0 = (B2, 0) ∧ visitS B2 3 = (B3, 0) ∧ fwdS B3 5 20 = (B4, 0) ∧ ageS B4 = (30, 0) ∧ hopS B4 = (2, 1, 0) ∧ getS B4 3 = ([3, 5], 0) ∧ fwdS B4 3 1 = (zBun, 27) ∧ fwdS B4 4 70 = (zBun, 17) ∧ Fits B1 ∧ Fits B2 ∧ Fits B3 ∧ Fits B4 := by
  have g0 : ∀ k, getS aw0 k = ([], 7) := fun k => getS_no aw0_chk (x := zBlk) rfl
  obtain ⟨B1, e1, l1⟩ := room (b := aw0) (k := 1) aw0_chk (by decide) (by decide) (len1 10) (by simp [aw0])
  have s1 := Stp.set aw0_chk (by decide) (by decide) (len1 10) e1 (dat1_enc (by decide) (by decide))
  obtain ⟨c1, ⟨b1, p1, _⟩, v1, w1⟩ := s1
  have a1 : setAgeS aw0 10 = (B1, 0) := by rw [setAgeS_ok aw0_chk (by decide) (by decide)]; exact e1
  obtain ⟨B2, e2, l2⟩ := room (b := B1) (k := 2) c1 (by decide) (by decide) (len2 2 0) (by simp [aw0] at l1; omega)
  have s2 := Stp.set c1 (by decide) (by decide) (len2 2 0) e2 (dat2_enc (by decide) (by decide) (by decide) (by decide))
  obtain ⟨c2, ⟨b2, p2, _⟩, v2, w2⟩ := s2
  have a2 : setHopS B1 2 0 = (B2, 0) := by rw [setHopS_ok c1 (by decide) (by decide) (by decide) (by decide)]; exact e2
  have g3 : getS B2 3 = ([], 7) := by rw [w2 3 (by decide), w1 3 (by decide), g0]
  have hv : visB ([] : List Int) = true := by decide
  obtain ⟨B3, e3, l3⟩ := room (b := B2) (k := 3) c2 (by decide) (by decide) (vis_len (n := 3) hv) (by simp [aw0] at l1; omega)
  have s3 := Stp.set c2 (by decide) (by decide) (vis_len (n := 3) hv) e3 (dat3_enc (visB_add hv (by decide) (by decide)))
  obtain ⟨c3, ⟨b3, p3, _⟩, v3, w3⟩ := s3
  have a3 : visitS B2 3 = (B3, 0) := by
    rw [visitS_ok c2 (by decide) (by rw [g3]; decide) (by rw [g3]; decide), g3]; exact e3
  have q1 : getS B3 1 = ([10], 0) := by rw [w3 1 (by decide), w2 1 (by decide), v1]
  have q2 : getS B3 2 = ([2, 0], 0) := by rw [w3 2 (by decide), v2]
  have q3 : getS B3 3 = ([3], 0) := v3
  have r1 : ageS B3 = (10, 0) := ageS_eq q1
  have r2 : hopS B3 = (2, 0, 0) := hopS_eq q2
  have lf : B3.life = 100 := by rw [p3, p2, p1]; rfl
  have k4 : Fwk B3 5 20 := ⟨c3, by decide, by decide, by decide, by rw [q1]; decide, by rw [q2]; decide, by rw [q3]; decide, fun _ => by rw [r1, lf]; decide, fun _ => by rw [r2]; decide⟩
  have z4 : fwdE B3 5 20 = 0 := by rw [fwk_E k4, q3]; decide
  obtain ⟨B4, e4⟩ : ∃ B4, fwdV B3 (fwdH B3 (fwdA B3 20)) 5 = B4 := ⟨_, rfl⟩
  have a4 : fwdS B3 5 20 = (B4, 0) := by unfold fwdS; rw [if_neg (by rw [z4]; decide), e4]
  obtain ⟨c4, ⟨b4, p4, _⟩, u1, u2, u3⟩ := fwd_facts a4
  rw [if_pos (by rw [q1]), r1] at u1
  rw [if_pos (by rw [q2]), r2] at u2
  rw [if_pos (by rw [q3]), q3] at u3
  have t1 : ageS B4 = (30, 0) := ageS_eq u1
  have t2 : hopS B4 = (2, 1, 0) := hopS_eq u2
  have t3 : getS B4 3 = ([3, 5], 0) := u3
  have lf4 : B4.life = 100 := by rw [p4]; exact lf
  have k5 : Fwk B4 3 1 := ⟨c4, by decide, by decide, by decide, by rw [u1]; decide, by rw [u2]; decide, by rw [t3]; decide, fun _ => by rw [t1, lf4]; decide, fun _ => by rw [t2]; decide⟩
  have z5 : fwdE B4 3 1 = 27 := by rw [fwk_E k5, t3]; decide
  have z6 : fwdE B4 4 70 = 17 := by
    unfold fwdE
    rw [if_neg (by rw [c4]; decide), if_neg (by decide), if_neg (by rw [u1, u2, t3]; decide), if_pos ⟨by rw [u1], by rw [t1, lf4]; decide⟩]
  have f1 := fits_age (x := 10) aw0_fit
  rw [a1] at f1
  have f2 := fits_hop (x := 2) (y := 0) f1
  rw [a2] at f2
  have f3 := fits_vis (n := 3) f2
  rw [a3] at f3
  exact ⟨B1, B2, B3, B4, a1, a2, a3, a4, t1, t2, t3, by unfold fwdS; rw [if_pos (by rw [z5]; decide), z5], by unfold fwdS; rw [if_pos (by rw [z6]; decide), z6], f1, f2, f3, fits_fwd a4 f3⟩
theorem run_max7 {P : Program} (ts : Array TypeId) (t : TypeId) (w : World) : (Builtin.max_ ts t #[.int .i64 0, .int .i64 0, .int .i64 0, .int .i64 0, .int .i64 0, .int .i64 0, .int .i64 0]).run P w = .ok (.int .i64 0) w := by
  simp [Builtin.max_, Builtin.max2]
attribute [local go_sem] run_max7
set_option maxRecDepth 100000 in
set_option maxHeartbeats 8000000 in
theorem awake_any (w : World) : Calls Try.prog 10 #[] w (Says w) := by
  obtain ⟨B1, B2, B3, B4, a1, a2, a3, a4, t1, t2, t3, t4, t5, f1, f2, f3, f4⟩ := aw_facts
  have H1 := Lib.hid a1
  have H2 := Lib.hid a2
  have H3 := Lib.hid a3
  have H4 := Lib.hid a4
  have T1 := Lib.hid t1
  have T2 := Lib.hid t2
  have T3 := Lib.hid t3
  have T4 := Lib.hid t4
  have T5 := Lib.hid t5
  have F1 := Lib.hid f1
  have F2 := Lib.hid f2
  have F3 := Lib.hid f3
  have F4 := Lib.hid f4
  clear a1 a2 a3 a4 t1 t2 t3 t4 t5 f1 f2 f3 f4
  go_enter Try.func10, Try.ntmps10
  go_wp2_with fail
  refine (setAge_any aw0 (.slice none 0 0) 10 _ (RBlks.nil _ _) aw0_fit).mono ?_
  unfold BunPost
  rw [H1.out]
  simp only
  rintro e w11 ⟨u11, rfl, hru, hrf, hb11⟩
  obtain ⟨va1, vc1, rfl, g1, g2, g3, g4⟩ := id hru
  have A11 : w11.heap[w.heap.size]? = some (.cells #[.int .i64 0, .int .i64 0, .int .i64 0, .int .i64 0, .int .i64 0, .int .i64 1, .int .i64 0, .int .i64 100, .int .i64 0, .int .i64 0, .slice none 0 0, .string (B [])] 28 (0, 0)) := (hb11.block _ (by simp)).trans heap_new
  have hsp : Sep w.heap.size w.heap.size (.slice va1 B1.blocks.length vc1) B1.blocks := Sep.box hru A11 noBlk12
  have z11 : w.heap.size < w11.heap.size := by have := hb11.size; (try simp at this); omega
  have hB11 : Below w.heap.size w w11 := (by repeat' (first | with_reducible (first | refine bset ?_ ?_ | exact Below.refl _ _ | assumption | refine bdrewN ?_ _ | refine bdrew ?_ | refine balloc0 ?_ | refine balloc ?_ ?_ | (apply btrans0; rotate_left; assumption) | (apply btrans; rotate_left; assumption)) | exact Below.refl _ _ | assumption | (apply btrans0; rotate_left; assumption) | (apply btrans; rotate_left; assumption) | (simp; done) | omega | (simp; omega)))
  have HRU := Lib.hid hru
  have HSP := Lib.hid hsp
  obtain ⟨nn1, hnn⟩ : ∃ n, B1.blocks.length = n := ⟨_, rfl⟩
  rw [hnn]
  rw [hnn] at HRU HSP
  have HNNK := Lib.hid hnn
  have HA110 := Lib.hid A11
  clear A11 hru g1 g2 g3 g4 hnn hsp hb11 hrf 
  simp only [bunC]
  go_wp2_with (refine wpList_store_block rfl 28 _ _ rfl w.heap.size #[.int .i64 B1.src, .int .i64 B1.crt, .int .i64 B1.seq, .int .i64 B1.off, .int .i64 B1.tot, .int .i64 B1.dk, .int .i64 B1.dn, .int .i64 B1.life, .int .i64 B1.prio, .int .i64 B1.flags, .slice va1 nn1 vc1, .string (B B1.payload)] _ 28 rfl rfl HA110.out rfl (by kernel_rfl) (by simp [Value.oneCell']) ?_; intro w1 hW hbW hsW hoW; have hB1 : Below w.heap.size w w1 := hB11.trans (hbW _ (by omega)); have z1 : w.heap.size < w1.heap.size := (by rw [hsW]; omega); have ca := fun o => cellB hW o; have HA1 := Lib.hid hW; have HB1 := Lib.hid (RBlks.apart HRU.out HSP.out (fun q o hq hq2 => World.cell?_of_block (hoW q hq)) (M := w1.heap.size) (by rw [hsW]; omega)); clear hW hbW hsW hoW)
  go_wp2_with fail
  refine (setHops_any B1 _ 2 0 _ (HB1.out.below' (by repeat' (first | with_reducible (first | refine bset ?_ ?_ | exact Below.refl _ _ | assumption | refine bdrewN ?_ _ | refine bdrew ?_ | refine balloc0 ?_ | refine balloc ?_ ?_ | (apply btrans0; rotate_left; assumption) | (apply btrans; rotate_left; assumption)) | exact Below.refl _ _ | assumption | (apply btrans0; rotate_left; assumption) | (apply btrans; rotate_left; assumption) | (simp; done) | omega | (simp; omega)))) F1.out).mono ?_
  unfold BunPost
  rw [H2.out]
  simp only
  rintro e w12 ⟨u12, rfl, hru, hrf, hb12⟩
  obtain ⟨va2, vc2, rfl, g1, g2, g3, g4⟩ := id hru
  have A12 : w12.heap[w.heap.size]? = some (.cells #[.int .i64 B1.src, .int .i64 B1.crt, .int .i64 B1.seq, .int .i64 B1.off, .int .i64 B1.tot, .int .i64 B1.dk, .int .i64 B1.dn, .int .i64 B1.life, .int .i64 B1.prio, .int .i64 B1.flags, .slice va1 nn1 vc1, .string (B B1.payload)] 28 (0, 0)) := (hb12.block _ z1).trans HA1.out
  have hsp : Sep w.heap.size w.heap.size (.slice va2 B2.blocks.length vc2) B2.blocks := Sep.box hru A12 noBlk12
  have z12 : w.heap.size < w12.heap.size := by have := hb12.size; (try simp at this); omega
  have hB12 : Below w.heap.size w w12 := (by repeat' (first | with_reducible (first | refine bset ?_ ?_ | exact Below.refl _ _ | assumption | refine bdrewN ?_ _ | refine bdrew ?_ | refine balloc0 ?_ | refine balloc ?_ ?_ | (apply btrans0; rotate_left; assumption) | (apply btrans; rotate_left; assumption)) | exact Below.refl _ _ | assumption | (apply btrans0; rotate_left; assumption) | (apply btrans; rotate_left; assumption) | (simp; done) | omega | (simp; omega)))
  have HRU := Lib.hid hru
  have HSP := Lib.hid hsp
  obtain ⟨nn2, hnn⟩ : ∃ n, B2.blocks.length = n := ⟨_, rfl⟩
  rw [hnn]
  rw [hnn] at HRU HSP
  have HNNK := Lib.hid hnn
  have HA120 := Lib.hid A12
  clear A12 hru g1 g2 g3 g4 hnn hsp hb12 hrf ca
  simp only [bunC]
  go_wp2_with (refine wpList_store_block rfl 28 _ _ rfl w.heap.size #[.int .i64 B2.src, .int .i64 B2.crt, .int .i64 B2.seq, .int .i64 B2.off, .int .i64 B2.tot, .int .i64 B2.dk, .int .i64 B2.dn, .int .i64 B2.life, .int .i64 B2.prio, .int .i64 B2.flags, .slice va2 nn2 vc2, .string (B B2.payload)] _ 28 rfl rfl HA120.out rfl (by kernel_rfl) (by simp [Value.oneCell']) ?_; intro w2 hW hbW hsW hoW; have hB2 : Below w.heap.size w w2 := hB12.trans (hbW _ (by omega)); have z2 : w.heap.size < w2.heap.size := (by rw [hsW]; omega); have ca := fun o => cellB hW o; have HA2 := Lib.hid hW; have HB2 := Lib.hid (RBlks.apart HRU.out HSP.out (fun q o hq hq2 => World.cell?_of_block (hoW q hq)) (M := w2.heap.size) (by rw [hsW]; omega)); clear hW hbW hsW hoW)
  go_wp2_with fail
  refine (visit_any B2 _ 3 _ (HB2.out.below' (by repeat' (first | with_reducible (first | refine bset ?_ ?_ | exact Below.refl _ _ | assumption | refine bdrewN ?_ _ | refine bdrew ?_ | refine balloc0 ?_ | refine balloc ?_ ?_ | (apply btrans0; rotate_left; assumption) | (apply btrans; rotate_left; assumption)) | exact Below.refl _ _ | assumption | (apply btrans0; rotate_left; assumption) | (apply btrans; rotate_left; assumption) | (simp; done) | omega | (simp; omega)))) F2.out).mono ?_
  unfold BunPost
  rw [H3.out]
  simp only
  rintro e w13 ⟨u13, rfl, hru, hrf, hb13⟩
  obtain ⟨va3, vc3, rfl, g1, g2, g3, g4⟩ := id hru
  have A13 : w13.heap[w.heap.size]? = some (.cells #[.int .i64 B2.src, .int .i64 B2.crt, .int .i64 B2.seq, .int .i64 B2.off, .int .i64 B2.tot, .int .i64 B2.dk, .int .i64 B2.dn, .int .i64 B2.life, .int .i64 B2.prio, .int .i64 B2.flags, .slice va2 nn2 vc2, .string (B B2.payload)] 28 (0, 0)) := (hb13.block _ z2).trans HA2.out
  have hsp : Sep w.heap.size w.heap.size (.slice va3 B3.blocks.length vc3) B3.blocks := Sep.box hru A13 noBlk12
  have z13 : w.heap.size < w13.heap.size := by have := hb13.size; (try simp at this); omega
  have hB13 : Below w.heap.size w w13 := (by repeat' (first | with_reducible (first | refine bset ?_ ?_ | exact Below.refl _ _ | assumption | refine bdrewN ?_ _ | refine bdrew ?_ | refine balloc0 ?_ | refine balloc ?_ ?_ | (apply btrans0; rotate_left; assumption) | (apply btrans; rotate_left; assumption)) | exact Below.refl _ _ | assumption | (apply btrans0; rotate_left; assumption) | (apply btrans; rotate_left; assumption) | (simp; done) | omega | (simp; omega)))
  have HRU := Lib.hid hru
  have HSP := Lib.hid hsp
  obtain ⟨nn3, hnn⟩ : ∃ n, B3.blocks.length = n := ⟨_, rfl⟩
  rw [hnn]
  rw [hnn] at HRU HSP
  have HNNK := Lib.hid hnn
  have HA130 := Lib.hid A13
  clear A13 hru g1 g2 g3 g4 hnn hsp hb13 hrf ca
  simp only [bunC]
  go_wp2_with (refine wpList_store_block rfl 28 _ _ rfl w.heap.size #[.int .i64 B3.src, .int .i64 B3.crt, .int .i64 B3.seq, .int .i64 B3.off, .int .i64 B3.tot, .int .i64 B3.dk, .int .i64 B3.dn, .int .i64 B3.life, .int .i64 B3.prio, .int .i64 B3.flags, .slice va3 nn3 vc3, .string (B B3.payload)] _ 28 rfl rfl HA130.out rfl (by kernel_rfl) (by simp [Value.oneCell']) ?_; intro w3 hW hbW hsW hoW; have hB3 : Below w.heap.size w w3 := hB13.trans (hbW _ (by omega)); have z3 : w.heap.size < w3.heap.size := (by rw [hsW]; omega); have ca := fun o => cellB hW o; have HA3 := Lib.hid hW; have HB3 := Lib.hid (RBlks.apart HRU.out HSP.out (fun q o hq hq2 => World.cell?_of_block (hoW q hq)) (M := w3.heap.size) (by rw [hsW]; omega)); clear hW hbW hsW hoW)
  go_wp2_with fail
  refine (forward_any B3 _ 5 20 _ (HB3.out.below' (by repeat' (first | with_reducible (first | refine bset ?_ ?_ | exact Below.refl _ _ | assumption | refine bdrewN ?_ _ | refine bdrew ?_ | refine balloc0 ?_ | refine balloc ?_ ?_ | (apply btrans0; rotate_left; assumption) | (apply btrans; rotate_left; assumption)) | exact Below.refl _ _ | assumption | (apply btrans0; rotate_left; assumption) | (apply btrans; rotate_left; assumption) | (simp; done) | omega | (simp; omega)))) F3.out).mono ?_
  unfold FwdPost
  rw [H4.out]
  simp only
  rintro e w14 ⟨u14, rfl, hru, hb14⟩
  obtain ⟨va4, vc4, rfl, g1, g2, g3, g4⟩ := id hru
  have A14 : w14.heap[w.heap.size]? = some (.cells #[.int .i64 B3.src, .int .i64 B3.crt, .int .i64 B3.seq, .int .i64 B3.off, .int .i64 B3.tot, .int .i64 B3.dk, .int .i64 B3.dn, .int .i64 B3.life, .int .i64 B3.prio, .int .i64 B3.flags, .slice va3 nn3 vc3, .string (B B3.payload)] 28 (0, 0)) := (hb14.block _ z3).trans HA3.out
  have hsp : Sep w.heap.size w.heap.size (.slice va4 B4.blocks.length vc4) B4.blocks := Sep.box hru A14 noBlk12
  have z14 : w.heap.size < w14.heap.size := by have := hb14.size; (try simp at this); omega
  have hB14 : Below w.heap.size w w14 := (by repeat' (first | with_reducible (first | refine bset ?_ ?_ | exact Below.refl _ _ | assumption | refine bdrewN ?_ _ | refine bdrew ?_ | refine balloc0 ?_ | refine balloc ?_ ?_ | (apply btrans0; rotate_left; assumption) | (apply btrans; rotate_left; assumption)) | exact Below.refl _ _ | assumption | (apply btrans0; rotate_left; assumption) | (apply btrans; rotate_left; assumption) | (simp; done) | omega | (simp; omega)))
  have HRU := Lib.hid hru
  have HSP := Lib.hid hsp
  obtain ⟨nn4, hnn⟩ : ∃ n, B4.blocks.length = n := ⟨_, rfl⟩
  rw [hnn]
  rw [hnn] at HRU HSP
  have HNNK := Lib.hid hnn
  have HA140 := Lib.hid A14
  clear A14 hru g1 g2 g3 g4 hnn hsp hb14 ca
  simp only [bunC]
  go_wp2_with (refine wpList_store_block rfl 28 _ _ rfl w.heap.size #[.int .i64 B4.src, .int .i64 B4.crt, .int .i64 B4.seq, .int .i64 B4.off, .int .i64 B4.tot, .int .i64 B4.dk, .int .i64 B4.dn, .int .i64 B4.life, .int .i64 B4.prio, .int .i64 B4.flags, .slice va4 nn4 vc4, .string (B B4.payload)] _ 28 rfl rfl HA140.out rfl (by kernel_rfl) (by simp [Value.oneCell']) ?_; intro w4 hW hbW hsW hoW; have hB4 : Below w.heap.size w w4 := hB14.trans (hbW _ (by omega)); have z4 : w.heap.size < w4.heap.size := (by rw [hsW]; omega); have ca := fun o => cellB hW o; have HA4 := Lib.hid hW; have HB4 := Lib.hid (RBlks.apart HRU.out HSP.out (fun q o hq hq2 => World.cell?_of_block (hoW q hq)) (M := w4.heap.size) (by rw [hsW]; omega)); clear hW hbW hsW hoW)
  go_wp2_with fail
  refine (age_any B4 _ _ HB4.out F4.out).mono ?_
  rw [T1.out]
  simp only
  rintro e w5 ⟨rfl, hb5⟩
  have hB5 : Below w.heap.size w w5 := (by repeat' (first | with_reducible (first | refine bset ?_ ?_ | exact Below.refl _ _ | assumption | refine bdrewN ?_ _ | refine bdrew ?_ | refine balloc0 ?_ | refine balloc ?_ ?_ | (apply btrans0; rotate_left; assumption) | (apply btrans; rotate_left; assumption)) | exact Below.refl _ _ | assumption | (apply btrans0; rotate_left; assumption) | (apply btrans; rotate_left; assumption) | (simp; done) | omega | (simp; omega)))
  have z5 : w.heap.size < w5.heap.size := by have := hb5.size; (try simp at this); omega
  have hb45 : Below w4.heap.size w4 w5 := hb5
  have A5 := (hb45.block _ z4).trans HA4.out
  clear ca hb5
  have ca := fun o => cellB A5 o
  clear A5
  go_wp2_with fail
  refine (hops_any B4 _ _ (HB4.out.below' hb45) F4.out).mono ?_
  rw [T2.out]
  simp only
  rintro e w6 ⟨rfl, hb6⟩
  have hB6 : Below w.heap.size w w6 := (by repeat' (first | with_reducible (first | refine bset ?_ ?_ | exact Below.refl _ _ | assumption | refine bdrewN ?_ _ | refine bdrew ?_ | refine balloc0 ?_ | refine balloc ?_ ?_ | (apply btrans0; rotate_left; assumption) | (apply btrans; rotate_left; assumption)) | exact Below.refl _ _ | assumption | (apply btrans0; rotate_left; assumption) | (apply btrans; rotate_left; assumption) | (simp; done) | omega | (simp; omega)))
  have z6 : w.heap.size < w6.heap.size := by have := hb6.size; (try simp at this); omega
  have hb46 : Below w4.heap.size w4 w6 := btrans0 hb45 hb6
  have A6 := (hb46.block _ z4).trans HA4.out
  clear ca hb6
  have ca := fun o => cellB A6 o
  clear A6
  go_wp2_with fail
  refine (visited_any B4 _ _ (HB4.out.below' hb46) F4.out).mono ?_
  unfold GetPost
  rw [T3.out]
  simp only
  rintro e w7 ⟨v7, rfl, hb7, hri⟩
  have hB7 : Below w.heap.size w w7 := (by repeat' (first | with_reducible (first | refine bset ?_ ?_ | exact Below.refl _ _ | assumption | refine bdrewN ?_ _ | refine bdrew ?_ | refine balloc0 ?_ | refine balloc ?_ ?_ | (apply btrans0; rotate_left; assumption) | (apply btrans; rotate_left; assumption)) | exact Below.refl _ _ | assumption | (apply btrans0; rotate_left; assumption) | (apply btrans; rotate_left; assumption) | (simp; done) | omega | (simp; omega)))
  have z7 : w.heap.size < w7.heap.size := by have := hb7.size; (try simp at this); omega
  have hb47 : Below w4.heap.size w4 w7 := btrans0 hb46 hb7
  have HRI := Lib.hid hri
  clear hri
  have A7 := (hb47.block _ z4).trans HA4.out
  clear ca hb7
  have ca := fun o => cellB A7 o
  clear A7
  go_wp2_with fail
  refine (forward_any B4 _ 3 1 _ (HB4.out.below' hb47) F4.out).mono ?_
  unfold FwdPost
  rw [T4.out]
  simp only
  rintro e w8 ⟨v8, rfl, hr8, hb8⟩
  have hB8 : Below w.heap.size w w8 := (by repeat' (first | with_reducible (first | refine bset ?_ ?_ | exact Below.refl _ _ | assumption | refine bdrewN ?_ _ | refine bdrew ?_ | refine balloc0 ?_ | refine balloc ?_ ?_ | (apply btrans0; rotate_left; assumption) | (apply btrans; rotate_left; assumption)) | exact Below.refl _ _ | assumption | (apply btrans0; rotate_left; assumption) | (apply btrans; rotate_left; assumption) | (simp; done) | omega | (simp; omega)))
  have z8 : w.heap.size < w8.heap.size := by have := hb8.size; (try simp at this); omega
  have hb48 : Below w4.heap.size w4 w8 := btrans0 hb47 hb8
  have hb78 : Below w7.heap.size w7 w8 := hb8
  obtain ⟨va8, vc8, rfl, _⟩ := id hr8
  clear hr8
  simp only [bunC, zBun, List.length_nil]
  have A8 := (hb48.block _ z4).trans HA4.out
  clear ca hb8
  have ca := fun o => cellB A8 o
  clear A8
  go_wp2_with fail
  refine (forward_any B4 _ 4 70 _ (HB4.out.below' (balloc0 hb48)) F4.out).mono ?_
  unfold FwdPost
  rw [T5.out]
  simp only
  rintro e w9 ⟨v9, rfl, hr9, hb9⟩
  have hB9 : Below w.heap.size w w9 := (by repeat' (first | with_reducible (first | refine bset ?_ ?_ | exact Below.refl _ _ | assumption | refine bdrewN ?_ _ | refine bdrew ?_ | refine balloc0 ?_ | refine balloc ?_ ?_ | (apply btrans0; rotate_left; assumption) | (apply btrans; rotate_left; assumption)) | exact Below.refl _ _ | assumption | (apply btrans0; rotate_left; assumption) | (apply btrans; rotate_left; assumption) | (simp; done) | omega | (simp; omega)))
  have z9 : w.heap.size < w9.heap.size := by have := hb9.size; (try simp at this); omega
  have hb49 : Below w4.heap.size w4 w9 := btrans0 (balloc0 hb48) hb9
  have hb79 : Below w7.heap.size w7 w9 := btrans0 (balloc0 hb78) hb9
  obtain ⟨va9, vc9, rfl, _⟩ := id hr9
  clear hr9
  simp only [bunC, zBun, List.length_nil]
  have A9 := (hb49.block _ z4).trans HA4.out
  clear ca hb9
  have ca := fun o => cellB A9 o
  clear A9
  go_wp2_with fail
  have HL : ∀ (o : Obj) (t : TypeId), RInts ((w9.alloc o).alloc (.cells #[.int .i64 3, .int .i64 5] t)) ((w9.alloc o).alloc (.cells #[.int .i64 3, .int .i64 5] t)).heap.size (.slice (some ⟨w9.heap.size + 1, 0, none⟩) 2 2) [3, 5] := fun o t => by
    have := RInts.lit2 (w9.alloc o) t 3 5
    rw [show (w9.alloc o).heap.size = w9.heap.size + 1 from by simp] at this
    exact this
  refine (equalI_any [3, 5] v7 (.slice (some ⟨w9.heap.size + 1, 0, none⟩) 2 2) _ (HRI.out.below' (balloc0 (balloc0 hb79))) (HL _ _)).mono ?_
  rintro e w10 ⟨rfl, hb10⟩
  go_wp2
  go_ret
  exact ⟨rfl, (by repeat' (first | with_reducible (first | refine bset ?_ ?_ | exact Below.refl _ _ | assumption | refine bdrewN ?_ _ | refine bdrew ?_ | refine balloc0 ?_ | refine balloc ?_ ?_ | (apply btrans0; rotate_left; assumption) | (apply btrans; rotate_left; assumption)) | exact Below.refl _ _ | assumption | (apply btrans0; rotate_left; assumption) | (apply btrans; rotate_left; assumption) | (simp; done) | omega | (simp; omega)))⟩
end Go.Proofs.Ythgokfceakbjlaa
