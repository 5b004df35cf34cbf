/-
  Proved: mailboattop.TopAggregates returns true for every input, and leaves its arguments as they were. No condition.
-/
import Derived.BigQuiet
import Derived.BigRegion
import Derived.Test.YtmknchdciblfjaaGreatRows
import Derived.Test.YtmknchdciblfjaaGreatJn
import Derived.Test.YtmknchdciblfjaaGreatJt
import Derived.Test.YtmknchdciblfjaaGreatKd
import Derived.Test.YtmknchdciblfjaaGreatKf
import Derived.Test.YtmknchdciblfjaaGreatUf
import Derived.Test.YtmknchdciblfjaaGreatUqz
import Derived.Test.YtmknchdciblfjaaGreatAwf
set_option linter.unusedVariables false
set_option linter.unusedSimpArgs false
namespace Go.Proofs.YtmknchdciblfjaaGreat.topAggregates
open Go Go.ChangeShapes Go.WideShapes Go.ChangeAt Go.RowKit Go.Joins Go.Proofs.YtmknchdciblfjaaGreat
attribute [local go_sem] B_getElem B_size B_app B_extract B_get B_toList
attribute [local go_sem] Oper.semAt_some
theorem own : ownKnob Tryz.prog.godebug = none := by kernel_rfl
set_option maxRecDepth 100000 in
set_option maxHeartbeats 32000000 in
theorem walk (l : List Bun) (v : Value) (most : Int) (os : List Int) (vo : Value) (w : World) (hr : RBuns w w.heap.size v l) (hf : ∀ x ∈ l, Fits x) (hm : 0 ≤ most ∧ most ≤ 255) (ho : RU8s w w.heap.size vo os) (hov : ∀ x ∈ os, 0 ≤ x ∧ x < 256) :
    Calls Tryz.prog 3 #[v, .int .u8 most, vo] w (Says w) := by
  obtain ⟨a, c, rfl, -⟩ := id hr
  obtain ⟨oa, oc, rfl, o1, o2, -, o4⟩ := ho
  unfold maxLen at o2
  have HR := Lib.hid hr
  have HF := Lib.hid hf
  have HO4 := Lib.hid o4
  have HOV := Lib.hid hov
  clear hr hf o4 hov
  obtain ⟨⟨b, E⟩, hj⟩ : ∃ q, joinS l 1 = q := ⟨_, rfl⟩
  have HJ := Lib.hid hj
  clear hj
  unfold Says
  go_enter Tryz.func3, Tryz.ntmps3
  go_wp2_with fail
  refine (greatAll_any l _ _ HR.out HF.out).mono ?_
  unfold GreatP
  rintro e w1 ⟨gr, rfl, hb1, hg1⟩
  have H_1 := Lib.hid hb1
  cases gr with
  | true =>
    clear hb1 hg1
    go_wp2_with fail
    refine (awake35 _).mono ?_
    rintro e w99 ⟨rfl, hb99⟩
    go_wp2
    go_ret
    exact ⟨rfl, btrans0 H_1.out hb99⟩
  | false =>
  have hl : l.length ≤ 68 := hg1 rfl
  clear hb1 hg1
  by_cases z40 : (os.length : Int) > 40
  · have d40 : decide ((os.length : Int) > 40) = true := decide_eq_true z40
    have n40 : 40 < os.length := by omega
    go_wp2_with fail
    refine (awake35 _).mono ?_
    rintro e w99 ⟨rfl, hb99⟩
    go_wp2
    go_ret
    exact ⟨rfl, btrans0 H_1.out hb99⟩
  have d40 : decide ((os.length : Int) > 40) = false := decide_eq_false z40
  have n40 : ¬ 40 < os.length := by omega
  have l40 : os.length ≤ 40 := by omega
  clear z40
  go_wp2_with fail
  refine (join_any l _ 1 _ (HR.out.below'' H_1.out) HF.out (by omega)).mono ?_
  unfold JoinPost
  rw [HJ.out]
  rintro e w2 ⟨rfl, hb2⟩
  have H_2 := Lib.hid (btrans0 H_1.out hb2)
  clear hb2
  simp only [bunC]
  by_cases hE : E = 0
  case neg =>
    have dE : (E != 0) = true := by simpa using hE
    clear hE
    go_wp2_with fail
    refine (awake35 _).mono ?_
    rintro e w99 ⟨rfl, hb99⟩
    go_wp2
    go_ret
    exact ⟨rfl, btrans0 (btrans0 H_2.out (balloc0 (Below.refl _ _))) hb99⟩
  subst hE
  obtain ⟨r, hr_⟩ : ∃ q : Nat, most.toNat % 100 = q := ⟨_, rfl⟩
  have hr1 : r < 100 := by omega
  obtain ⟨mn, hmn⟩ := Int.eq_ofNat_of_zero_le hm.1
  subst hmn
  rw [Int.toNat_natCast] at hr_
  have m1 : IntKind.i64.wrap (mn : Int) = (mn : Int) := by rw [IntKind.wrap_i64]; omega
  have m2 : (mn : Int).tmod 100 = (r : Int) := by rw [← hr_]; rfl
  have m3 : (mn : Int) % 100 = (r : Int) := by omega
  have m4 : IntKind.i64.wrap ((r : Int) + 20) = (r : Int) + 20 := by rw [IntKind.wrap_i64]; omega
  obtain ⟨q1, q2, q3, q4, ps, q5, q6⟩ := join_split (n := (r : Int) + 20) HJ.out (by omega)
  have HBL := Lib.hid q1
  have HVB := Lib.hid q2
  have HTB := Lib.hid q3
  have HSP := Lib.hid q5
  have HPC := Lib.hid q6
  have HV := Lib.hid (fits_valid q2)
  have HSJ := Lib.hid (sep_join HJ.out (by omega))
  have hp0 : 0 < ps.length := q6.elim (fun h => by rw [h]; simp) (fun h => by omega)
  have hp3 : ps.length ≤ 300 := q6.elim (fun h => by rw [h]; simp) (fun h => h.2.1)
  clear q1 q2 q3 q4 q5 q6 hr_
  go_upto_region 6 with fail
  obtain ⟨w3, hw3⟩ : ∃ q, w2.alloc (.cells #[.int .i64 b.src, .int .i64 b.crt, .int .i64 b.seq, .int .i64 b.off, .int .i64 b.tot, .int .i64 b.dk, .int .i64 b.dn, .int .i64 b.life, .int .i64 b.prio, .int .i64 b.flags, .slice none 0 0, .string (B b.payload)] 32) = q := ⟨_, rfl⟩
  rw [hw3]
  have hb3 : Below w2.heap.size w2 w3 := by rw [← hw3]; exact balloc0 (Below.refl _ _)
  have X_0 : Hid (w3.heap[w2.heap.size]? = some (.cells #[.int .i64 b.src, .int .i64 b.crt, .int .i64 b.seq, .int .i64 b.off, .int .i64 b.tot, .int .i64 b.dk, .int .i64 b.dn, .int .i64 b.life, .int .i64 b.prio, .int .i64 b.flags, .slice none 0 0, .string (B b.payload)] 32 (0, 0))) := Lib.hid (by rw [← hw3]; exact heap_new)
  obtain ⟨bB, hbB⟩ : ∃ q, w2.heap.size = q := ⟨_, rfl⟩
  have H_3 := Lib.hid (btrans0 H_2.out hb3)
  rw [hbB] at X_0
  have X_3 := X_0
  have zw : w.heap.size ≤ bB := by rw [← hbB]; exact H_2.out.size
  have z_3 : bB < w3.heap.size := (Array.getElem?_eq_some_iff.1 X_3.out).1
  rw [hbB]
  clear hw3 hb3 hbB X_0
  have c1 := fun q => cellB X_3.out q
  go_wp2_with fail
  refine (split_any b (.slice none 0 0) ((r : Int) + 20) w3.heap.size _ (Nat.le_refl _) (by rw [HBL.out]; exact RBlks.nil _ _) HV.out).mono ?_
  unfold BunsEPost
  rw [HSP.out]
  rintro e w4 ⟨v4, rfl, hou, hb4⟩
  simp only at hou
  obtain ⟨gp, cp, rs, rfl, hrs, hpr, hfl⟩ := hou.flat hp0
  have HPR := Lib.hid hpr
  have HFL := Lib.hid hfl
  have HRS_ := Lib.hid hrs
  have H_4 := Lib.hid (btrans0 H_3.out hb4)
  have X_4 := Lib.hid ((hb4.block _ z_3).trans X_3.out)
  have z_4 : bB < w4.heap.size := Nat.lt_of_lt_of_le z_3 hb4.size
  have zgp : gp < w4.heap.size := hpr.1
  obtain ⟨NP, hNP⟩ : ∃ q, ps.length = q := ⟨_, rfl⟩
  have HNP := Lib.hid hNP
  have HRL : Hid (rs.length = NP) := Lib.hid (by rw [← hNP, ← hrs, List.length_map])
  rw [hNP] at hp0 hp3 ⊢
  clear hou hb4 hpr hfl hrs hNP c1
  have n0 : ((NP : Int) == 0) = false := by rw [beq_eq_false_iff_ne]; omega
  have n0a : ¬ NP = 0 := by omega
  have n0b : (0 : Int) < (NP : Int) := by omega
  go_wp2_with fail
  refine (awake35 _).mono ?_
  rintro e w5 ⟨rfl, hb5⟩
  have K5 := Lib.hid hb5
  have H_5 := Lib.hid (btrans0 H_4.out hb5)
  have X_5 := Lib.hid ((hb5.block _ z_4).trans X_4.out)
  have z_5 : bB < w5.heap.size := Nat.lt_of_lt_of_le z_4 hb5.size
  have z45 := hb5.size
  clear hb5
  by_cases zn : (NP : Int) > 1
  case neg =>
    have dn : decide ((NP : Int) > 1) = false := decide_eq_false zn
    have dn2 : ¬ 1 < NP := by omega
    have c1 := fun q => cellB X_5.out q
    have HRB := Lib.hid ((by rw [HBL.out]; exact RBlks.nil _ _) : RBlks w5 w5.heap.size (.slice none 0 0) b.blocks)
    go_wp2_with fail
    refine (sep_any b (.slice none 0 0) _ HRB.out HV.out).mono ?_
    unfold SepPost
    rw [HSJ.out]
    rintro e wS ⟨u, rfl, hu, hbS⟩
    simp only at hu
    obtain ⟨ua, uc, rfl, -⟩ := id hu
    have HU := Lib.hid hu
    have H_S : Hid (Below w.heap.size w wS) := Lib.hid (btrans0 H_5.out hbS)
    have X_S := Lib.hid ((hbS.block _ z_5).trans X_5.out)
    have z_S : bB < wS.heap.size := Nat.lt_of_lt_of_le z_5 hbS.size
    have HRS := Lib.hid (HRB.out.below' hbS)
    clear hu hbS c1
    have c1 := fun q => cellB X_S.out q
    go_wp2_with fail
    refine (sameAll_any l _ _ _ (HR.out.below'' H_S.out) HU.out).mono ?_
    unfold Says
    rintro e wT ⟨rfl, hbT⟩
    have H_T : Hid (Below w.heap.size w wT) := Lib.hid (btrans0 H_S.out hbT)
    have X_T := Lib.hid ((hbT.block _ z_S).trans X_S.out)
    have z_T : bB < wT.heap.size := Nat.lt_of_lt_of_le z_S hbT.size
    have HRT := Lib.hid (HRS.out.below' hbT)
    clear hbT c1
    have c1 := fun q => cellB X_T.out q
    go_wp2_with fail
    refine (is_any b (.slice none 0 0) _ HRT.out HV.out).mono ?_
    rw [HSJ.out]
    rintro e wI ⟨rfl, hbI⟩
    go_wp2
    go_ret
    exact ⟨rfl, btrans0 H_T.out hbI⟩
  have dn : decide ((NP : Int) > 1) = true := decide_eq_true zn
  have dn2 : 1 < NP := by omega
  have HP2 : Hid (2 ≤ ps.length ∧ ps.length ≤ 300 ∧ (∀ z ∈ ps, FragOf b z) ∧ Adj 0 ps b.payload.length) := Lib.hid (HPC.out.elim (fun h => by have := HNP.out; rw [h] at this; simp at this; omega) id)
  go_wp2_with fail
  go_loopw [57, 11] (fun iv ov wr => ∃ (k : Nat) (us : List BV), k ≤ os.length ∧ iv = .int .i64 (k : Int) ∧ Hid (us.length = k) ∧ Hid (OwnX wr w5.heap.size ov us) ∧ Hid (∀ z ∈ us.map (·.1), z ∈ ps) ∧ Hid (Below w5.heap.size w5 wr)) (fun iv _ _ => os.length - (intOf iv).toNat)
  case atStart => exact ⟨0, [], Nat.zero_le _, rfl, Lib.hid rfl, Lib.hid ⟨World.ownsRow_nil _ _ _ _, fun r hr => (by cases hr)⟩, Lib.hid (fun z hz => by cases hz), Lib.hid (Below.refl _ _)⟩
  case round =>
    obtain ⟨k, us, hk, rfl, hus, HOW, HUS, HB⟩ := hrel
    have zr : w5.heap.size ≤ wr.heap.size := HB.out.size
    have hu40 : us.length ≤ 40 := by have := hus.out; omega
    by_cases hlt : k < os.length
    · obtain ⟨ob, oo, e2, hob, hcell⟩ := HO4.out (by omega)
      subst e2
      obtain ⟨x, hx⟩ : ∃ x, os[k]? = some x := ⟨_, List.getElem?_eq_getElem hlt⟩
      have q0 : wr.cell? ⟨ob, oo + k, none⟩ = some (.int .u8 x) := ((H_5.out.trans (HB.out.mono H_5.out.size)).cell (p := ⟨ob, oo + k, none⟩) hob).trans (hcell k x hx)
      have hx0 := HOV.out x (List.mem_of_getElem? hx)
      obtain ⟨xn, hxn⟩ := Int.eq_ofNat_of_zero_le hx0.1
      subst hxn
      have k0 : (0 : Int) ≤ (k : Int) := by omega
      have k1 : (k : Int) < (os.length : Int) := by omega
      obtain ⟨i, hi⟩ : ∃ q, xn % NP = q := ⟨_, rfl⟩
      have hil : i < NP := by rw [← hi]; exact Nat.mod_lt _ (by omega)
      have x1 : IntKind.i64.wrap (xn : Int) = (xn : Int) := by rw [IntKind.wrap_i64]; omega
      have x2 : (xn : Int).tmod (NP : Int) = (i : Int) := by rw [← hi]; rfl
      have x3 : (xn : Int) % (NP : Int) = (i : Int) := by rw [← hi]; simp
      have x4 : IntKind.i64.wrap (i : Int) = (i : Int) := by rw [IntKind.wrap_i64]; omega
      have i0 : (0 : Int) ≤ (i : Int) := by omega
      have i1 : (i : Int) < (NP : Int) := by omega
      obtain ⟨⟨y, uy⟩, hry⟩ : ∃ r, rs[i]? = some r := ⟨_, List.getElem?_eq_getElem (by rw [HRL.out]; exact hil)⟩
      have hpw : PRow wr (fun q => q < w4.heap.size) gp rs := HPR.out.keep (fun q o hq => (HB.out.cell (p := ⟨q, o, none⟩) (by show q < w5.heap.size; have hq : q < w4.heap.size := hq; omega)).trans (K5.out.cell (p := ⟨q, o, none⟩) hq))
      have hpc := hpw.2.1 i _ hry
      have hby := hpw.2.2 _ (List.mem_of_getElem? hry)
      simp only at hpc hby
      obtain ⟨ay, ny, rfl, -⟩ := id hby
      have p0 : wr.cell? ⟨gp, i * 12, none⟩ = some (.int .i64 y.src) := hpc 0 _ rfl
      have p1 : wr.cell? ⟨gp, i * 12 + 1, none⟩ = some (.int .i64 y.crt) := hpc 1 _ rfl
      have p2 : wr.cell? ⟨gp, i * 12 + 2, none⟩ = some (.int .i64 y.seq) := hpc 2 _ rfl
      have p3 : wr.cell? ⟨gp, i * 12 + 3, none⟩ = some (.int .i64 y.off) := hpc 3 _ rfl
      have p4 : wr.cell? ⟨gp, i * 12 + 4, none⟩ = some (.int .i64 y.tot) := hpc 4 _ rfl
      have p5 : wr.cell? ⟨gp, i * 12 + 5, none⟩ = some (.int .i64 y.dk) := hpc 5 _ rfl
      have p6 : wr.cell? ⟨gp, i * 12 + 6, none⟩ = some (.int .i64 y.dn) := hpc 6 _ rfl
      have p7 : wr.cell? ⟨gp, i * 12 + 7, none⟩ = some (.int .i64 y.life) := hpc 7 _ rfl
      have p8 : wr.cell? ⟨gp, i * 12 + 8, none⟩ = some (.int .i64 y.prio) := hpc 8 _ rfl
      have p9 : wr.cell? ⟨gp, i * 12 + 9, none⟩ = some (.int .i64 y.flags) := hpc 9 _ rfl
      have p10 : wr.cell? ⟨gp, i * 12 + 10, none⟩ = some (.slice ay y.blocks.length ny) := hpc 10 _ rfl
      have p11 : wr.cell? ⟨gp, i * 12 + 11, none⟩ = some (.string (B y.payload)) := hpc 11 _ rfl
      have HBY := Lib.hid hby
      have HYP : Hid (y ∈ ps) := Lib.hid (by rw [← HRS_.out]; exact List.mem_map.2 ⟨_, List.mem_of_getElem? hry, rfl⟩)
      obtain ⟨j0, hin, hz0, hz1, hz2⟩ := info_parts infoBun
      have zgr : gp < wr.heap.size := by omega
      have zob : ob < wr.heap.size := by have := H_5.out.size; omega
      clear hx hcell hi hry hpw hpc hby hx0
      go_wp2_with (at_builtin; refine wpList_append_lies _ rfl _ _ _ rfl w5.heap.size 32 j0 _ 12 120 Tryz.underlying22 hin hz0 hz1 hz2 rfl (by omega) u11 us.length (sflatU us) rfl (HOW.out.below (balloc0 (Below.refl _ _))).1 ⟨wr.heap.size, 0, none⟩ 1 1 (bunC y (.slice ay y.blocks.length ny)) rfl rfl (news_one (t := 32) heap_new) (bunC_one rfl) (by omega) (by simp only [maxLen]; omega) (by omega) (by simp; omega) (wr.heap.size + 1) (by simp) ?_; intro g2 cap2 w9 ho2 hg2 hat2 hlt2)
      have hal : Below wr.heap.size wr (wr.alloc (.cells #[.int .i64 y.src, .int .i64 y.crt, .int .i64 y.seq, .int .i64 y.off, .int .i64 y.tot, .int .i64 y.dk, .int .i64 y.dn, .int .i64 y.life, .int .i64 y.prio, .int .i64 y.flags, .slice ay y.blocks.length ny, .string (B y.payload)] 32)) := balloc0 (Below.refl _ _)
      have HON := Lib.hid (HOW.out.below hal)
      have HAP := Lib.hid (OwnX.append (us := us) HON.out ho2 hg2 (by simpa using hat2) (HBY.out.keep (fun q o hq => hal.cell (p := ⟨q, o, none⟩) (by show q < wr.heap.size; have hq : q < w4.heap.size := hq; omega)) (fun q (hq : q < w4.heap.size) => ⟨by simp; omega, fun e => by have := (HOW.out.own_lt q e).1; omega⟩)))
      have HB9 : Hid (Below w5.heap.size w5 w9) := Lib.hid ((HB.out.trans (hal.mono zr)).grown hg2 (by simp; omega) (fun q e => (HOW.out.own_lt q e).1))
      clear ho2 hg2 hat2 hlt2 hal
      go_roundw
      case rel => exact ⟨k + 1, us ++ [(y, (.slice ay y.blocks.length ny))], by omega, by go_num, Lib.hid (by rw [List.length_append, hus.out]; rfl), HAP, Lib.hid (fun z hz => by
        rw [List.map_append] at hz
        rcases List.mem_append.1 hz with h | h
        · exact HUS.out z h
        · simp at h; subst h; exact HYP.out), HB9⟩
      case measure => simp [intOf]; omega
    · obtain rfl : k = os.length := by omega
      obtain ⟨j0, hin, hz0, hz1, hz2⟩ := info_parts infoBun
      have HALL := Lib.hid (all_again HVB.out HTB.out HP2.out.1 HP2.out.2.1 HP2.out.2.2.1 HP2.out.2.2.2 HUS.out (by rw [List.length_map]; exact hu40))
      have hpw : PRow wr (fun q => q < w4.heap.size) gp rs := HPR.out.keep (fun q o hq => (HB.out.cell (p := ⟨q, o, none⟩) (by show q < w5.heap.size; have hq : q < w4.heap.size := hq; omega)).trans (K5.out.cell (p := ⟨q, o, none⟩) hq))
      have HPW := Lib.hid hpw
      have HFLR : Hid (∀ (j : Nat) u, (sflatU rs)[j]? = some u → wr.cell? ((⟨gp, 0, none⟩ : Addr).add j) = some u) := Lib.hid (fun j u hj => (HB.out.cell (p := (⟨gp, 0, none⟩ : Addr).add j) (by rw [addN]; show gp < w5.heap.size; omega)).trans ((K5.out.cell (p := (⟨gp, 0, none⟩ : Addr).add j) (by rw [addN]; exact zgp)).trans (HFL.out j u hj)))
      have HB5 := Lib.hid (H_5.out.trans (HB.out.mono H_5.out.size))
      have X_r := Lib.hid ((HB.out.block _ z_5).trans X_5.out)
      clear hpw
      go_wp2_with (at_builtin; refine wpList_append_lies _ rfl _ _ _ rfl w5.heap.size 32 j0 _ 12 120 Tryz.underlying22 hin hz0 hz1 hz2 rfl (by omega) u11 us.length (sflatU us) rfl HOW.out.1 ⟨gp, 0, none⟩ NP cp (sflatU rs) rfl (by rw [sflat_len, HRL.out]) HFLR.out (sflat_one HPW.out.ones) (by omega) (by simp only [maxLen]; omega) (by omega) (by omega) wr.heap.size rfl ?_; intro g2 cap2 w9 ho2 hg2 hat2 hlt2)
      rw [← HRL.out] at ho2 ⊢
      have HAP := Lib.hid (OwnX.appendAll (us := us) (rs := rs) HOW.out ho2 hg2 hat2 (fun r hr => (HPW.out.2.2 r hr).keep (fun _ _ _ => rfl) (fun q (hq : q < w4.heap.size) => ⟨by omega, fun e => by have := (HOW.out.own_lt q e).1; omega⟩)))
      have HB9 : Hid (Below w5.heap.size w5 w9) := Lib.hid (HB.out.grown hg2 zr (fun q e => (HOW.out.own_lt q e).1))
      have H_9 := Lib.hid (H_5.out.trans (HB9.out.mono H_5.out.size))
      have X_9 := Lib.hid ((HB9.out.block _ z_5).trans X_5.out)
      have z_9 : bB < w9.heap.size := (Array.getElem?_eq_some_iff.1 X_9.out).1
      have hbu := HAP.out.buns
      rw [List.map_append, HRS_.out] at hbu
      have hbu2 : us.length + rs.length = (us.map (·.1) ++ ps).length := by rw [List.length_append, List.length_map, ← HRS_.out, List.length_map]
      have HBU := Lib.hid hbu
      clear ho2 hg2 hat2 hlt2 hbu hbu2 X_r HB5
      refine (all_any (us.map (·.1) ++ ps) _ _ HBU.out (fun z hz => fits_valid ((HP2.out.2.2.1 z ((List.mem_append.1 hz).elim (HUS.out z) id)).valid))).mono ?_
      unfold AllPost
      rw [HALL.out]
      rintro e wA ⟨u', rfl, hub, hbA⟩
      simp only at hub
      obtain ⟨bA, bC_, rfl, -⟩ := id hub
      have HUB := Lib.hid hub
      have H_A := Lib.hid (btrans0 H_9.out hbA)
      have X_A := Lib.hid ((hbA.block _ z_9).trans X_9.out)
      clear hub hbA
      simp only [bunC]
      go_upto_region 17 with (refine wpList_store_block rfl 32 _ _ rfl bB #[.int .i64 b.src, .int .i64 b.crt, .int .i64 b.seq, .int .i64 b.off, .int .i64 b.tot, .int .i64 b.dk, .int .i64 b.dn, .int .i64 b.life, .int .i64 b.prio, .int .i64 b.flags, .slice bA b.blocks.length bC_, .string (B b.payload)] #[.int .i64 b.src, .int .i64 b.crt, .int .i64 b.seq, .int .i64 b.off, .int .i64 b.tot, .int .i64 b.dk, .int .i64 b.dn, .int .i64 b.life, .int .i64 b.prio, .int .i64 b.flags, .slice none 0 0, .string (B b.payload)] 32 rfl rfl X_A.out rfl (by kernel_rfl) (by simp [Value.oneCell']) ?_; intro w6 hW hbW hsW hoW; have X_6 := Lib.hid hW; have K6 := Lib.hid (hbW bB (Nat.le_refl _)); have H_6 : Hid (Below w.heap.size w w6) := Lib.hid (H_A.out.trans (hbW w.heap.size (by omega))); have HRB6 : Hid (RBlks w6 w6.heap.size (.slice bA b.blocks.length bC_) b.blocks) := Lib.hid (rblks_none HUB.out HBL.out); have z_6 : bB < w6.heap.size := (Array.getElem?_eq_some_iff.1 hW).1; clear hW hbW hsW hoW)
      have c1 := fun q => cellB X_6.out q
      have HRB := Lib.hid (HRB6.out : RBlks w6 w6.heap.size (.slice bA b.blocks.length bC_) b.blocks)
      go_wp2_with fail
      refine (sep_any b (.slice bA b.blocks.length bC_) _ HRB.out HV.out).mono ?_
      unfold SepPost
      rw [HSJ.out]
      rintro e wS ⟨u, rfl, hu, hbS⟩
      simp only at hu
      obtain ⟨ua, uc, rfl, -⟩ := id hu
      have HU := Lib.hid hu
      have H_S : Hid (Below w.heap.size w wS) := Lib.hid (btrans0 H_6.out hbS)
      have X_S := Lib.hid ((hbS.block _ z_6).trans X_6.out)
      have z_S : bB < wS.heap.size := Nat.lt_of_lt_of_le z_6 hbS.size
      have HRS := Lib.hid (HRB.out.below' hbS)
      clear hu hbS c1
      have c1 := fun q => cellB X_S.out q
      go_wp2_with fail
      refine (sameAll_any l _ _ _ (HR.out.below'' H_S.out) HU.out).mono ?_
      unfold Says
      rintro e wT ⟨rfl, hbT⟩
      have H_T : Hid (Below w.heap.size w wT) := Lib.hid (btrans0 H_S.out hbT)
      have X_T := Lib.hid ((hbT.block _ z_S).trans X_S.out)
      have z_T : bB < wT.heap.size := Nat.lt_of_lt_of_le z_S hbT.size
      have HRT := Lib.hid (HRS.out.below' hbT)
      clear hbT c1
      have c1 := fun q => cellB X_T.out q
      go_wp2_with fail
      refine (is_any b (.slice bA b.blocks.length bC_) _ HRT.out HV.out).mono ?_
      rw [HSJ.out]
      rintro e wI ⟨rfl, hbI⟩
      go_wp2
      go_ret
      exact ⟨rfl, btrans0 H_T.out hbI⟩

set_option maxRecDepth 100000 in
set_option maxHeartbeats 4000000 in
theorem lifted (os : Os) (started : os.Started) (H : Type) (enc : TypeId × Value → H) :
    ReturnsInHanded {} Tryz.checked os 3 .any (Rows.topAggregatesSpec.pre6 enc Tryz.prog Tryz.f3 Rows.topAggregatesRow.domain false) (Rows.topAggregatesSpec.post enc Tryz.prog Tryz.f3 false true false false) := by
  refine returnsInHanded_of_change (C := Tryz.checked) own started (by kernel_rfl) Tryz.func3
    (ChangeSpec.witness6 (enc := enc) (C := Tryz.checked) false ⟨#[], #[.slice none 0 0, .int .u8 0, .slice none 0 0], []⟩ 8 (by kernel_rfl) (by kernel_rfl) (by kernel_rfl) (by kernel_rfl)) ?_
  intro W base args ds gs before hval0 hW hcnd _
  have hval : ∀ (j : Nat) t v, Tryz.f3.params[j]? = some t → args[j]? = some v → Value.okWide Tryz.prog W .any base t v := hval0
  have hW' := hW
  obtain ⟨p, q, hA0, hV, rfl, hfz, hnd⟩ := hW
  have hA : DataW.TrodAll enc Tryz.prog W 0 (fun _ => true) true Tryz.f3.params.toList args.toList ds p := hA0
  rw [Tryz.params3] at hA hval
  obtain ⟨v0, vs0, d0, ds0, p0, q0, hargs, rfl, rfl, h0, r0⟩ := trodAll_cons hA
  obtain ⟨v1, vs1, d1, ds1, p1, q1, rfl, rfl, rfl, h1, r1⟩ := trodAll_cons r0
  obtain ⟨v2, vs2, d2, ds2, p2, q2, rfl, rfl, rfl, h2, r2⟩ := trodAll_cons r1
  obtain ⟨rfl, rfl, rfl⟩ := trodAll_nil r2
  obtain rfl : args = #[v0, v1, v2] := by cases args; simp_all
  obtain ⟨x0, hr0, hf0⟩ := open_buns_arg (hval 0 22 v0 rfl rfl) h0
  obtain ⟨x1, rfl, _, _, wx1⟩ := open_int Tryz.underlying5 (hval 1 5 v1 rfl rfl) h1
  obtain ⟨x2, hr2, hf2⟩ := open_u8s_arg (hval 2 23 v2 rfl rfl) h2
  refine (walk x0 v0 x1 x2 v2 W hr0 hf0 (by have := wx1; simp [Lit.wf, IntKind.min, IntKind.max, IntKind.signed, IntKind.bits] at this; omega) hr2 hf2).mono fun e W' ⟨he, hB⟩ => ?_
  subst he
  refine ⟨_, rfl, law_post (by kernel_rfl) (by kernel_rfl) rfl Tryz.underlying4 rfl ?_ hW' hB⟩
  intro es hes
  match es, hes with
  | [_, _, _], _ => rfl

theorem proved : Rows.TopAggregatesSaid :=
  OpenClaim.holds_of_wide 3 Tryz.f3 rfl rfl rfl rfl rfl rfl rfl ⟨rfl, rfl, rfl, rfl, rfl⟩ rfl rfl rfl rfl rfl (by kernel_rfl) Tryz.func3 (by kernel_rfl)
    (of_decide_eq_true (by kernel_rfl)) (by unfold Func.isWrapper; first | (rw [if_pos (by decide +kernel)]; kernel_rfl) | (rw [if_neg (by decide +kernel)]; exact ⟨rfl, rfl⟩))
    (fun os started H enc _ => lifted os started H enc)
#print axioms proved
end Go.Proofs.YtmknchdciblfjaaGreat.topAggregates
