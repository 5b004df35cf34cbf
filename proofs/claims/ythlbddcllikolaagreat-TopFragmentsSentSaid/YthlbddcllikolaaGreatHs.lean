/- TopFragmentsSent, TopFragmentsMissing: the walk of TopFragmentsSent (printed by gen/g30.py) -/
import Derived.Deep.CutBlock
import Derived.Deep.DeepCutAuto
import Derived.Test.YthlbddcllikolaaGreatHc
import Derived.Test.YthlbddcllikolaaGreatUf
import Derived.Test.YthlbddcllikolaaGreatUq
import Derived.Test.YthlbddcllikolaaGreatJn
import Derived.Test.YthlbddcllikolaaGreatVf
set_option linter.unusedVariables false
set_option linter.unusedSimpArgs false
namespace Go.Proofs.YthlbddcllikolaaGreat
open Go Go.RowKit Go.Shelf Iv
attribute [local go_sem] B_getElem B_size B_app B_extract B_get B_toList
attribute [local go_sem] Oper.semAt_some
set_option maxRecDepth 100000 in
set_option maxHeartbeats 16000000 in
theorem sent_walk (b : Bun) (u : Value) (m t : Int) (q : List Int) (v3 : Value) (w : World) (hr : RBlks w w.heap.size u b.blocks) (hf : Fits b) (m0 : 0 ≤ m) (m1 : m < 256) (t0 : 0 ≤ t) (t1 : t < 65536) (hq : RU8s w w.heap.size v3 q) (hqb : ∀ x ∈ q, 0 ≤ x ∧ x < 256) :
    Calls Tryz.prog 3 #[.agg (bunC b u).toArray, .int .u8 m, .int .u16 t, v3] w (Says w) := by
  obtain ⟨ba, bc, rfl, -⟩ := id hr
  obtain ⟨qa, qc, rfl, k1, k2, k3, k4⟩ := id hq
  unfold maxLen at k2
  obtain ⟨o, ho⟩ : ∃ z, q.length = z := ⟨_, rfl⟩
  rw [ho] at hq k1 k4 ⊢
  have HO := Lib.hid ho
  have HQ4 := Lib.hid k4
  have HQB := Lib.hid hqb
  have ob : o ≤ 9223372036854775807 := by omega
  clear hq k1 k2 k3 k4 hqb ho
  have HR0 := Lib.hid hr
  have HF := Lib.hid hf
  clear hr hf
  go_enter Tryz.func3, Tryz.ntmps3
  simp only [bunC]
  go_upto_region 1 with fail
  obtain ⟨w1, hw1⟩ : ∃ q, (w.alloc (.cells (bunC b (.slice ba b.blocks.length bc)).toArray 28 (0, 0))) = q := ⟨_, rfl⟩
  simp only [bunC, List.cons_append, List.nil_append, List.length_nil] at hw1
  rw [hw1]
  have y1 : w.heap.size < w1.heap.size := by rw [← hw1]; first | (simp; done) | (simp; omega)
  have B1 : Below w.heap.size w w1 := by rw [← hw1]; exact balloc0 (Below.refl _ _)
  have L0_1 : Below w.heap.size w w1 := B1
  have Xb1 : Hid (w1.heap[w.heap.size]? = some (.cells (bunC b (.slice ba b.blocks.length bc)).toArray 28 (0, 0))) := Lib.hid (by rw [← hw1]; exact heap_new)
  have zb1 : w.heap.size < w1.heap.size := by rw [← hw1]; first | (simp; done) | (simp; omega)
  clear hw1
  have cb := fun o => cellB Xb1.out o
  (try simp only [bunC, List.cons_append, List.nil_append, List.length_nil] at cb)
  go_wp2_with fail
  refine (whole_any b _ _ _ (HR0.out.below' (L0_1)) HF.out (by omega) (by omega)).mono ?_
  unfold WholePost
  rintro e w2 ⟨rw_, rfl, hbig, hb2⟩
  have B2 : Below w.heap.size w w2 := btrans0 B1 hb2
  have y2 : w1.heap.size ≤ w2.heap.size := by have := hb2.size; (try simp at this); omega
  have L0_2 : Below w.heap.size w w2 := btrans0 L0_1 hb2
  have Xb2 : Hid (w2.heap[w.heap.size]? = some (.cells (bunC b (.slice ba b.blocks.length bc)).toArray 28 (0, 0))) := Lib.hid ((hb2.block _ (by first | omega | (simp; omega))).trans (Xb1.out))
  have zb2 : w.heap.size < w2.heap.size := by omega
  clear cb
  have HBG := Lib.hid hbig
  clear hbig
  clear hb2
  have cb := fun o => cellB Xb2.out o
  (try simp only [bunC, List.cons_append, List.nil_append, List.length_nil] at cb)
  cases rw_ with
  | false =>
    go_wp2_with fail
    refine (awake30 _).mono ?_
    rintro e w99 ⟨rfl, hb99⟩
    go_wp2
    go_ret
    exact ⟨rfl, belowA⟩
  | true =>
  by_cases c40 : o ≤ 40
  case neg =>
    have d4 : decide ((40 : Int) < (o : Int)) = true := decide_eq_true (by omega)
    have d4n : (40 : Int) < (o : Int) := by omega
    have d4m : 40 < o := by omega
    clear c40
    go_wp2_with fail
    refine (awake30 _).mono ?_
    rintro e w99 ⟨rfl, hb99⟩
    go_wp2
    go_ret
    exact ⟨rfl, belowA⟩
  have d4 : decide ((40 : Int) < (o : Int)) = false := decide_eq_false (by omega)
  have d4n : ¬ (40 : Int) < (o : Int) := by omega
  have d4m : ¬ 40 < o := by omega
  have HB0 := Lib.hid (HBG.out rfl)
  clear HBG
  go_wp2_with fail
  refine (parts_any b _ _ _ _ (HR0.out.below' (L0_2)) HF.out HB0.out (by omega) t0 t1).mono ?_
  unfold PartsPost
  rintro e w3 ⟨us, v0, rfl, hox, hul, hul2, hfr, hadj, hb3⟩
  have B3 : Below w.heap.size w w3 := btrans0 B2 hb3
  have y3 : w2.heap.size ≤ w3.heap.size := by have := hb3.size; (try simp at this); omega
  have L0_3 : Below w.heap.size w w3 := btrans0 L0_2 hb3
  have Xb3 : Hid (w3.heap[w.heap.size]? = some (.cells (bunC b (.slice ba b.blocks.length bc)).toArray 28 (0, 0))) := Lib.hid ((hb3.block _ (by first | omega | (simp; omega))).trans (Xb2.out))
  have zb3 : w.heap.size < w3.heap.size := by omega
  clear cb
  have K23 : Below w2.heap.size w2 w3 := hb3
  obtain ⟨g, cap, rfl⟩ := hox.shape (by omega)
  have HOW3 := Lib.hid hox
  have HFR3 := Lib.hid hfr
  have HADJ3 := Lib.hid hadj
  clear hox hfr hadj
  obtain ⟨nn, hnn⟩ : ∃ q, us.length = q := ⟨_, rfl⟩
  rw [hnn] at HOW3 hul hul2 ⊢
  have HUL3 := Lib.hid hnn
  clear hnn
  have dn : decide ((nn : Int) < 2) = false := decide_eq_false (by omega)
  have dn1 : ¬ (nn : Int) < 2 := by omega
  have dn2 : ¬ nn < 2 := by omega
  clear hb3
  have cb := fun o => cellB Xb3.out o
  (try simp only [bunC, List.cons_append, List.nil_append, List.length_nil] at cb)
  have HCV3 : Hid (∀ t : Int, 0 ≤ t → t < (b.payload.length : Int) → ∃ z ∈ us.map (·.1), z.off ≤ t ∧ t < z.off + z.payload.length) := Lib.hid HADJ3.out.cover
  have hn2 : 2 ≤ nn := hul
  have hn24 : nn ≤ 24 + 0 := hul2
  clear hul hul2
  go_upto_region 8 with fail
  clear cb
  go_loopw [47, 10] (fun iv lv wr => ∃ (i : Nat) (us : List BV) (g cap nn : Nat), i ≤ o ∧ iv = .int .i64 i ∧ lv = .slice (some ⟨g, 0, none⟩) nn cap ∧ Hid (us.length = nn) ∧ Hid (OwnX wr w2.heap.size (.slice (some ⟨g, 0, none⟩) nn cap) us) ∧ Hid (∀ z ∈ us.map (·.1), FragOf b z) ∧ Hid (∀ t : Int, 0 ≤ t → t < (b.payload.length : Int) → ∃ z ∈ us.map (·.1), z.off ≤ t ∧ t < z.off + z.payload.length) ∧ 2 ≤ nn ∧ nn ≤ 24 + i ∧ Below w2.heap.size w2 wr ∧ w2.heap.size ≤ wr.heap.size) (fun iv _ _ => o - (intOf iv).toNat)
  case atStart => exact ⟨0, us, g, cap, nn, Nat.zero_le _, rfl, rfl, HUL3, HOW3, HFR3, HCV3, hn2, hn24, K23, y3⟩
  case round =>
    clear HUL3 HOW3 HFR3 HCV3 HADJ3 hn2 hn24 dn dn1 dn2 K23 y3 B3 Xb3 zb3
    obtain ⟨i, us, g, cap, nn, hi, rfl, rfl, HUL, HOW, HFR, HCV, hn2, hn24, K9, y9⟩ := hrel
    have zg : g < wr.heap.size := HOW.out.lt
    have hgb : w2.heap.size ≤ g := HOW.out.ge
    have bR : Below w.heap.size w wr := btrans B2 K9 (by omega)
    have n0 : ¬ nn = 0 := by omega
    have n1 : 0 < nn := by omega
    have n2 : ¬ (nn : Int) = 0 := by omega
    have n3 : (0 : Int) < (nn : Int) := by omega
    by_cases hlt : i < o
    · obtain ⟨qb, qo, rfl, hqn, hqc⟩ := HQ4.out (by omega)
      obtain ⟨y, hy⟩ : ∃ y, q[i]? = some y := ⟨_, List.getElem?_eq_getElem (by have := HO.out; omega)⟩
      have cy : wr.cell? ⟨qb, qo + i, none⟩ = some (.int .u8 y) := (bR.cell (p := ⟨qb, qo + i, none⟩) hqn).trans (hqc i y hy)
      obtain ⟨y0, y1⟩ := HQB.out y (List.mem_of_getElem? hy)
      clear hy hqc
      have i0 : (0 : Int) ≤ (i : Int) := by omega
      have i1 : (i : Int) < (o : Int) := by omega
      have hul := HUL.out
      go_upto_if 54 with fail
      go_cut [10] (fun s10 wx => ∃ (us : List BV) (g cap nn : Nat), s10 = .slice (some ⟨g, 0, none⟩) nn cap ∧ Hid (us.length = nn) ∧ Hid (OwnX wx w2.heap.size (.slice (some ⟨g, 0, none⟩) nn cap) us) ∧ Hid (∀ z ∈ us.map (·.1), FragOf b z) ∧ Hid (∀ t : Int, 0 ≤ t → t < (b.payload.length : Int) → ∃ z ∈ us.map (·.1), z.off ≤ t ∧ t < z.off + z.payload.length) ∧ 2 ≤ nn ∧ nn ≤ 24 + (i + 1) ∧ Below w2.heap.size w2 wx ∧ w2.heap.size ≤ wx.heap.size)
      case first =>
        by_cases e3 : i % 3 = 0
        · obtain ⟨kk, hk, hkn0⟩ := mod_nat y n1
          have hk3 : y.tmod (nn : Int) = (kk : Int) := by rw [Int.tmod_eq_emod_of_nonneg y0]; exact hk
          have hk2 : (IntKind.i64.wrap y).tmod (nn : Int) = (kk : Int) := by rw [show IntKind.i64.wrap y = y by unfold IntKind.wrap; simp [IntKind.signed, IntKind.bits]; omega]; exact hk3
          have k0_ : (0 : Int) ≤ (kk : Int) := by omega
          have k1_ : (kk : Int) < (nn : Int) := by omega
          have e3i : (i : Int) % 3 = 0 := by omega
          have hkn : kk < us.length := by omega
          obtain ⟨⟨xb, vb⟩, hB⟩ : ∃ r, us[kk]? = some r := ⟨_, List.getElem?_eq_getElem hkn⟩
          have rB : RBlksD wr (fun q => q < wr.heap.size ∧ q ≠ g) vb xb.blocks := HOW.out.row (List.mem_of_getElem? hB)
          obtain ⟨ab, cb, rfl, -⟩ := id rB
          have HRB := Lib.hid rB
          have HFB : Hid (FragOf b xb) := Lib.hid (HFR.out xb (List.mem_map.2 ⟨_, List.mem_of_getElem? hB, rfl⟩))
          have cB0 : wr.cell? ⟨g, kk * 12, none⟩ = some (.int .i64 xb.src) := HOW.out.cell (d := 0) hul hB rfl
          have cB1 : wr.cell? ⟨g, kk * 12 + 1, none⟩ = some (.int .i64 xb.crt) := HOW.out.cell (d := 1) hul hB rfl
          have cB2 : wr.cell? ⟨g, kk * 12 + 2, none⟩ = some (.int .i64 xb.seq) := HOW.out.cell (d := 2) hul hB rfl
          have cB3 : wr.cell? ⟨g, kk * 12 + 3, none⟩ = some (.int .i64 xb.off) := HOW.out.cell (d := 3) hul hB rfl
          have cB4 : wr.cell? ⟨g, kk * 12 + 4, none⟩ = some (.int .i64 xb.tot) := HOW.out.cell (d := 4) hul hB rfl
          have cB5 : wr.cell? ⟨g, kk * 12 + 5, none⟩ = some (.int .i64 xb.dk) := HOW.out.cell (d := 5) hul hB rfl
          have cB6 : wr.cell? ⟨g, kk * 12 + 6, none⟩ = some (.int .i64 xb.dn) := HOW.out.cell (d := 6) hul hB rfl
          have cB7 : wr.cell? ⟨g, kk * 12 + 7, none⟩ = some (.int .i64 xb.life) := HOW.out.cell (d := 7) hul hB rfl
          have cB8 : wr.cell? ⟨g, kk * 12 + 8, none⟩ = some (.int .i64 xb.prio) := HOW.out.cell (d := 8) hul hB rfl
          have cB9 : wr.cell? ⟨g, kk * 12 + 9, none⟩ = some (.int .i64 xb.flags) := HOW.out.cell (d := 9) hul hB rfl
          have cB10 : wr.cell? ⟨g, kk * 12 + 10, none⟩ = some (.slice ab xb.blocks.length cb) := HOW.out.cell (d := 10) hul hB rfl
          have cB11 : wr.cell? ⟨g, kk * 12 + 11, none⟩ = some (.string (B xb.payload)) := HOW.out.cell (d := 11) hul hB rfl
          clear hB rB hkn0 hul
          obtain ⟨w4, hw4⟩ : ∃ q, wr.alloc (.cells (bunC xb (.slice ab xb.blocks.length cb)).toArray 28 (0, 0)) = q := ⟨_, rfl⟩
          have K4 : Below wr.heap.size wr w4 := by rw [← hw4]; exact balloc0 (Below.refl _ _)
          have z4 : wr.heap.size < w4.heap.size := by rw [← hw4]; simp
          have HON : Hid (OwnX w4 w2.heap.size (.slice (some ⟨g, 0, none⟩) nn cap) us) := Lib.hid (HOW.out.below K4)
          have hown := HON.out.1
          rw [HUL.out] at hown
          have HOWN := Lib.hid hown
          clear hown
          have HNW : Hid (w4.heap[wr.heap.size]? = some (.cells (bunC xb (.slice ab xb.blocks.length cb)).toArray 28 (0, 0))) := Lib.hid (by rw [← hw4]; exact heap_new)
          have HRC : Hid (RBlksD w4 (fun q => q < w4.heap.size ∧ (Value.slice (some ⟨g, 0, none⟩) nn cap).ownBlock ≠ some q) (.slice ab xb.blocks.length cb) xb.blocks) := Lib.hid (HRB.out.keep (fun q o hq => K4.cell (p := ⟨q, o, none⟩) hq.1) (fun q hq => ⟨by omega, fun he => hq.2 (Option.some.inj he).symm⟩))
          have HW4 := Lib.hid hw4
          simp only [bunC] at hw4
          obtain ⟨i0_, hi_, hz0, hz1, hz2⟩ := info_parts infoBun
          have hn64 : nn ≤ 64 := by omega
          go_wp2_with (at_builtin; (try rw [hw4]); refine wpList_append_lies _ rfl _ _ _ rfl w2.heap.size 28 i0_ _ 12 120 Tryz.underlying33 hi_ hz0 hz1 hz2 rfl (by omega) _ nn _ rfl HOWN.out ⟨wr.heap.size, 0, none⟩ 1 1 (bunC xb (.slice ab xb.blocks.length cb)) rfl rfl (news_one (t := 28) HNW.out) (by simp [bunC, Value.oneCell']) (by omega) (by simp only [maxLen]; omega) (by omega) (by omega) (w4.heap.size) rfl ?_; intro g2 cap2 w20 ho2 hg2 hat2 hlt2)
          have K20 : Below w2.heap.size w2 w20 := (btrans K9 K4 (by omega)).grown hg2 (by omega) (fun q hq => by have e : g = q := Option.some.inj hq; omega)
          have hsz := hg2.size
          have hAP := OwnX.append (us := us) HON.out (by rw [HUL.out]; exact ho2) hg2 hat2 HRC.out
          rw [HUL.out] at hAP
          have HAP := Lib.hid hAP
          clear hAP
          have HFR2 : Hid (∀ z ∈ (us ++ [(xb, (.slice ab xb.blocks.length cb : Value))]).map (·.1), FragOf b z) := Lib.hid (fun z hz => by
            rw [List.map_append, List.mem_append] at hz
            rcases hz with hz | hz
            · exact HFR.out z hz
            · simp at hz; subst hz; exact HFB.out)
          have HCV2 : Hid (∀ t : Int, 0 ≤ t → t < (b.payload.length : Int) → ∃ z ∈ (us ++ [(xb, (.slice ab xb.blocks.length cb : Value))]).map (·.1), z.off ≤ t ∧ t < z.off + z.payload.length) := Lib.hid (fun t h1 h2 => by
            obtain ⟨z, hz, hz2⟩ := HCV.out t h1 h2
            exact ⟨z, by rw [List.map_append, List.mem_append]; exact .inl hz, hz2⟩)
          have HUL2 : Hid ((us ++ [(xb, (.slice ab xb.blocks.length cb : Value))]).length = nn + 1) := Lib.hid (by rw [List.length_append, HUL.out]; rfl)
          go_meet
          exact ⟨_, g2, cap2, nn + 1, rfl, HUL2, HAP, HFR2, HCV2, by omega, by omega, K20, by omega⟩
        · have e3i : ¬ (i : Int) % 3 = 0 := by omega
          have e3b : ((i : Int) % 3 == 0) = false := by simpa using e3i
          go_wp2_with fail
          go_meet
          exact ⟨us, g, cap, nn, rfl, HUL, HOW, HFR, HCV, hn2, by omega, K9, y9⟩
      case rest =>
        clear HUL HOW HFR HCV hn2 hn24 K9 y9 zg hgb bR n0 n1 n2 n3 hul cy
        obtain ⟨us, g, cap, nn, rfl, HUL, HOW, HFR, HCV, hn2, hn24, K9, y9⟩ := hcut
        obtain ⟨w8, rfl⟩ : ∃ q, q = wc := ⟨_, rfl⟩
        have zg : g < w8.heap.size := HOW.out.lt
        have hgb : w2.heap.size ≤ g := HOW.out.ge
        have bR : Below w.heap.size w w8 := btrans B2 K9 (by omega)
        have n0 : ¬ nn = 0 := by omega
        have n1 : 0 < nn := by omega
        have n2 : ¬ (nn : Int) = 0 := by omega
        have n3 : (0 : Int) < (nn : Int) := by omega
        have hul := HUL.out
        obtain ⟨j, hj, hjn0⟩ := mod_nat (i : Int) n1
        obtain ⟨kk, hk, hkn0⟩ := mod_nat y n1
        have hj2 : (i : Int).tmod (nn : Int) = (j : Int) := by rw [Int.tmod_eq_emod_of_nonneg i0]; exact hj
        have hk3 : y.tmod (nn : Int) = (kk : Int) := by rw [Int.tmod_eq_emod_of_nonneg y0]; exact hk
        have hk2 : (IntKind.i64.wrap y).tmod (nn : Int) = (kk : Int) := by rw [show IntKind.i64.wrap y = y by unfold IntKind.wrap; simp [IntKind.signed, IntKind.bits]; omega]; exact hk3
        have j0 : (0 : Int) ≤ (j : Int) := by omega
        have j1 : (j : Int) < (nn : Int) := by omega
        have k0_ : (0 : Int) ≤ (kk : Int) := by omega
        have k1_ : (kk : Int) < (nn : Int) := by omega
        have HOWd : Hid (OwnX w8.drew.drew w2.heap.size (.slice (some ⟨g, 0, none⟩) nn cap) us) := Lib.hid (HOW.out.below (by exact belowA))
        have hjn : j < us.length := by omega
        have hkn : kk < us.length := by omega
        obtain ⟨⟨xa, va⟩, hA⟩ : ∃ r, us[j]? = some r := ⟨_, List.getElem?_eq_getElem hjn⟩
        obtain ⟨⟨xb, vb⟩, hB⟩ : ∃ r, us[kk]? = some r := ⟨_, List.getElem?_eq_getElem hkn⟩
        have rA : RBlksD w8.drew.drew (fun q => q < w8.drew.drew.heap.size ∧ q ≠ g) va xa.blocks := HOWd.out.row (List.mem_of_getElem? hA)
        have rB : RBlksD w8.drew.drew (fun q => q < w8.drew.drew.heap.size ∧ q ≠ g) vb xb.blocks := HOWd.out.row (List.mem_of_getElem? hB)
        obtain ⟨aa, ca, rfl, -⟩ := id rA
        obtain ⟨ab, cb, rfl, -⟩ := id rB
        have HA := Lib.hid hA
        have HB := Lib.hid hB
        have HRA := Lib.hid rA
        have HRB := Lib.hid rB
        have cA0 : w8.cell? ⟨g, j * 12, none⟩ = some (.int .i64 xa.src) := HOW.out.cell (d := 0) hul hA rfl
        have cA1 : w8.cell? ⟨g, j * 12 + 1, none⟩ = some (.int .i64 xa.crt) := HOW.out.cell (d := 1) hul hA rfl
        have cA2 : w8.cell? ⟨g, j * 12 + 2, none⟩ = some (.int .i64 xa.seq) := HOW.out.cell (d := 2) hul hA rfl
        have cA3 : w8.cell? ⟨g, j * 12 + 3, none⟩ = some (.int .i64 xa.off) := HOW.out.cell (d := 3) hul hA rfl
        have cA4 : w8.cell? ⟨g, j * 12 + 4, none⟩ = some (.int .i64 xa.tot) := HOW.out.cell (d := 4) hul hA rfl
        have cA5 : w8.cell? ⟨g, j * 12 + 5, none⟩ = some (.int .i64 xa.dk) := HOW.out.cell (d := 5) hul hA rfl
        have cA6 : w8.cell? ⟨g, j * 12 + 6, none⟩ = some (.int .i64 xa.dn) := HOW.out.cell (d := 6) hul hA rfl
        have cA7 : w8.cell? ⟨g, j * 12 + 7, none⟩ = some (.int .i64 xa.life) := HOW.out.cell (d := 7) hul hA rfl
        have cA8 : w8.cell? ⟨g, j * 12 + 8, none⟩ = some (.int .i64 xa.prio) := HOW.out.cell (d := 8) hul hA rfl
        have cA9 : w8.cell? ⟨g, j * 12 + 9, none⟩ = some (.int .i64 xa.flags) := HOW.out.cell (d := 9) hul hA rfl
        have cA10 : w8.cell? ⟨g, j * 12 + 10, none⟩ = some (.slice aa xa.blocks.length ca) := HOW.out.cell (d := 10) hul hA rfl
        have cA11 : w8.cell? ⟨g, j * 12 + 11, none⟩ = some (.string (B xa.payload)) := HOW.out.cell (d := 11) hul hA rfl
        have cB0 : w8.cell? ⟨g, kk * 12, none⟩ = some (.int .i64 xb.src) := HOW.out.cell (d := 0) hul hB rfl
        have cB1 : w8.cell? ⟨g, kk * 12 + 1, none⟩ = some (.int .i64 xb.crt) := HOW.out.cell (d := 1) hul hB rfl
        have cB2 : w8.cell? ⟨g, kk * 12 + 2, none⟩ = some (.int .i64 xb.seq) := HOW.out.cell (d := 2) hul hB rfl
        have cB3 : w8.cell? ⟨g, kk * 12 + 3, none⟩ = some (.int .i64 xb.off) := HOW.out.cell (d := 3) hul hB rfl
        have cB4 : w8.cell? ⟨g, kk * 12 + 4, none⟩ = some (.int .i64 xb.tot) := HOW.out.cell (d := 4) hul hB rfl
        have cB5 : w8.cell? ⟨g, kk * 12 + 5, none⟩ = some (.int .i64 xb.dk) := HOW.out.cell (d := 5) hul hB rfl
        have cB6 : w8.cell? ⟨g, kk * 12 + 6, none⟩ = some (.int .i64 xb.dn) := HOW.out.cell (d := 6) hul hB rfl
        have cB7 : w8.cell? ⟨g, kk * 12 + 7, none⟩ = some (.int .i64 xb.life) := HOW.out.cell (d := 7) hul hB rfl
        have cB8 : w8.cell? ⟨g, kk * 12 + 8, none⟩ = some (.int .i64 xb.prio) := HOW.out.cell (d := 8) hul hB rfl
        have cB9 : w8.cell? ⟨g, kk * 12 + 9, none⟩ = some (.int .i64 xb.flags) := HOW.out.cell (d := 9) hul hB rfl
        have cB10 : w8.cell? ⟨g, kk * 12 + 10, none⟩ = some (.slice ab xb.blocks.length cb) := HOW.out.cell (d := 10) hul hB rfl
        have cB11 : w8.cell? ⟨g, kk * 12 + 11, none⟩ = some (.string (B xb.payload)) := HOW.out.cell (d := 11) hul hB rfl
        obtain ⟨W1, hW1⟩ : ∃ q, w8.drew.drew.setCells g (j * 12) [.int .i64 xb.src, .int .i64 xb.crt, .int .i64 xb.seq, .int .i64 xb.off, .int .i64 xb.tot, .int .i64 xb.dk, .int .i64 xb.dn, .int .i64 xb.life, .int .i64 xb.prio, .int .i64 xb.flags, .slice ab xb.blocks.length cb, .string (B xb.payload)] = q := ⟨_, rfl⟩
        have HO1 : Hid (OwnX W1 w2.heap.size (.slice (some ⟨g, 0, none⟩) nn cap) (us.set j (xb, .slice ab xb.blocks.length cb))) := Lib.hid (by rw [← hW1]; exact OwnX.store (s := (xb, .slice ab xb.blocks.length cb)) (r := (xa, .slice aa xa.blocks.length ca)) (i := j) HOWd.out hul hA HRB.out)
        have hul1 : (us.set j (xb, .slice ab xb.blocks.length cb)).length = nn := by rw [List.length_set]; exact hul
        obtain ⟨r1, hr1⟩ : ∃ r, (us.set j (xb, .slice ab xb.blocks.length cb))[kk]? = some r := ⟨_, List.getElem?_eq_getElem (by omega)⟩
        obtain ⟨W2, hW2⟩ : ∃ q, W1.setCells g (kk * 12) [.int .i64 xa.src, .int .i64 xa.crt, .int .i64 xa.seq, .int .i64 xa.off, .int .i64 xa.tot, .int .i64 xa.dk, .int .i64 xa.dn, .int .i64 xa.life, .int .i64 xa.prio, .int .i64 xa.flags, .slice aa xa.blocks.length ca, .string (B xa.payload)] = q := ⟨_, rfl⟩
        have HRA1 : RBlksD W1 (fun q => q < W1.heap.size ∧ q ≠ g) (.slice aa xa.blocks.length ca) xa.blocks := HRA.out.keep (fun b o hb => World.cell?_of_block (by rw [← hW1]; exact setCells_other g b hb.2 _ _ _)) (fun q hq => ⟨by rw [← hW1, setCells_size]; exact hq.1, hq.2⟩)
        have HO2 : Hid (OwnX W2 w2.heap.size (.slice (some ⟨g, 0, none⟩) nn cap) ((us.set j (xb, .slice ab xb.blocks.length cb)).set kk (xa, .slice aa xa.blocks.length ca))) := Lib.hid (by rw [← hW2]; exact OwnX.store (s := (xa, .slice aa xa.blocks.length ca)) (r := r1) (i := kk) HO1.out hul1 hr1 HRA1)
        have HUL2 : Hid (((us.set j (xb, .slice ab xb.blocks.length cb)).set kk (xa, .slice aa xa.blocks.length ca)).length = nn) := Lib.hid (by rw [List.length_set]; exact hul1)
        have hME : ∀ x, x ∈ ((us.set j (xb, .slice ab xb.blocks.length cb)).set kk (xa, .slice aa xa.blocks.length ca)).map (·.1) ↔ x ∈ us.map (·.1) := fun x => by rw [List.mem_map, List.mem_map]; exact exists_congr fun z => and_congr_left fun _ => mem_swap HA.out HB.out z
        have HFR2 : Hid (∀ z ∈ ((us.set j (xb, .slice ab xb.blocks.length cb)).set kk (xa, .slice aa xa.blocks.length ca)).map (·.1), FragOf b z) := Lib.hid (fun z hz => HFR.out z ((hME z).1 hz))
        have HCV2 : Hid (∀ t : Int, 0 ≤ t → t < (b.payload.length : Int) → ∃ z ∈ ((us.set j (xb, .slice ab xb.blocks.length cb)).set kk (xa, .slice aa xa.blocks.length ca)).map (·.1), z.off ≤ t ∧ t < z.off + z.payload.length) := Lib.hid (fun t h1 h2 => by obtain ⟨z, hz, hz2⟩ := HCV.out t h1 h2; exact ⟨z, (hME z).2 hz, hz2⟩)
        have K1_ : Below w2.heap.size w2 W1 := by rw [← hW1]; exact (bdrew (bdrew K9)).trans (setCells_below g _ _ _ _ (by omega))
        have K2_ : Below w2.heap.size w2 W2 := by rw [← hW2]; exact K1_.trans (setCells_below g _ _ _ _ (by omega))
        have z2_ : w2.heap.size ≤ W2.heap.size := by rw [← hW2, setCells_size, ← hW1, setCells_size]; exact y9
        have HT1 := Lib.hid (HOWd.out.there hul hA)
        have HT2 := Lib.hid (HO1.out.there hul1 hr1)
        have HW1 := Lib.hid hW1
        have HW2 := Lib.hid hW2
        clear hA hB rA rB hW1 hW2 HRA1 hul1 hr1 hul hjn hkn hjn0 hkn0 hME
        as_aux_lemma =>
          go_upto_region 12 with fail
          refine wp_region_plan (fun V => Below (w8).heap.size (w8) V) [0, 0, 0, 0, 0, 0, 0, 0, 0, 0, 0] [0, 1, 2, 3, 4, 5, 6, 7, 8, 9, 10] (by kernel_rfl) (by kernel_rfl) ?_ ?_
          case refine_1 => exact belowA
          (iterate 11 (first | (refine plan_held rfl (by decide) (by rfl) (fun w1 hS => by (try (obtain ⟨_, _⟩ := bcell (hS rfl))); go_simp; rfl) ?_; simp only [Act.put, List.setIfInBounds_toArray, List.set_cons_zero, List.set_cons_succ]) | (refine plan_skip rfl (by decide) (by rfl) ?_; simp only [Act.put, List.setIfInBounds_toArray, List.set_cons_zero, List.set_cons_succ])))
          refine plan_done ?_
          go_upto_region 13 with fail
          refine wp_region_plan (fun V => Below w8.heap.size w8 V) [0, 0, 0, 0, 0, 0, 0, 1, 0, 0, 0, 1, 0, 3, 0, 3] [0, 1, 2, 3, 4, 5, 6, 7, 8, 9, 10, 11, 12, 13, 14, 15] (by kernel_rfl) (by kernel_rfl) ?_ ?_
          case refine_1 => exact belowA
          (iterate 13 (first | (refine plan_held rfl (by decide) (by rfl) (fun w1 hS => by (try (obtain ⟨_, _⟩ := bcell (hS rfl))); go_simp; rfl) ?_; simp only [Act.put, List.setIfInBounds_toArray, List.set_cons_zero, List.set_cons_succ]) | (refine plan_skip rfl (by decide) (by rfl) ?_; simp only [Act.put, List.setIfInBounds_toArray, List.set_cons_zero, List.set_cons_succ])))
          refine plan_late rfl rfl (by rfl) (fun K hK => ?_)
          refine wp_store_mid 28 _ _ rfl g (j * 12) #[.int .i64 xb.src, .int .i64 xb.crt, .int .i64 xb.seq, .int .i64 xb.off, .int .i64 xb.tot, .int .i64 xb.dk, .int .i64 xb.dn, .int .i64 xb.life, .int .i64 xb.prio, .int .i64 xb.flags, .slice ab xb.blocks.length cb, .string (B xb.payload)] rfl rfl HT1.out (by kernel_rfl) (by simp [Value.oneCell']) ?_
          rw [HW1.out]
          refine hK _ _ ?_
          clear hK K
          simp only [Act.put, List.setIfInBounds_toArray, List.set_cons_zero, List.set_cons_succ]
          (iterate 1 (first | (refine plan_held rfl (by decide) (by rfl) (fun w1 hS => by (try (obtain ⟨_, _⟩ := bcell (hS rfl))); go_simp; rfl) ?_; simp only [Act.put, List.setIfInBounds_toArray, List.set_cons_zero, List.set_cons_succ]) | (refine plan_skip rfl (by decide) (by rfl) ?_; simp only [Act.put, List.setIfInBounds_toArray, List.set_cons_zero, List.set_cons_succ])))
          refine plan_late rfl rfl (by rfl) (fun K hK => ?_)
          refine wp_store_mid 28 _ _ rfl g (kk * 12) #[.int .i64 xa.src, .int .i64 xa.crt, .int .i64 xa.seq, .int .i64 xa.off, .int .i64 xa.tot, .int .i64 xa.dk, .int .i64 xa.dn, .int .i64 xa.life, .int .i64 xa.prio, .int .i64 xa.flags, .slice aa xa.blocks.length ca, .string (B xa.payload)] rfl rfl HT2.out (by kernel_rfl) (by simp [Value.oneCell']) ?_
          rw [HW2.out]
          refine hK _ _ ?_
          clear hK K
          simp only [Act.put, List.setIfInBounds_toArray, List.set_cons_zero, List.set_cons_succ]
          refine plan_done ?_
          go_wp2
          go_roundw
          case rel => exact ⟨i + 1, _, g, cap, nn, by omega, by go_num, rfl, HUL2, HO2, HFR2, HCV2, by omega, by omega, K2_, z2_⟩
          case measure => simp [intOf]; omega
    · obtain rfl : i = o := by omega
      clear hlt
      obtain ⟨w10, rfl⟩ : ∃ q, q = wr := ⟨_, rfl⟩
      have B10 : Below w.heap.size w w10 := bR
      have Xb10 : Hid (w10.heap[w.heap.size]? = some (.cells (bunC b (.slice ba b.blocks.length bc)).toArray 28 (0, 0))) := Lib.hid ((K9.block _ (by omega)).trans Xb2.out)
      have zb10 : w.heap.size < w10.heap.size := by omega
      have HLN : Hid (2 ≤ (us.map (·.1)).length) := Lib.hid (by rw [List.length_map, HUL.out]; omega)
      have HLM : Hid ((us.map (·.1)).length ≤ 64) := Lib.hid (by rw [List.length_map, HUL.out]; omega)
      have HBU10 : Hid (RBuns w10 w10.heap.size (.slice (some ⟨g, 0, none⟩) nn cap) (us.map (·.1))) := Lib.hid HOW.out.buns
      obtain ⟨l, hl⟩ : ∃ q, us.map (·.1) = q := ⟨_, rfl⟩
      rw [hl] at HLN HLM HBU10 HFR HCV
      clear hl HOW HUL hgb zg bR
      have HAL : Hid (allP l = (b, 0)) := Lib.hid (by
        have h1 := HLN.out
        have h2 := HLM.out
        have h3 := HFR.out
        have h5 := HCV.out
        match l, h1, h2, h3, h5 with
        | [], h1, _, _, _ => simp at h1
        | x :: r, h1, h2, h3, h5 => exact frag_whole_all HB0.out.valid HB0.out.tot h3 (by simp at h2; omega) h5)
      have HFA : Hid (∀ z ∈ l, Fits z) := Lib.hid (fun z hz => (HFR.out z hz).fits HF.out)
      have HR10 : Hid (RBlks w10 w10.heap.size (.slice ba b.blocks.length bc) b.blocks) := Lib.hid (HR0.out.below (C := w.heap.size) B10 (Nat.le_refl _) (by omega))
      as_aux_lemma =>
        have cb := fun o => cellB Xb10.out o
        (try simp only [bunC, List.cons_append, List.nil_append, List.length_nil] at cb)
        go_wp2_with fail
        refine (all_any l _ _ (HBU10.out.below' (Below.refl _ _)) HFA.out).mono ?_
        unfold AllPost
        rw [HAL.out]
        rintro e w11 ⟨ur, rfl, hr9, hb11⟩
        have B11 : Below w.heap.size w w11 := btrans0 B10 hb11
        have y11 : w10.heap.size ≤ w11.heap.size := by have := hb11.size; (try simp at this); omega
        have L10_11 : Below w10.heap.size w10 w11 := btrans0 (Below.refl _ _) hb11
        have Xb11 : Hid (w11.heap[w.heap.size]? = some (.cells (bunC b (.slice ba b.blocks.length bc)).toArray 28 (0, 0))) := Lib.hid ((hb11.block _ (by first | omega | (simp; omega))).trans (Xb10.out))
        have zb11 : w.heap.size < w11.heap.size := by omega
        clear cb
        simp only at hr9
        obtain ⟨ra, rn, rfl, -⟩ := id hr9
        have HRZ11 := Lib.hid hr9
        clear hr9
        clear hb11
        have cb := fun o => cellB Xb11.out o
        (try simp only [bunC, List.cons_append, List.nil_append, List.length_nil] at cb)
        simp only [bunC]
        go_upto_region 16 with fail
        obtain ⟨w12, hw12⟩ : ∃ q, w11.alloc (.cells (bunC b (.slice ra b.blocks.length rn)).toArray 28 (0, 0)) = q := ⟨_, rfl⟩
        (try simp only [bunC, List.cons_append, List.nil_append, List.length_nil] at hw12)
        rw [hw12]
        have y12 : w11.heap.size < w12.heap.size := by rw [← hw12]; simp
        have B12 : Below w.heap.size w w12 := by rw [← hw12]; exact balloc0 B11
        have L10_12 : Below w10.heap.size w10 w12 := by rw [← hw12]; exact balloc0 L10_11
        have L11_12 : Below w11.heap.size w11 w12 := by rw [← hw12]; exact balloc0 (Below.refl _ _)
        have Xb12 : Hid (w12.heap[w.heap.size]? = some (.cells (bunC b (.slice ba b.blocks.length bc)).toArray 28 (0, 0))) := Lib.hid (by rw [← hw12]; exact (Below.heap_alloc _ _ _ (by omega)).trans Xb11.out)
        have zb12 : w.heap.size < w12.heap.size := by omega
        have Xz12 : Hid (w12.heap[w11.heap.size]? = some (.cells (bunC b (.slice ra b.blocks.length rn)).toArray 28 (0, 0))) := Lib.hid (by rw [← hw12]; exact heap_new)
        have zz12 : w11.heap.size < w12.heap.size := by omega
        clear cb
        clear hw12
        have cb := fun o => cellB Xb12.out o
        have cz := fun o => cellB Xz12.out o
        (try simp only [bunC, List.cons_append, List.nil_append, List.length_nil] at cb cz)
        go_wp2_with fail
        refine (bsame_any b _ _ _ (HRZ11.out.below' (L11_12)) (HR10.out.below' (L10_12))).mono ?_
        rintro e w13 ⟨rfl, hb13⟩
        have B13 : Below w.heap.size w w13 := btrans0 B12 hb13
        have y13 : w12.heap.size ≤ w13.heap.size := by have := hb13.size; (try simp at this); omega
        have L10_13 : Below w10.heap.size w10 w13 := btrans0 L10_12 hb13
        have L11_13 : Below w11.heap.size w11 w13 := btrans0 L11_12 hb13
        have Xb13 : Hid (w13.heap[w.heap.size]? = some (.cells (bunC b (.slice ba b.blocks.length bc)).toArray 28 (0, 0))) := Lib.hid ((hb13.block _ (by first | omega | (simp; omega))).trans (Xb12.out))
        have zb13 : w.heap.size < w13.heap.size := by omega
        have Xz13 : Hid (w13.heap[w11.heap.size]? = some (.cells (bunC b (.slice ra b.blocks.length rn)).toArray 28 (0, 0))) := Lib.hid ((hb13.block _ (by first | omega | (simp; omega))).trans (Xz12.out))
        have zz13 : w11.heap.size < w13.heap.size := by omega
        clear cb cz
        clear hb13
        have cb := fun o => cellB Xb13.out o
        have cz := fun o => cellB Xz13.out o
        (try simp only [bunC, List.cons_append, List.nil_append, List.length_nil] at cb cz)
        go_wp2_with fail
        refine (awake30 _).mono ?_
        rintro e w99 ⟨rfl, hb99⟩
        go_wp2
        go_ret
        exact ⟨rfl, belowA⟩
end Go.Proofs.YthlbddcllikolaaGreat
