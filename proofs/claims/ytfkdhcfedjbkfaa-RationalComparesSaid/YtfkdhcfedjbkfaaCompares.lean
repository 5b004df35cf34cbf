/-
  Proved: mailboatlaw04.RationalCompares returns true for every input (Compare is a total order that agrees with Sub and Add), and leaves its arguments as they were. No condition.
-/
import Derived.Test.YtfkdhcfedjbkfaaRows
import Derived.Test.YtfkdhcfedjbkfaaL
import Derived.Test.YtfkdhcfedjbkfaaM
import Derived.Test.YtfkdhcfedjbkfaaCmpa
import Derived.Test.YtfkdhcfedjbkfaaCmpb
import Derived.Test.YtfkdhcfedjbkfaaCmpc
namespace Go.Proofs.Ytfkdhcfedjbkfaa.rationalCompares
open Go.ChangeShapes Go.WideShapes Go.ChangeAt Go.RowKit Go.Joins Go.Proofs.Ytfkdhcfedjbkfaa

theorem own : ownKnob Try.prog.godebug = none := by kernel_rfl

set_option maxRecDepth 100000 in
set_option maxHeartbeats 1600000 in
theorem good (an ad bn bd cn cd : Int) (w : World) (an1 : -9223372036854775808 ≤ an) (an2 : an ≤ 9223372036854775807) (ad1 : -9223372036854775808 ≤ ad) (ad2 : ad ≤ 9223372036854775807) (bn1 : -9223372036854775808 ≤ bn) (bn2 : bn ≤ 9223372036854775807) (bd1 : -9223372036854775808 ≤ bd) (bd2 : bd ≤ 9223372036854775807) (cn1 : -9223372036854775808 ≤ cn) (cn2 : cn ≤ 9223372036854775807) (cd1 : -9223372036854775808 ≤ cd) (cd2 : cd ≤ 9223372036854775807) (ha : chk (an, ad) = 0) (hb : chk (bn, bd) = 0) (hc : chk (cn, cd) = 0) :
    Calls Try.prog 6 #[.agg #[.int .i64 an, .int .i64 ad], .agg #[.int .i64 bn, .int .i64 bd], .agg #[.int .i64 cn, .int .i64 cd]] w fun e w' => e = .returned (.bool true) ∧ Below w.heap.size w w' := by
  have va := (chk_iff _).1 ha
  have vb := (chk_iff _).1 hb
  have vc := (chk_iff _).1 hc
  obtain ⟨n, hn⟩ : ∃ x, cmpS (an, ad) (bn, bd) = x := ⟨_, rfl⟩
  have hm : cmpS (bn, bd) (an, ad) = -n := by rw [cmp_neg vb va, hn]
  have hnb := cmp_bd (an, ad) (bn, bd)
  rw [hn] at hnb
  obtain ⟨n1, n2⟩ := hnb
  have he : ((n == 0) == (an == bn && ad == bd)) = true := by
    have := cmp_eq va vb
    rw [hn, Prod.mk.injEq] at this
    rw [beq_iff_eq, Bool.eq_iff_iff]
    simpa using this
  obtain ⟨⟨⟨dn, dd⟩, de⟩, hd⟩ : ∃ x, opS sub0 (an, ad) (bn, bd) = x := ⟨_, rfl⟩
  obtain ⟨⟨⟨xn, xd⟩, xe⟩, hx⟩ : ∃ x, opS add0 (an, ad) (cn, cd) = x := ⟨_, rfl⟩
  obtain ⟨⟨⟨yn, yd⟩, ye⟩, hy⟩ : ∃ x, opS add0 (bn, bd) (cn, cd) = x := ⟨_, rfl⟩
  obtain ⟨u, hu⟩ : ∃ x, cmpS (bn, bd) (cn, cd) = x := ⟨_, rfl⟩
  obtain ⟨v, hv⟩ : ∃ x, cmpS (an, ad) (cn, cd) = x := ⟨_, rfl⟩
  have hd0 : de = 0 → (decide (n < 0) == decide (dn < 0)) = true := fun h => by
    subst h
    have := cmp_sub hd
    rw [hn] at this
    rw [beq_iff_eq, Bool.eq_iff_iff]; simpa using this
  have hz0 : xe = 0 → ye = 0 → cmpS (xn, xd) (yn, yd) = n := fun h1 h2 => by subst h1 h2; rw [cmp_add hx hy, hn]
  have hv0 : n ≤ 0 → u ≤ 0 → v ≤ 0 := fun h1 h2 => by rw [← hv]; exact cmp_trans va vb vc (by omega) (by omega)
  have bx : xe = 0 → (-9223372036854775808 ≤ xn ∧ xn ≤ 9223372036854775807) ∧ -9223372036854775808 ≤ xd ∧ xd ≤ 9223372036854775807 := fun h => by
    subst h
    obtain ⟨_, _, v, _⟩ := opS_ok add_fin hx
    have := v.lo; have := v.hi; have := v.dlo; have := v.dhi; simp only at *; omega
  have by' : ye = 0 → (-9223372036854775808 ≤ yn ∧ yn ≤ 9223372036854775807) ∧ -9223372036854775808 ≤ yd ∧ yd ≤ 9223372036854775807 := fun h => by
    subst h
    obtain ⟨_, _, v, _⟩ := opS_ok add_fin hy
    have := v.lo; have := v.hi; have := v.dlo; have := v.dhi; simp only at *; omega
  by_cases z1 : n ≤ 0
  · by_cases zu : u ≤ 0
    · skip
      by_cases zd : de = 0
      · subst zd
        by_cases zx : xe = 0
        · subst zx
          by_cases zy : ye = 0
          · subst zy
            exact way_le_le_sub_ok an ad bn bd cn cd w an1 an2 ad1 ad2 bn1 bn2 bd1 bd2 cn1 cn2 cd1 cd2 ha hb hc n hn hm n1 n2 he z1 u hu zu v hv (hv0 z1 zu) dn dd hd (hd0 rfl) xn xd yn yd hx hy (bx rfl).1.1 (bx rfl).1.2 (bx rfl).2.1 (bx rfl).2.2 (by' rfl).1.1 (by' rfl).1.2 (by' rfl).2.1 (by' rfl).2.2 (hz0 rfl rfl)
          · exact way_le_le_sub_y an ad bn bd cn cd w an1 an2 ad1 ad2 bn1 bn2 bd1 bd2 cn1 cn2 cd1 cd2 ha hb hc n hn hm n1 n2 he z1 u hu zu v hv (hv0 z1 zu) dn dd hd (hd0 rfl) xn xd yn yd ye hx hy (by simpa using zy)
        · exact way_le_le_sub_x an ad bn bd cn cd w an1 an2 ad1 ad2 bn1 bn2 bd1 bd2 cn1 cn2 cd1 cd2 ha hb hc n hn hm n1 n2 he z1 u hu zu v hv (hv0 z1 zu) dn dd hd (hd0 rfl) xn xd yn yd xe ye hx hy (by simpa using zx)
      · skip
        by_cases zx : xe = 0
        · subst zx
          by_cases zy : ye = 0
          · subst zy
            exact way_le_le_nosub_ok an ad bn bd cn cd w an1 an2 ad1 ad2 bn1 bn2 bd1 bd2 cn1 cn2 cd1 cd2 ha hb hc n hn hm n1 n2 he z1 u hu zu v hv (hv0 z1 zu) dn dd de hd (by simpa using zd) xn xd yn yd hx hy (bx rfl).1.1 (bx rfl).1.2 (bx rfl).2.1 (bx rfl).2.2 (by' rfl).1.1 (by' rfl).1.2 (by' rfl).2.1 (by' rfl).2.2 (hz0 rfl rfl)
          · exact way_le_le_nosub_y an ad bn bd cn cd w an1 an2 ad1 ad2 bn1 bn2 bd1 bd2 cn1 cn2 cd1 cd2 ha hb hc n hn hm n1 n2 he z1 u hu zu v hv (hv0 z1 zu) dn dd de hd (by simpa using zd) xn xd yn yd ye hx hy (by simpa using zy)
        · exact way_le_le_nosub_x an ad bn bd cn cd w an1 an2 ad1 ad2 bn1 bn2 bd1 bd2 cn1 cn2 cd1 cd2 ha hb hc n hn hm n1 n2 he z1 u hu zu v hv (hv0 z1 zu) dn dd de hd (by simpa using zd) xn xd yn yd xe ye hx hy (by simpa using zx)
    · have zu : 0 < u := by omega
      by_cases zd : de = 0
      · subst zd
        by_cases zx : xe = 0
        · subst zx
          by_cases zy : ye = 0
          · subst zy
            exact way_le_gt_sub_ok an ad bn bd cn cd w an1 an2 ad1 ad2 bn1 bn2 bd1 bd2 cn1 cn2 cd1 cd2 ha hb hc n hn hm n1 n2 he z1 u hu zu dn dd hd (hd0 rfl) xn xd yn yd hx hy (bx rfl).1.1 (bx rfl).1.2 (bx rfl).2.1 (bx rfl).2.2 (by' rfl).1.1 (by' rfl).1.2 (by' rfl).2.1 (by' rfl).2.2 (hz0 rfl rfl)
          · exact way_le_gt_sub_y an ad bn bd cn cd w an1 an2 ad1 ad2 bn1 bn2 bd1 bd2 cn1 cn2 cd1 cd2 ha hb hc n hn hm n1 n2 he z1 u hu zu dn dd hd (hd0 rfl) xn xd yn yd ye hx hy (by simpa using zy)
        · exact way_le_gt_sub_x an ad bn bd cn cd w an1 an2 ad1 ad2 bn1 bn2 bd1 bd2 cn1 cn2 cd1 cd2 ha hb hc n hn hm n1 n2 he z1 u hu zu dn dd hd (hd0 rfl) xn xd yn yd xe ye hx hy (by simpa using zx)
      · skip
        by_cases zx : xe = 0
        · subst zx
          by_cases zy : ye = 0
          · subst zy
            exact way_le_gt_nosub_ok an ad bn bd cn cd w an1 an2 ad1 ad2 bn1 bn2 bd1 bd2 cn1 cn2 cd1 cd2 ha hb hc n hn hm n1 n2 he z1 u hu zu dn dd de hd (by simpa using zd) xn xd yn yd hx hy (bx rfl).1.1 (bx rfl).1.2 (bx rfl).2.1 (bx rfl).2.2 (by' rfl).1.1 (by' rfl).1.2 (by' rfl).2.1 (by' rfl).2.2 (hz0 rfl rfl)
          · exact way_le_gt_nosub_y an ad bn bd cn cd w an1 an2 ad1 ad2 bn1 bn2 bd1 bd2 cn1 cn2 cd1 cd2 ha hb hc n hn hm n1 n2 he z1 u hu zu dn dd de hd (by simpa using zd) xn xd yn yd ye hx hy (by simpa using zy)
        · exact way_le_gt_nosub_x an ad bn bd cn cd w an1 an2 ad1 ad2 bn1 bn2 bd1 bd2 cn1 cn2 cd1 cd2 ha hb hc n hn hm n1 n2 he z1 u hu zu dn dd de hd (by simpa using zd) xn xd yn yd xe ye hx hy (by simpa using zx)
  · have z1 : 0 < n := by omega
    by_cases zd : de = 0
    · subst zd
      by_cases zx : xe = 0
      · subst zx
        by_cases zy : ye = 0
        · subst zy
          exact way_gt_sub_ok an ad bn bd cn cd w an1 an2 ad1 ad2 bn1 bn2 bd1 bd2 cn1 cn2 cd1 cd2 ha hb hc n hn hm n1 n2 he z1 dn dd hd (hd0 rfl) xn xd yn yd hx hy (bx rfl).1.1 (bx rfl).1.2 (bx rfl).2.1 (bx rfl).2.2 (by' rfl).1.1 (by' rfl).1.2 (by' rfl).2.1 (by' rfl).2.2 (hz0 rfl rfl)
        · exact way_gt_sub_y an ad bn bd cn cd w an1 an2 ad1 ad2 bn1 bn2 bd1 bd2 cn1 cn2 cd1 cd2 ha hb hc n hn hm n1 n2 he z1 dn dd hd (hd0 rfl) xn xd yn yd ye hx hy (by simpa using zy)
      · exact way_gt_sub_x an ad bn bd cn cd w an1 an2 ad1 ad2 bn1 bn2 bd1 bd2 cn1 cn2 cd1 cd2 ha hb hc n hn hm n1 n2 he z1 dn dd hd (hd0 rfl) xn xd yn yd xe ye hx hy (by simpa using zx)
    · skip
      by_cases zx : xe = 0
      · subst zx
        by_cases zy : ye = 0
        · subst zy
          exact way_gt_nosub_ok an ad bn bd cn cd w an1 an2 ad1 ad2 bn1 bn2 bd1 bd2 cn1 cn2 cd1 cd2 ha hb hc n hn hm n1 n2 he z1 dn dd de hd (by simpa using zd) xn xd yn yd hx hy (bx rfl).1.1 (bx rfl).1.2 (bx rfl).2.1 (bx rfl).2.2 (by' rfl).1.1 (by' rfl).1.2 (by' rfl).2.1 (by' rfl).2.2 (hz0 rfl rfl)
        · exact way_gt_nosub_y an ad bn bd cn cd w an1 an2 ad1 ad2 bn1 bn2 bd1 bd2 cn1 cn2 cd1 cd2 ha hb hc n hn hm n1 n2 he z1 dn dd de hd (by simpa using zd) xn xd yn yd ye hx hy (by simpa using zy)
      · exact way_gt_nosub_x an ad bn bd cn cd w an1 an2 ad1 ad2 bn1 bn2 bd1 bd2 cn1 cn2 cd1 cd2 ha hb hc n hn hm n1 n2 he z1 dn dd de hd (by simpa using zd) xn xd yn yd xe ye hx hy (by simpa using zx)

set_option maxRecDepth 100000 in
set_option maxHeartbeats 1600000 in
theorem walk (an ad bn bd cn cd : Int) (w : World) (an1 : -9223372036854775808 ≤ an) (an2 : an ≤ 9223372036854775807) (ad1 : -9223372036854775808 ≤ ad) (ad2 : ad ≤ 9223372036854775807) (bn1 : -9223372036854775808 ≤ bn) (bn2 : bn ≤ 9223372036854775807) (bd1 : -9223372036854775808 ≤ bd) (bd2 : bd ≤ 9223372036854775807) (cn1 : -9223372036854775808 ≤ cn) (cn2 : cn ≤ 9223372036854775807) (cd1 : -9223372036854775808 ≤ cd) (cd2 : cd ≤ 9223372036854775807) :
    Calls Try.prog 6 #[.agg #[.int .i64 an, .int .i64 ad], .agg #[.int .i64 bn, .int .i64 bd], .agg #[.int .i64 cn, .int .i64 cd]] w fun e w' => e = .returned (.bool true) ∧ Below w.heap.size w w' := by
  have h0 : cmpS (0, 0) (an, ad) = 0 := by unfold cmpS; rw [if_neg (by rintro ⟨h, _⟩; revert h; decide)]
  by_cases z1 : chk (an, ad) = 0
  · by_cases z2 : chk (bn, bd) = 0
    · by_cases z3 : chk (cn, cd) = 0
      · exact good an ad bn bd cn cd w an1 an2 ad1 ad2 bn1 bn2 bd1 bd2 cn1 cn2 cd1 cd2 z1 z2 z3
      · exact bad_c an ad bn bd cn cd w an1 an2 ad1 ad2 bn1 bn2 bd1 bd2 cn1 cn2 cd1 cd2 z1 z2 _ rfl (by simpa using z3) h0
    · exact bad_b an ad bn bd cn cd w an1 an2 ad1 ad2 bn1 bn2 bd1 bd2 cn1 cn2 cd1 cd2 z1 _ rfl (by simpa using z2) h0
  · exact bad_a an ad bn bd cn cd w an1 an2 ad1 ad2 bn1 bn2 bd1 bd2 cn1 cn2 cd1 cd2 _ rfl (by simpa using z1) h0

theorem i64bd (n : Int) (h : (Lit.int .i64 n).wf = true) : -9223372036854775808 ≤ n ∧ n ≤ 9223372036854775807 := by
  simpa [Lit.wf, IntKind.min, IntKind.max, IntKind.signed, IntKind.bits] using h

set_option maxRecDepth 100000 in
theorem lifted (os : Os) (started : os.Started) (H : Type) (enc : TypeId × Value → H) :
    ReturnsInHanded {} Try.checked os 6 .any (Rows.rationalComparesSpec.pre6 enc Try.prog Try.f6 Rows.rationalComparesRow.domain false) (Rows.rationalComparesSpec.post enc Try.prog Try.f6 false true false false) := by
  refine returnsInHanded_of_change (C := Try.checked) own started (by kernel_rfl) Try.func6
    (ChangeSpec.witness6 (enc := enc) (C := Try.checked) false ⟨#[], #[.agg #[.int .i64 0, .int .i64 0], .agg #[.int .i64 0, .int .i64 0], .agg #[.int .i64 0, .int .i64 0]], []⟩ 8 (by kernel_rfl) (by kernel_rfl) (by kernel_rfl) (by kernel_rfl)) ?_
  intro W base args ds gs before hval0 hW hcnd _
  have hval : ∀ (j : Nat) t v, Try.f6.params[j]? = some t → args[j]? = some v → Value.okWide Try.prog W .any base t v := hval0
  have hW' := hW
  obtain ⟨p, q, hA0, hV, rfl, hfz, hnd⟩ := hW
  have hA : DataW.TrodAll enc Try.prog W 0 (fun _ => true) true Try.f6.params.toList args.toList ds p := hA0
  rw [Try.params6] at hA hval
  obtain ⟨v0, vs0, d0, ds0, p0, q0, hargs, rfl, rfl, h0, r0⟩ := trodAll_cons hA
  obtain ⟨v1, vs1, d1, ds1, p1, q1, rfl, rfl, rfl, h1, r1⟩ := trodAll_cons r0
  obtain ⟨v2, vs2, d2, ds2, p2, q2, rfl, rfl, rfl, h2, r2⟩ := trodAll_cons r1
  obtain ⟨rfl, rfl, rfl⟩ := trodAll_nil r2
  obtain rfl : args = #[v0, v1, v2] := by cases args; simp_all
  obtain ⟨c0, c1, y0, y1, m, rfl, _, _, hy0, hy1⟩ := open_agg2 Try.underlying23 (by kernel_rfl) (by kernel_rfl) (hval 0 23 v0 rfl rfl) h0
  obtain ⟨an, e0, _, wan⟩ := DataW.trod_int Try.underlying3 hy0
  obtain ⟨ad, e1, _, wad⟩ := DataW.trod_int Try.underlying3 hy1
  simp at e0 e1
  subst e0 e1
  obtain ⟨c0, c1, y0, y1, m, rfl, _, _, hy0, hy1⟩ := open_agg2 Try.underlying23 (by kernel_rfl) (by kernel_rfl) (hval 1 23 v1 rfl rfl) h1
  obtain ⟨bn, e0, _, wbn⟩ := DataW.trod_int Try.underlying3 hy0
  obtain ⟨bd, e1, _, wbd⟩ := DataW.trod_int Try.underlying3 hy1
  simp at e0 e1
  subst e0 e1
  obtain ⟨c0, c1, y0, y1, m, rfl, _, _, hy0, hy1⟩ := open_agg2 Try.underlying23 (by kernel_rfl) (by kernel_rfl) (hval 2 23 v2 rfl rfl) h2
  obtain ⟨cn, e0, _, wcn⟩ := DataW.trod_int Try.underlying3 hy0
  obtain ⟨cd, e1, _, wcd⟩ := DataW.trod_int Try.underlying3 hy1
  simp at e0 e1
  subst e0 e1
  refine (walk an ad bn bd cn cd W (i64bd an wan).1 (i64bd an wan).2 (i64bd ad wad).1 (i64bd ad wad).2 (i64bd bn wbn).1 (i64bd bn wbn).2 (i64bd bd wbd).1 (i64bd bd wbd).2 (i64bd cn wcn).1 (i64bd cn wcn).2 (i64bd cd wcd).1 (i64bd cd wcd).2).mono fun e W' ⟨he, hB⟩ => ?_
  subst he
  refine ⟨_, rfl, law_post (by kernel_rfl) (by kernel_rfl) rfl Try.underlying4 rfl ?_ hW' hB⟩
  intro es hes
  match es, hes with
  | [_, _, _], _ => rfl

theorem proved : Rows.RationalComparesSaid :=
  OpenClaim.holds_of_wide 6 Try.f6 rfl rfl rfl rfl rfl rfl rfl ⟨rfl, rfl, rfl, rfl, rfl⟩ rfl rfl rfl rfl rfl (by kernel_rfl) Try.func6 (by kernel_rfl)
    (of_decide_eq_true (by kernel_rfl)) (by unfold Func.isWrapper; first | (rw [if_pos (by decide +kernel)]; kernel_rfl) | (rw [if_neg (by decide +kernel)]; exact ⟨rfl, rfl⟩))
    (fun os started H enc _ => lifted os started H enc)
#print axioms proved
end Go.Proofs.Ytfkdhcfedjbkfaa.rationalCompares
