/- TopMirrorTight: latest.Find (printed by gen/g22.py) -/
import Derived.BigQuiet
import Derived.BigRegion
import Derived.Deep.DeepCutAuto
import Derived.Test.YtbpmccfbfpgijaaGreatNq
set_option linter.unusedVariables false
set_option linter.unusedSimpArgs false
namespace Go.Proofs.YtbpmccfbfpgijaaGreat
open Go Go.RowKit Iv
attribute [local go_sem] Oper.semAt_some
attribute [local go_sem] B_getElem B_size B_app B_extract B_get B_toList
def hopC (x : Int × Int × Int × Int) : List Value := [.int .i64 x.1, .int .i64 x.2.1, .int .i64 x.2.2.1, .int .i64 x.2.2.2]
def hopsV (l : List (Int × Int × Int × Int)) : List Value := l.flatMap hopC
theorem hopsV_len (l : List (Int × Int × Int × Int)) : (hopsV l).length = l.length * 4 := by
  unfold hopsV
  induction l with
  | nil => rfl
  | cons x l ih => rw [List.flatMap_cons, List.length_append, ih, List.length_cons]; show 4 + _ = _; omega
theorem hopsV_snoc (l : List (Int × Int × Int × Int)) (x : Int × Int × Int × Int) : hopsV (l ++ [x]) = hopsV l ++ hopC x := by unfold hopsV; rw [List.flatMap_append]; simp
theorem infoHop : (Tryz.prog.info? 38).map (fun i => (i.zero, i.size, i.bytes)) = some (some (.agg #[.int .i64 0, .int .i64 0, .int .i64 0, .int .i64 0]), 4, 32) := by kernel_rfl
/-- earliest times: closed under the contacts -/
def Clo (cs : List Con) (s : Nat) (F : List Int) : Prop := ∀ c ∈ cs, 0 ≤ Mt.at_ F (Mt.cf c) → ∀ t, Mt.arr (dS s) c (Mt.at_ F (Mt.cf c)) = some t → 0 ≤ Mt.at_ F (Mt.ct c) ∧ Mt.at_ F (Mt.ct c) ≤ t
theorem pos_of {qs : List Int} {cs : List Con} (h : PlanOK qs cs) {s : Nat} (s1 : 1 ≤ s) (hs : s ≤ 65536) : Mt.Pos (dS s) cs := fun c hc => by
  have h1 := con_facts (plan_cons h c hc).1
  exact ⟨(durS_bnd h1 (by omega) hs).1, h1.rg0, h1.st0⟩
theorem own_baseH {w : World} {b b' n s : Nat} {e : TypeId} {v : Value} {xs : List Value} (h : w.ownsRow b e s v n xs) (k : b' ≤ b) : w.ownsRow b' e s v n xs := by
  refine ⟨h.1, ?_⟩
  rcases h.2 with h0 | ⟨g, cap, cur, rfl, hb, r⟩
  · exact .inl h0
  · exact .inr ⟨g, cap, cur, rfl, Nat.le_trans k hb, r⟩
/-- where the search for a journey stands -/
structure FI (cs : List Con) (s src dst : Nat) (n : Nat) (D : Int) (F L : List Int) (v : Nat) (l : List (Int × Int × Int × Int)) : Prop where
  vn : v < n
  f0 : 0 ≤ Mt.at_ F v
  fl : Mt.at_ F v ≤ Mt.at_ L v
  len : (l.length : Int) ≤ Mt.at_ L v
  last : v ≠ src → ∃ l' x, l = l' ++ [x] ∧ Mt.at_ F v ≤ x.2.2.2 ∧ x.2.2.2 ≤ Mt.at_ L v
theorem FI.step {qs : List Int} {cs : List Con} {s src dst : Nat} {D : Int} {F L : List Int} {v : Nat} {l : List (Int × Int × Int × Int)} (h : FI cs s src dst qs.length D F L v l) (hp : PlanOK qs cs) (s1 : 1 ≤ s) (hs : s ≤ 65536) (hC : Clo cs s F) {c : Con} (hc : c ∈ cs) (hf : Mt.cf c = v) (hb : bgnS c s (Mt.at_ L (Mt.ct c)) = Mt.at_ L v) (i : Int) :
    FI cs s src dst qs.length D F L (Mt.ct c) (l ++ [(i, Mt.at_ L v, Mt.at_ L v + durS c s, Mt.at_ L v + durS c s + c.rg)]) ∧ Mt.at_ L v < Mt.at_ L (Mt.ct c) := by
  subst hf
  have hpos := pos_of hp s1 hs
  have hpc := hpos c hc
  have h1 := plan_cons hp c hc
  have h2 := con_facts h1.1
  obtain ⟨⟨a1, a2⟩, a3⟩ := Mt.stepL (d := dS s) (F := Mt.at_ F) (L := Mt.at_ L) hpos hc hC hb (Int.le_trans h.f0 h.fl) h.f0 h.fl
  have hd1 : 1 ≤ durS c s := hpc.1
  have hd2 : Mt.at_ L (Mt.cf c) + durS c s + c.rg ≤ Mt.at_ L (Mt.ct c) := a3
  have hd3 : Mt.at_ F (Mt.ct c) ≤ Mt.at_ L (Mt.cf c) + durS c s + c.rg := a2
  have h3 := h2.tt0
  have h4 := h1.2.2
  have h5 := h2.rg0
  have h6 := h.len
  refine ⟨⟨by unfold Mt.ct; omega, a1, by omega, ?_, fun _ => ⟨l, _, rfl, hd3, hd2⟩⟩, by omega⟩
  rw [List.length_append, List.length_cons, List.length_nil]
  omega
set_option maxRecDepth 100000 in
set_option maxHeartbeats 8000000 in
theorem Find_ok (qs : List Int) (cs : List Con) (uq uc : Value) (src dst s : Nat) (rd D pr : Int) (cu : Bool) (F : List Int) (w : World) (hq : RRow intC 1 w w.heap.size uq qs) (hc : RRow conC 7 w w.heap.size uc cs) (hp : PlanOK qs cs) (hsrc : src < qs.length) (hdst : dst < qs.length) (hne : src ≠ dst) (r0 : 0 ≤ rd) (r1 : rd ≤ D) (hD1 : D ≤ 1099511627776) (s1 : 1 ≤ s) (hs : s ≤ 65536) (p0 : 0 ≤ pr) (p1 : pr ≤ 2)
    (hge : ∀ L, Mt.LInv (dS s) dst D cs qs.length L → (∀ c ∈ cs, ¬ Mt.better (dS s) dst L c) → rd ≤ Mt.at_ L src) (hC : Clo cs s F) (hF0 : Mt.at_ F src = rd) (hFD : Mt.at_ F dst = D) :
    Calls Tryz.prog 9 #[.agg #[uq, uc], .agg #[.int .i64 (src : Int), .int .i64 (dst : Int), .int .i64 (s : Int), .int .i64 rd, .int .i64 D, .int .i64 pr, .bool cu]] w fun e w' => ∃ u l x, e = .returned (.tuple #[u, .int .i64 0]) ∧ w'.ownsRow w.heap.size 38 4 u (l ++ [x]).length (hopsV (l ++ [x])) ∧ x.2.2.2 = D ∧ Below w.heap.size w w' := by
  have HQ := Lib.hid hq
  have HC := Lib.hid hc
  have HP := Lib.hid hp
  have HGE := Lib.hid hge
  have HCL := Lib.hid hC
  have HF0 := Lib.hid hF0
  have HFD := Lib.hid hFD
  have hl := hp.1
  have HNE := Lib.hid hne
  obtain ⟨i0, hin, hz0, hz1, hz2⟩ := info_parts infoHop
  have HIN := Lib.hid (And.intro hin (And.intro hz0 (And.intro hz1 hz2)))
  obtain ⟨aq, cq, rfl, -⟩ := hq
  obtain ⟨ac, cc, rfl, -⟩ := hc
  clear hp hge hC hF0 hFD hne hin hz0 hz1 hz2
  go_enter Tryz.func9, Tryz.ntmps9
  go_wp2_with fail
  refine (of_ok qs cs _ _ src dst s rd D pr cu _ (HQ.out.below' (by exact belowA)) (HC.out.below' (by exact belowA)) HP.out hsrc hdst HNE.out r0 r1 hD1 s1 hs p0 p1 HGE.out).mono ?_
  unfold TimesPost
  rintro e w1 ⟨u, rfl, gt, nt, L, hu, h1, h2, h3, h4, h5⟩
  injection hu with hu
  subst hu
  have h1' : w.heap.size + 2 ≤ gt := by simpa using h1
  have hB1 : Below w.heap.size w w1 := btrans0 (by exact belowA) h5
  have HGP : Hid (w1.heap[w.heap.size]? = some (.cells #[.slice aq qs.length cq, .slice ac cs.length cc] 25 (0, 0))) := Lib.hid ((h5.block _ (by simp; omega)).trans (by repeat (first | exact heap_new' (by first | rfl | (simp; done)) | refine (Below.heap_alloc _ _ _ (by first | (simp; done) | (simp; omega))).trans ?_)))
  have HGQ : Hid (w1.heap[w.heap.size + 1]? = some (.cells #[.int .i64 (src : Int), .int .i64 (dst : Int), .int .i64 (s : Int), .int .i64 rd, .int .i64 D, .int .i64 pr, .bool cu] 27 (0, 0))) := Lib.hid ((h5.block _ (by simp)).trans (by repeat (first | exact heap_new' (by first | rfl | (simp; done)) | refine (Below.heap_alloc _ _ _ (by first | (simp; done) | (simp; omega))).trans ?_)))
  have z1 : gt < w1.heap.size := (Array.getElem?_eq_some_iff.1 h2).1
  have HG := Lib.hid h2
  have HLI := Lib.hid h3
  have HD := Lib.hid (h3.done h4)
  have HLL := Lib.hid (HGE.out L h3 h4)
  have HB1 := Lib.hid hB1
  have HRC := Lib.hid (HC.out.below' hB1)
  clear h1 h2 h3 h4 h5 hB1
  have hpw : w.heap.size + 1 < w1.heap.size := by omega
  have cq_ := fun o => cellB HGQ.out o
  go_wp2_with fail
  go_loopw [8, 9] (fun ov av wr => ∃ (v : Nat) (l : List (Int × Int × Int × Int)), av = .int .i64 (v : Int) ∧ Hid (wr.ownsRow w1.heap.size 38 4 ov l.length (hopsV l)) ∧ Hid (FI cs s src dst qs.length D F L v l) ∧ Hid (Below w1.heap.size w1 wr)) (fun _ av _ => (D - Mt.at_ L (intOf av).toNat).toNat)
  case atStart => exact ⟨src, [], rfl, Lib.hid (World.ownsRow_nil _ _ _ _), Lib.hid ⟨hsrc, by rw [HF0.out]; exact r0, by rw [HF0.out]; exact HLL.out, by have := HLL.out; simp; omega, fun h => absurd rfl h⟩, Lib.hid (Below.refl _ _)⟩
  case round =>
    clear cq_
    obtain ⟨v, l, rfl, HO, HFI, HB⟩ := hrel
    obtain ⟨va, vc, rfl⟩ := own_shape HO.out
    have zr : w1.heap.size ≤ wr.heap.size := HB.out.size
    have hvn := HFI.out.vn
    have cp := fun o => cellB ((HB.out.block _ (by omega)).trans HGP.out) o
    have cq_ := fun o => cellB ((HB.out.block _ (by omega)).trans HGQ.out) o
    by_cases hvd : v = dst
    · have e1 : ((v : Int) != (dst : Int)) = false := by rw [hvd]; simp
      obtain ⟨l', x, hlx, hx1, hx2⟩ := HFI.out.last (by rw [hvd]; exact HNE.out.symm)
      have hxD : x.2.2.2 = D := by
        rw [hvd] at hx1 hx2
        rw [HFD.out] at hx1
        have := HLI.out.hi dst
        omega
      have HLX := Lib.hid hlx
      have HXD := Lib.hid hxD
      clear hlx hx1 hx2 hxD hvd
      go_wp2
      go_ret2
      refine ⟨_, l', x, rfl, ?_, HXD.out, HB1.out.trans (HB.out.mono HB1.out.size)⟩
      rw [← HLX.out]
      exact own_baseH HO.out HB1.out.size
    · have e1 : ((v : Int) != (dst : Int)) = true := by rw [bne_iff_ne]; omega
      have HVD := Lib.hid hvd
      obtain ⟨y, hy⟩ : ∃ y, L[v]? = some y := ⟨_, List.getElem?_eq_getElem (by have := HLI.out.len; omega)⟩
      have ay : Mt.at_ L v = y := by unfold Mt.at_; rw [List.getD_eq_getElem?_getD, hy]; rfl
      have HEX : Hid (∃ c ∈ cs, Mt.cf c = v ∧ bgnS c s (Mt.at_ L (Mt.ct c)) = y) := Lib.hid (by rw [← ay]; exact HD.out.2 v hvd (Int.le_trans HFI.out.f0 HFI.out.fl))
      have AY := Lib.hid ay
      have HY := Lib.hid hy
      have y1 : y ≤ D := by rw [← ay]; exact HLI.out.hi v
      have y0 : 0 ≤ y := by rw [← ay]; exact Int.le_trans HFI.out.f0 HFI.out.fl
      have hll : (l.length : Int) ≤ y := by rw [← ay]; exact HFI.out.len
      have v0 : (0 : Int) ≤ (v : Int) := by omega
      have v1 : (v : Int) < (qs.length : Int) := by omega
      clear hvd hy ay
      go_wp2_with fail
      go_loopw [8, 9, 33] (fun ov av kv wi => ∃ k : Nat, k ≤ cs.length ∧ ov = .slice va l.length vc ∧ av = .int .i64 (v : Int) ∧ kv = .int .i64 (k : Int) ∧ Hid (wi.ownsRow w1.heap.size 38 4 (.slice va l.length vc) l.length (hopsV l)) ∧ Hid (Below w1.heap.size w1 wi) ∧ Hid (∀ j c, j < k → cs[j]? = some c → ¬ (Mt.cf c = v ∧ bgnS c s (Mt.at_ L (Mt.ct c)) = y))) (fun _ _ kv _ => cs.length - (intOf kv).toNat)
      case atStart => exact ⟨0, Nat.zero_le _, rfl, rfl, rfl, HO, HB, Lib.hid (fun j c hj => by omega)⟩
      case round =>
        obtain ⟨k, hk, rfl, rfl, rfl, HOi, HBi, HNo⟩ := hrel
        have zi : w1.heap.size ≤ wr.heap.size := HBi.out.size
        by_cases hlt : k < cs.length
        · obtain ⟨⟨fr, tt, st, en, ra, rg, lo⟩, hc⟩ : ∃ c, cs[k]? = some c := ⟨_, List.getElem?_eq_getElem hlt⟩
          have hcc := plan_cons HP.out _ (List.mem_of_getElem? hc)
          simp only at hcc
          have hcf := con_facts hcc.1
          obtain ⟨f, rfl⟩ := Int.eq_ofNat_of_zero_le hcf.fr0
          obtain ⟨g, rfl⟩ := Int.eq_ofNat_of_zero_le hcf.tt0
          obtain ⟨a', c', e', hx1, hx2, hx3, hx4⟩ := (HRC.out.below (C := w1.heap.size) HBi.out (Nat.le_refl _) (Nat.le_refl _))
          obtain ⟨bb, o, e2, hbn, hcell⟩ := hx4 (by omega)
          have e3 : ac = some ⟨bb, o, none⟩ := by injection e' with q1 q2 q3; rw [q1, e2]
          subst e3
          clear e' e2 hx1 hx2 hx3 hx4
          have p0 : wr.cell? ⟨bb, o + k * 7, none⟩ = some (.int .i64 (f : Int)) := hcell k _ hc 0 _ rfl
          have p1 : wr.cell? ⟨bb, o + k * 7 + 1, none⟩ = some (.int .i64 (g : Int)) := hcell k _ hc 1 _ rfl
          have p2 : wr.cell? ⟨bb, o + k * 7 + 2, none⟩ = some (.int .i64 st) := hcell k _ hc 2 _ rfl
          have p3 : wr.cell? ⟨bb, o + k * 7 + 3, none⟩ = some (.int .i64 en) := hcell k _ hc 3 _ rfl
          have p4 : wr.cell? ⟨bb, o + k * 7 + 4, none⟩ = some (.int .i64 ra) := hcell k _ hc 4 _ rfl
          have p5 : wr.cell? ⟨bb, o + k * 7 + 5, none⟩ = some (.int .i64 rg) := hcell k _ hc 5 _ rfl
          have p6 : wr.cell? ⟨bb, o + k * 7 + 6, none⟩ = some (.int .i64 lo) := hcell k _ hc 6 _ rfl
          have hfn : f < qs.length := by have := hcc.2.1; omega
          have hgn : g < qs.length := by have := hcc.2.2; omega
          have HCC : Hid (chkCon ⟨(f : Int), (g : Int), st, en, ra, rg, lo⟩ = 0) := Lib.hid hcc.1
          have HKC := Lib.hid hc
          have k0 : (0 : Int) ≤ (k : Int) := by omega
          have k1 : (k : Int) < (cs.length : Int) := by omega
          clear hcell hcc hcf hc cp cq_
          go_upto_region 10 with fail
          obtain ⟨w5, hw5⟩ : ∃ q, wr.alloc (.cells #[.int .i64 (f : Int), .int .i64 (g : Int), .int .i64 st, .int .i64 en, .int .i64 ra, .int .i64 rg, .int .i64 lo] 58) = q := ⟨_, rfl⟩
          rw [hw5]
          have K5 : Below wr.heap.size wr w5 := by rw [← hw5]; exact balloc0 (Below.refl _ _)
          have X5 : Hid (w5.heap[wr.heap.size]? = some (.cells #[.int .i64 (f : Int), .int .i64 (g : Int), .int .i64 st, .int .i64 en, .int .i64 ra, .int .i64 rg, .int .i64 lo] 58 (0, 0))) := Lib.hid (by rw [← hw5]; exact heap_new)
          have z5 : wr.heap.size < w5.heap.size := by rw [← hw5]; simp
          have HO5 : Hid (w5.ownsRow w1.heap.size 38 4 (.slice va l.length vc) l.length (hopsV l)) := Lib.hid (own_kept1 HOi.out (fun q hq => K5.block q (HOi.out.lt q hq).2))
          have HB5 : Hid (Below w1.heap.size w1 w5) := Lib.hid (HBi.out.trans (K5.mono zi))
          have HQ5 : Hid (w5.heap[w.heap.size + 1]? = some (.cells #[.int .i64 (src : Int), .int .i64 (dst : Int), .int .i64 (s : Int), .int .i64 rd, .int .i64 D, .int .i64 pr, .bool cu] 27 (0, 0))) := Lib.hid ((HB5.out.block _ (by omega)).trans HGQ.out)
          have HG5 : Hid (w5.heap[gt]? = some (.cells (L.map (Value.int .i64)).toArray 3 (0, 0))) := Lib.hid ((HB5.out.block _ z1).trans HG.out)
          have cx := fun o => cellB X5.out o
          have cq_ := fun o => cellB HQ5.out o
          have HG5' := HG5.out
          have r2_ : w5.cell? ⟨gt, v, none⟩ = some (.int .i64 y) := by rw [cellB HG5']; simp [HY.out]
          have zq5 : w.heap.size + 1 < w5.heap.size := by omega
          have zg5 : gt < w5.heap.size := by omega
          clear hw5 p0 p1 p2 p3 p4 p5 p6 HG5'
          have hnx : ¬ (Mt.cf ⟨(f : Int), (g : Int), st, en, ra, rg, lo⟩ = v ∧ bgnS ⟨(f : Int), (g : Int), st, en, ra, rg, lo⟩ s (Mt.at_ L (Mt.ct ⟨(f : Int), (g : Int), st, en, ra, rg, lo⟩)) = y) → (∀ j c, j < k + 1 → cs[j]? = some c → ¬ (Mt.cf c = v ∧ bgnS c s (Mt.at_ L (Mt.ct c)) = y)) := fun hn j c hj hcj => by
            by_cases e : j = k
            · subst e
              rw [HKC.out] at hcj
              injection hcj with hcj
              subst hcj
              exact hn
            · exact HNo.out j c (by omega) hcj
          have HNX := Lib.hid hnx
          clear hnx
          by_cases hf : f = v
          case neg =>
            have d1 : ((f : Int) != (v : Int)) = true := by rw [bne_iff_ne]; omega
            have HN2 := Lib.hid (HNX.out (fun h => hf h.1))
            clear hf
            go_quiet (fail)
            generalize hw6 : w5.drewN _ = w6
            have e6 : w6.heap = w5.heap := by rw [← hw6]; rfl
            have HO6 : Hid (w6.ownsRow w1.heap.size 38 4 (.slice va l.length vc) l.length (hopsV l)) := Lib.hid (own_kept1 HO5.out (fun q hq => by rw [e6]))
            have HB6 : Hid (Below w1.heap.size w1 w6) := Lib.hid (by rw [← hw6]; exact bdrewN HB5.out _)
            clear hw6 e6
            go_wp2
            go_roundw
            case rel => exact ⟨k + 1, by omega, rfl, rfl, by go_num, HO6, HB6, HN2⟩
            case measure => simp [intOf]; omega
          have HF_ := Lib.hid hf
          have d1 : ((f : Int) != (v : Int)) = false := by rw [hf]; simp
          obtain ⟨x, hx⟩ : ∃ x, L[g]? = some x := ⟨_, List.getElem?_eq_getElem (by have := HLI.out.len; omega)⟩
          have ax : Mt.at_ L g = x := by unfold Mt.at_; rw [List.getD_eq_getElem?_getD, hx]; rfl
          have b1 := HLI.out.lo g
          have b2 := HLI.out.hi g
          rw [ax] at b1 b2
          have r1_ : w5.cell? ⟨gt, g, none⟩ = some (.int .i64 x) := by rw [cellB HG5.out]; simp [hx]
          obtain ⟨T, hT⟩ : ∃ T, bgnS ⟨(f : Int), (g : Int), st, en, ra, rg, lo⟩ s x = T := ⟨_, rfl⟩
          have HT := Lib.hid hT
          have HBT : Hid (Mt.cf ⟨(f : Int), (g : Int), st, en, ra, rg, lo⟩ = f ∧ Mt.ct ⟨(f : Int), (g : Int), st, en, ra, rg, lo⟩ = g ∧ Mt.at_ L (Mt.ct ⟨(f : Int), (g : Int), st, en, ra, rg, lo⟩) = x) := Lib.hid ⟨rfl, rfl, ax⟩
          have g0 : (0 : Int) ≤ (g : Int) := by omega
          have g1 : (g : Int) < (qs.length : Int) := by omega
          clear hx ax hT hf
          refine wp_region_plan (fun V => Below (w5).heap.size (w5) V) [0, 1, 0, 0, 0, 1, 0, 0, 1, 0, 1, 0, 1, 2, 0, 0, 0, 1, 0, 0] [0, 1, 2, 3, 4, 5, 6, 7, 8, 9, 10, 11, 12, 14, 15, 16, 17, 13, 18, 19] (by kernel_rfl) (by kernel_rfl) ?_ ?_
          case refine_1 => exact belowA
          (iterate 17 (first | (refine plan_held rfl (by decide) (by rfl) (fun w1 hS => by (try (obtain ⟨_, _⟩ := bcell (hS rfl))); go_simp; rfl) ?_; simp only [Act.put, List.setIfInBounds_toArray, List.set_cons_zero, List.set_cons_succ]) | (refine plan_skip rfl (by decide) (by rfl) ?_; simp only [Act.put, List.setIfInBounds_toArray, List.set_cons_zero, List.set_cons_succ])))
          (refine plan_keep rfl rfl (by rfl) (fun K hK => ?_); go_simp)
          refine (begin_any ⟨(f : Int), (g : Int), st, en, ra, rg, lo⟩ s x _ HCC.out s1 hs b1 (by omega)).mono ?_
          rw [HT.out]
          rintro e wc51 ⟨rfl, hbc51⟩
          (refine hK _ _ (by exact belowA) ?_; clear hK K; (try simp only [Act.put, List.setIfInBounds_toArray, List.set_cons_zero, List.set_cons_succ]))
          (iterate 2 (first | (refine plan_held rfl (by decide) (by rfl) (fun w1 hS => by (try (obtain ⟨_, _⟩ := bcell (hS rfl))); go_simp; rfl) ?_; simp only [Act.put, List.setIfInBounds_toArray, List.set_cons_zero, List.set_cons_succ]) | (refine plan_skip rfl (by decide) (by rfl) ?_; simp only [Act.put, List.setIfInBounds_toArray, List.set_cons_zero, List.set_cons_succ])))
          refine plan_done ?_
          have K6 : Below w5.heap.size w5 wc51 := btrans0 (bdrew (Below.refl _ _)) hbc51
          have X6 : Hid (wc51.heap[wr.heap.size]? = some (.cells #[.int .i64 (f : Int), .int .i64 (g : Int), .int .i64 st, .int .i64 en, .int .i64 ra, .int .i64 rg, .int .i64 lo] 58 (0, 0))) := Lib.hid ((K6.block _ z5).trans X5.out)
          have HO6 : Hid (wc51.ownsRow w1.heap.size 38 4 (.slice va l.length vc) l.length (hopsV l)) := Lib.hid (own_kept1 HO5.out (fun q hq => K6.block q (HO5.out.lt q hq).2))
          have HB6 : Hid (Below w1.heap.size w1 wc51) := Lib.hid (HB5.out.trans (K6.mono (by omega)))
          have HQ6 : Hid (wc51.heap[w.heap.size + 1]? = some (.cells #[.int .i64 (src : Int), .int .i64 (dst : Int), .int .i64 (s : Int), .int .i64 rd, .int .i64 D, .int .i64 pr, .bool cu] 27 (0, 0))) := Lib.hid ((HB6.out.block _ (by omega)).trans HGQ.out)
          have HG6 : Hid (wc51.heap[gt]? = some (.cells (L.map (Value.int .i64)).toArray 3 (0, 0))) := Lib.hid ((HB6.out.block _ z1).trans HG.out)
          have zr6 : w5.heap.size ≤ wc51.heap.size := K6.size
          clear cx cq_ r1_ r2_ hbc51 K6
          have cx := fun o => cellB X6.out o
          have cq_ := fun o => cellB HQ6.out o
          have zc6 : wr.heap.size < wc51.heap.size := by omega
          have zq6 : w.heap.size + 1 < wc51.heap.size := by omega
          by_cases hty : T = y
          case neg =>
            have d2 : (T != y) = true := by rw [bne_iff_ne]; exact hty
            have HN2 := Lib.hid (HNX.out (fun h => hty (by rw [← h.2, HBT.out.2.2, HT.out])))
            clear hty
            go_wp2
            go_roundw
            case rel => exact ⟨k + 1, by omega, rfl, rfl, by go_num, HO6, HB6, HN2⟩
            case measure => simp [intOf]; omega
          have HTY := Lib.hid hty
          have d2 : (T != y) = false := by rw [hty]; simp
          obtain ⟨Dn, hDn⟩ : ∃ q, durS ⟨(f : Int), (g : Int), st, en, ra, rg, lo⟩ s = q := ⟨_, rfl⟩
          have hdb := durS_bnd (con_facts HCC.out) (by omega : 0 < s) hs
          rw [hDn] at hdb
          have HDN := Lib.hid hDn
          have hrg : 1 ≤ rg ∧ rg ≤ 1048576 := ⟨(con_facts HCC.out).rg0, (con_facts HCC.out).rg1⟩
          have r2_ : wc51.cell? ⟨gt, v, none⟩ = some (.int .i64 y) := by rw [cellB HG6.out]; simp [HY.out]
          clear hty hDn
          go_wp2_with fail
          refine (Dur_ok ⟨(f : Int), (g : Int), st, en, ra, rg, lo⟩ s _ HCC.out s1 hs).mono ?_
          rw [HDN.out]
          rintro e w7 ⟨rfl, hb7⟩
          have X7 : Hid (w7.heap[wr.heap.size]? = some (.cells #[.int .i64 (f : Int), .int .i64 (g : Int), .int .i64 st, .int .i64 en, .int .i64 ra, .int .i64 rg, .int .i64 lo] 58 (0, 0))) := Lib.hid ((hb7.block _ zc6).trans X6.out)
          have HO7 : Hid (w7.ownsRow w1.heap.size 38 4 (.slice va l.length vc) l.length (hopsV l)) := Lib.hid (own_kept1 HO6.out (fun q hq => hb7.block q (HO6.out.lt q hq).2))
          have HB7 : Hid (Below w1.heap.size w1 w7) := Lib.hid (HB6.out.trans (hb7.mono (by omega)))
          have HG7 : Hid (w7.heap[gt]? = some (.cells (L.map (Value.int .i64)).toArray 3 (0, 0))) := Lib.hid ((HB7.out.block _ z1).trans HG.out)
          have zc7 : wr.heap.size < w7.heap.size := by have := hb7.size; omega
          have zg7 : gt < w7.heap.size := by omega
          clear cx cq_ r2_ hb7
          have cx := fun o => cellB X7.out o
          have r2_ : w7.cell? ⟨gt, v, none⟩ = some (.int .i64 y) := by rw [cellB HG7.out]; simp [HY.out]
          have e_w1 : IntKind.i64.wrap (y + Dn) = y + Dn := by rw [IntKind.wrap_i64]; omega
          have e_w2 : IntKind.i64.wrap (y + Dn + rg) = y + Dn + rg := by rw [IntKind.wrap_i64]; omega
          go_upto_region 13 with fail
          refine wp_region_plan (fun V => (∀ q, V.cell? ⟨wr.heap.size, q, none⟩ = #[.int .i64 (f : Int), .int .i64 (g : Int), .int .i64 st, .int .i64 en, .int .i64 ra, .int .i64 rg, .int .i64 lo][q]?) ∧ V.cell? ⟨gt, v, none⟩ = some (.int .i64 y)) [0, 0, 0, 0, 0, 1, 0, 0, 0, 1, 0, 0, 3, 3, 0] [0, 1, 2, 3, 4, 5, 6, 7, 8, 9, 10, 11, 12, 13, 14] (by kernel_rfl) (by kernel_rfl) ?_ ?_
          case refine_1 => exact ⟨cx, r2_⟩
          (iterate 12 (refine plan_held rfl (by decide) (by rfl) (fun w1 hS => by (try (have hS := hS rfl; obtain hS := hS; repeat (obtain ⟨_, hS⟩ := hS))); go_simp; rfl) ?_; simp only [Act.put, List.setIfInBounds_toArray, List.set_cons_zero, List.set_cons_succ]))
          clear cx r2_
          (refine plan_late rfl rfl (by rfl) (fun K hK => ?_); go_simp)
          (refine hK _ _ ?_; clear hK K; (try simp only [Act.put, List.setIfInBounds_toArray, List.set_cons_zero, List.set_cons_succ]))
          refine plan_late rfl rfl (by rfl) (fun K hK => ?_)
          obtain ⟨i0, hin, hz0, hz1, hz2⟩ : ∃ i0 : TypeInfo, Tryz.prog.info? 38 = some i0 ∧ i0.zero = some (.agg #[.int .i64 0, .int .i64 0, .int .i64 0, .int .i64 0]) ∧ i0.size = 4 ∧ i0.bytes = 32 := info_parts infoHop
          obtain ⟨w8, hw8⟩ : ∃ q, (w7.alloc (.cells #[.int .i64 (k : Int), .int .i64 y, .int .i64 (y + Dn), .int .i64 (y + Dn + rg)] 38)).drew = q := ⟨_, rfl⟩
          rw [hw8]
          have X8 : w8.heap[w7.heap.size]? = some (.cells (hopC ((k : Int), y, y + Dn, y + Dn + rg)).toArray 38 (0, 0)) := by rw [← hw8]; exact heap_new
          have K8 : Below w7.heap.size w7 w8 := by rw [← hw8]; exact bdrew (balloc0 (Below.refl _ _))
          have z8 : w7.heap.size < w8.heap.size := (Array.getElem?_eq_some_iff.1 X8).1
          have z7 : w1.heap.size ≤ w7.heap.size := HB7.out.size
          have HO8 : w8.ownsRow w1.heap.size 38 4 (.slice va l.length vc) l.length (hopsV l) := own_kept1 HO7.out (fun q hq => K8.block q (HO7.out.lt q hq).2)
          clear hw8
          refine wp_append_F _ _ _ _ rfl w1.heap.size 38 i0 _ 4 32 Tryz.underlying34 hin hz0 hz1 hz2 rfl (by omega) (.slice va l.length vc) l.length (hopsV l) rfl HO8 ⟨w7.heap.size, 0, none⟩ 1 1 (hopC ((k : Int), y, y + Dn, y + Dn + rg)) rfl rfl (news_one X8) (by simp [hopC, Value.oneCell']) (by simp only [maxLen]; omega) (by omega) (by omega) (by omega) ?_
          intro vo w9 ho9 hg9 hf9
          have X9 : Hid (w9.heap[wr.heap.size]? = some (.cells #[.int .i64 (f : Int), .int .i64 (g : Int), .int .i64 st, .int .i64 en, .int .i64 ra, .int .i64 rg, .int .i64 lo] 58 (0, 0))) := Lib.hid ((hg9.block _ (by omega) (fun e => by have := (HOi.out.lt _ e.symm).2; omega)).trans ((K8.block _ zc7).trans X7.out))
          have HB9 : Hid (Below w1.heap.size w1 w9) := Lib.hid (Below.grown (HB7.out.trans (K8.mono z7)) hg9 (by omega) (fun q hq => (HO7.out.lt q hq).1))
          obtain ⟨hstep, hlt9⟩ := HFI.out.step HP.out s1 hs HCL.out (List.mem_of_getElem? HKC.out) HF_.out (by rw [HBT.out.2.2, HT.out, HTY.out]; exact AY.out.symm) (k : Int)
          rw [HBT.out.2.1] at hstep
          rw [HBT.out.2.2] at hlt9
          rw [AY.out, HDN.out] at hstep
          rw [AY.out] at hlt9
          have HST := Lib.hid hstep
          have HO9 : Hid (w9.ownsRow w1.heap.size 38 4 vo (l ++ [((k : Int), y, y + Dn, y + Dn + rg)]).length (hopsV (l ++ [((k : Int), y, y + Dn, y + Dn + rg)]))) := Lib.hid (by
            rw [hopsV_snoc, List.length_append]
            exact ho9)
          have HLT9 := Lib.hid hlt9
          have z9 : wr.heap.size < w9.heap.size := (Array.getElem?_eq_some_iff.1 X9.out).1
          have cx := fun o => cellB X9.out o
          clear ho9 hg9 hf9 X8 K8 HO8 hstep hlt9 hin hz0 hz1 hz2
          (refine hK _ _ ?_; clear hK K; (try simp only [Act.put, List.setIfInBounds_toArray, List.set_cons_zero, List.set_cons_succ]))
          (iterate 1 (refine plan_held rfl (by decide) (by rfl) (fun w1 hS => by (try (have hS := hS rfl; obtain hS := hS; repeat (obtain ⟨_, hS⟩ := hS))); go_simp; rfl) ?_; simp only [Act.put, List.setIfInBounds_toArray, List.set_cons_zero, List.set_cons_succ]))
          refine plan_done ?_
          go_wp2
          go_roundw
          case rel => exact ⟨g, _, rfl, HO9, HST, HB9⟩
          case measure =>
            have h1 := HLT9.out
            have h2 : Mt.at_ L g = x := HBT.out.2.2
            have h3 := AY.out
            simp [intOf]
            omega
        · exfalso
          obtain rfl : k = cs.length := by omega
          obtain ⟨c, hc, e1, e2⟩ := HEX.out
          obtain ⟨j, hj⟩ := List.getElem?_of_mem hc
          exact HNo.out j c (List.getElem?_eq_some_iff.1 hj).1 hj ⟨e1, e2⟩
end Go.Proofs.YtbpmccfbfpgijaaGreat
