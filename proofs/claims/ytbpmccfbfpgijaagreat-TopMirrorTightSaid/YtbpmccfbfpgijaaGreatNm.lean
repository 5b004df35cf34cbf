/- TopMirrorTight: latest.times: improve (printed by gen/g22.py) -/
import Derived.BigQuiet
import Derived.BigRegion
import Derived.Deep.DeepCutAuto
import Derived.Test.YtbpmccfbfpgijaaGreatNh
import Derived.Test.YtbpmccfbfpgijaaGreatNl
set_option linter.unusedVariables false
set_option linter.unusedSimpArgs false
namespace Go.Proofs.YtbpmccfbfpgijaaGreat
open Go Go.RowKit Iv
attribute [local go_sem] Oper.semAt_some
attribute [local go_sem] B_getElem B_size B_app B_extract B_get B_toList
def dS (s : Nat) : Con → Int := fun c => durS c s
theorem bgn_eq (s : Nat) (c : Con) (b : Int) : Mt.bgn (dS s) c b = bgnS c s b := rfl
/-- what improve works on -/
structure IS (w : World) (pB ob sB dB iB gt n nt : Nat) (qa : Option Addr) (qn qk : Nat) (uc : Value) (cs : List Con) (s dst : Nat) : Prop where
  p : w.heap[pB]? = some (.cells #[.slice qa qn qk, uc] 25 (0, 0))
  sz : w.heap[sB]? = some (.cells #[.int .i64 (s : Int)] 3 (0, 0))
  ds : w.heap[dB]? = some (.cells #[.int .i64 (dst : Int)] 3 (0, 0))
  im : w.heap[iB]? = some (.cells #[.func (.func 37) #[] #[.pointer (some ⟨pB, 0, none⟩), .pointer (some ⟨ob, 0, none⟩), .pointer (some ⟨sB, 0, none⟩), .pointer (some ⟨dB, 0, none⟩), .pointer (some ⟨iB, 0, none⟩)]] 95 (0, 0))
  row : RRow conC 7 w w.heap.size uc cs
  no : 0 < cs.length → RNo gt uc
  ne : pB ≠ gt ∧ ob ≠ gt ∧ sB ≠ gt ∧ dB ≠ gt ∧ iB ≠ gt
/-- all but the row of times is as it was -/
def Oth (gt : Nat) (w w' : World) : Prop := w.heap.size ≤ w'.heap.size ∧ ∀ q, q < w.heap.size → q ≠ gt → w'.heap[q]? = w.heap[q]?
theorem Oth.trans {gt : Nat} {a b c : World} (h : Oth gt a b) (k : Oth gt b c) : Oth gt a c := ⟨Nat.le_trans h.1 k.1, fun q hq hne => (k.2 q (by have := h.1; omega) hne).trans (h.2 q hq hne)⟩
theorem Oth.cell {gt : Nat} {a b : World} (h : Oth gt a b) {q : Nat} (hq : q < a.heap.size) (hne : q ≠ gt) (o : Nat) : b.cell? ⟨q, o, none⟩ = a.cell? ⟨q, o, none⟩ := World.cell?_of_block (h.2 q hq hne)
theorem IS.keep {w w' : World} {pB ob sB dB iB gt n nt : Nat} {qa : Option Addr} {qn qk : Nat} {uc : Value} {cs : List Con} {s dst : Nat} (h : IS w pB ob sB dB iB gt n nt qa qn qk uc cs s dst) (k : Oth gt w w') : IS w' pB ob sB dB iB gt n nt qa qn qk uc cs s dst := by
  have lt : ∀ {q : Nat} {x : Obj}, w.heap[q]? = some x → q < w.heap.size := fun hx => (Array.getElem?_eq_some_iff.1 hx).1
  exact ⟨(k.2 _ (lt h.p) h.ne.1).trans h.p, (k.2 _ (lt h.sz) h.ne.2.2.1).trans h.sz, (k.2 _ (lt h.ds) h.ne.2.2.2.1).trans h.ds, (k.2 _ (lt h.im) h.ne.2.2.2.2).trans h.im, h.row.keepX h.no (fun b o hb hne => k.cell hb hne o) k.1, h.no, h.ne⟩
def ImpPost (ob gt n nt : Nat) (cs : List Con) (s dst : Nat) (D : Int) (w : World) (e : Ending) (w' : World) : Prop :=
  (∃ r, e = .returned r) ∧ ∃ L', LB w' ob gt n nt L' ∧ Mt.LInv (dS s) dst D cs n L' ∧ (∀ c ∈ cs, ¬ Mt.better (dS s) dst L' c) ∧ Oth gt w w' ∧ (∀ B, B ≤ gt → Below B w w')
def ImpI (cs : List Con) (s dst : Nat) (D : Int) (L L1 : List Int) (ch : Bool) (k : Nat) : Prop := (ch = false → L1 = L ∧ ∀ j c, j < k → cs[j]? = some c → ¬ Mt.better (dS s) dst L c) ∧ (ch = true → Mt.msr D L1 < Mt.msr D L) ∧ Mt.msr D L1 ≤ Mt.msr D L
set_option maxRecDepth 100000 in
set_option maxHeartbeats 8000000 in
theorem improve_any (pB ob sB dB iB gt n nt : Nat) (qa : Option Addr) (qn qk : Nat) (uc : Value) (cs : List Con) (s dst : Nat) (D : Int) (hl : cs.length ≤ 64) (hn : n ≤ 16) (hdst : dst < n) (hD0 : 0 ≤ D) (hD1 : D ≤ 1099511627776) (s1 : 1 ≤ s) (hs : s ≤ 65536) (hcs : ∀ c ∈ cs, chkCon c = 0 ∧ c.fr < n ∧ c.tt < n) (M : Nat) :
    ∀ (L : List Int) (w : World), Mt.msr D L ≤ M → IS w pB ob sB dB iB gt n nt qa qn qk uc cs s dst → LB w ob gt n nt L → Mt.LInv (dS s) dst D cs n L →
      Calls Tryz.prog 37 #[.func (.func 38) #[] #[.pointer (some ⟨ob, 0, none⟩)], .pointer (some ⟨pB, 0, none⟩), .pointer (some ⟨ob, 0, none⟩), .pointer (some ⟨sB, 0, none⟩), .pointer (some ⟨dB, 0, none⟩), .pointer (some ⟨iB, 0, none⟩)] w (ImpPost ob gt n nt cs s dst D w) := by
  induction M using Nat.strongRecOn with
  | ind M ih =>
  intro L w hM hI hLB hLI
  have IH := Lib.hid ih
  have HI := Lib.hid hI
  have HLB := Lib.hid hLB
  have HLI := Lib.hid hLI
  have HCS := Lib.hid hcs
  obtain ⟨ac, cc, rfl, r1, r2, r3, r4⟩ := id hI.row
  unfold maxLen at r2
  have hlen : cs.length ≤ 9223372036854775807 := by omega
  have c1 := fun o => cellB hI.p o
  clear ih hI hLB hLI hcs r3 r4
  go_enter Tryz.func37, Tryz.ntmps37
  go_upto_region 2 with fail
  go_loopw [14, 7] (fun kv cv wr => ∃ (k : Nat) (L1 : List Int) (ch : Bool), k ≤ cs.length ∧ kv = .int .i64 k ∧ cv = .bool ch ∧ Hid (LB wr ob gt n nt L1) ∧ Hid (Mt.LInv (dS s) dst D cs n L1) ∧ Hid (IS wr pB ob sB dB iB gt n nt qa qn qk (.slice ac cs.length cc) cs s dst) ∧ Hid (Oth gt w wr) ∧ Hid (∀ B, B ≤ gt → Below B w wr) ∧ Hid (ImpI cs s dst D L L1 ch k)) (fun kv _ _ => cs.length - (intOf kv).toNat)
  case atStart => exact ⟨0, L, false, Nat.zero_le _, rfl, rfl, HLB, HLI, HI, Lib.hid ⟨Nat.le_refl _, fun _ _ _ => rfl⟩, Lib.hid (fun _ _ => Below.refl _ _), Lib.hid ⟨fun _ => ⟨rfl, fun j c hj => by omega⟩, fun h => (by cases h), Nat.le_refl _⟩⟩
  case round =>
    clear c1
    obtain ⟨k, L1, ch, hk, rfl, rfl, HB1, HL1, HI1, HO1, HBe1, HIM⟩ := hrel
    by_cases hlt : k < cs.length
    · obtain ⟨⟨fr, tt, st, en, ra, rg, lo⟩, hc⟩ : ∃ c, cs[k]? = some c := ⟨_, List.getElem?_eq_getElem hlt⟩
      have hcc := HCS.out _ (List.mem_of_getElem? hc)
      simp only at hcc
      have hcf := con_facts hcc.1
      obtain ⟨f, rfl⟩ := Int.eq_ofNat_of_zero_le hcf.fr0
      obtain ⟨g, rfl⟩ := Int.eq_ofNat_of_zero_le hcf.tt0
      obtain ⟨c, hcE⟩ : ∃ c : Con, c = ⟨(f : Int), (g : Int), st, en, ra, rg, lo⟩ := ⟨_, rfl⟩
      obtain ⟨a', c', e', hx1, hx2, hx3, hx4⟩ := HI1.out.row
      obtain ⟨bb, o, e2, hbn, hcell⟩ := hx4 (by omega)
      have e3 : ac = some ⟨bb, o, none⟩ := by injection e' with q1 q2 q3; rw [q1, e2]
      subst e3
      clear e' e2 hx1 hx2 hx3 hx4
      have hbx : bb ≠ gt := HI1.out.no (by omega) _ _ _ rfl
      have p0 : wr.cell? ⟨bb, o + k * 7, none⟩ = some (.int .i64 (f : Int)) := hcell k _ hc 0 _ rfl
      have p1 : wr.cell? ⟨bb, o + k * 7 + 1, none⟩ = some (.int .i64 (g : Int)) := hcell k _ hc 1 _ rfl
      have p2 : wr.cell? ⟨bb, o + k * 7 + 2, none⟩ = some (.int .i64 st) := hcell k _ hc 2 _ rfl
      have p3 : wr.cell? ⟨bb, o + k * 7 + 3, none⟩ = some (.int .i64 en) := hcell k _ hc 3 _ rfl
      have p4 : wr.cell? ⟨bb, o + k * 7 + 4, none⟩ = some (.int .i64 ra) := hcell k _ hc 4 _ rfl
      have p5 : wr.cell? ⟨bb, o + k * 7 + 5, none⟩ = some (.int .i64 rg) := hcell k _ hc 5 _ rfl
      have p6 : wr.cell? ⟨bb, o + k * 7 + 6, none⟩ = some (.int .i64 lo) := hcell k _ hc 6 _ rfl
      have hfn : f < n := by have := hcc.2.1; omega
      have hgn : g < n := by have := hcc.2.2; omega
      have HCC : Hid (chkCon ⟨(f : Int), (g : Int), st, en, ra, rg, lo⟩ = 0) := Lib.hid hcc.1
      have HKC := Lib.hid hc
      have b1 := HL1.out.lo g
      have b2 := HL1.out.hi g
      obtain ⟨x, hx⟩ : ∃ x, L1[g]? = some x := ⟨_, List.getElem?_eq_getElem (by have := HL1.out.len; omega)⟩
      obtain ⟨y, hy⟩ : ∃ y, L1[f]? = some y := ⟨_, List.getElem?_eq_getElem (by have := HL1.out.len; omega)⟩
      have ax : Mt.at_ L1 g = x := by unfold Mt.at_; rw [List.getD_eq_getElem?_getD, hx]; rfl
      have ay : Mt.at_ L1 f = y := by unfold Mt.at_; rw [List.getD_eq_getElem?_getD, hy]; rfl
      rw [ax] at b1 b2
      have q1 : wr.cell? ⟨gt, g, none⟩ = some (.int .i64 x) := by rw [cellB HB1.out.2.1]; simp [hx]
      have q2 : wr.cell? ⟨gt, f, none⟩ = some (.int .i64 y) := by rw [cellB HB1.out.2.1]; simp [hy]
      have AX := Lib.hid ax
      have AY := Lib.hid ay
      have k0 : (0 : Int) ≤ (k : Int) := by omega
      have k1 : (k : Int) < (cs.length : Int) := by omega
      obtain ⟨T, hT⟩ : ∃ T, bgnS ⟨(f : Int), (g : Int), st, en, ra, rg, lo⟩ s x = T := ⟨_, rfl⟩
      have HT := Lib.hid hT
      clear hcell hx hy hcc hcf hc ax ay hT hcE c
      go_upto_region 4 with fail
      obtain ⟨w1, hw1⟩ : ∃ q, wr.alloc (.cells #[.int .i64 (f : Int), .int .i64 (g : Int), .int .i64 st, .int .i64 en, .int .i64 ra, .int .i64 rg, .int .i64 lo] 58) = q := ⟨_, rfl⟩
      rw [hw1]
      have KW : Below wr.heap.size wr w1 := by rw [← hw1]; exact balloc0 (Below.refl _ _)
      have X1 : Hid (w1.heap[wr.heap.size]? = some (.cells #[.int .i64 (f : Int), .int .i64 (g : Int), .int .i64 st, .int .i64 en, .int .i64 ra, .int .i64 rg, .int .i64 lo] 58 (0, 0))) := Lib.hid (by rw [← hw1]; exact heap_new)
      have z1 : wr.heap.size < w1.heap.size := by rw [← hw1]; simp
      have O1 : Oth gt wr w1 := ⟨by omega, fun q hq _ => KW.block q hq⟩
      have HI2 := Lib.hid (HI1.out.keep O1)
      have zt : gt < wr.heap.size := (Array.getElem?_eq_some_iff.1 HB1.out.2.1).1
      have zo : ob < wr.heap.size := (Array.getElem?_eq_some_iff.1 HB1.out.1).1
      have HB2 : Hid (LB w1 ob gt n nt L1) := Lib.hid ⟨(KW.block _ zo).trans HB1.out.1, (KW.block _ zt).trans HB1.out.2.1, HB1.out.2.2⟩
      have r1_ : w1.cell? ⟨gt, g, none⟩ = some (.int .i64 x) := (KW.cell (p := ⟨gt, g, none⟩) zt).trans q1
      have r2_ : w1.cell? ⟨gt, f, none⟩ = some (.int .i64 y) := (KW.cell (p := ⟨gt, f, none⟩) zt).trans q2
      have co := cellB HB2.out.1 0
      have cs_ := cellB HI2.out.sz 0
      have cd_ := cellB HI2.out.ds 0
      have cx := fun o => cellB X1.out o
      have zt1 : gt < w1.heap.size := by omega
      have zo1 : ob < w1.heap.size := by omega
      have zs1 : sB < w1.heap.size := (Array.getElem?_eq_some_iff.1 HI2.out.sz).1
      have zd1 : dB < w1.heap.size := (Array.getElem?_eq_some_iff.1 HI2.out.ds).1
      have g0 : (0 : Int) ≤ (g : Int) := by omega
      have g1 : (g : Int) < (n : Int) := by omega
      have f0 : (0 : Int) ≤ (f : Int) := by omega
      have f1 : (f : Int) < (n : Int) := by omega
      clear hw1 q1 q2 p0 p1 p2 p3 p4 p5 p6
      refine wp_region_plan (fun V => Below (w1).heap.size (w1) V) [1, 1, 0, 1, 0, 1, 1, 3, 0] [0, 1, 2, 3, 4, 5, 6, 7, 8] (by kernel_rfl) (by kernel_rfl) ?_ ?_
      case refine_1 => exact belowA
      (iterate 7 (first | (refine plan_held rfl (by decide) (by rfl) (fun w1 hS => by (try (obtain ⟨_, _⟩ := bcell (hS rfl))); go_simp; rfl) ?_; simp only [Act.put, List.setIfInBounds_toArray, List.set_cons_zero, List.set_cons_succ]) | (refine plan_skip rfl (by decide) (by rfl) ?_; simp only [Act.put, List.setIfInBounds_toArray, List.set_cons_zero, List.set_cons_succ])))
      (refine plan_late rfl rfl (by rfl) (fun K hK => ?_); go_simp)
      refine (begin_any ⟨(f : Int), (g : Int), st, en, ra, rg, lo⟩ s x _ HCC.out s1 hs b1 (by omega)).mono ?_
      rw [HT.out]
      rintro e wc25 ⟨rfl, hbc25⟩
      (refine hK _ _ ?_; clear hK K; (try simp only [Act.put, List.setIfInBounds_toArray, List.set_cons_zero, List.set_cons_succ]))
      (iterate 1 (first | (refine plan_held rfl (by decide) (by rfl) (fun w1 hS => by (try (obtain ⟨_, _⟩ := bcell (hS rfl))); go_simp; rfl) ?_; simp only [Act.put, List.setIfInBounds_toArray, List.set_cons_zero, List.set_cons_succ]) | (refine plan_skip rfl (by decide) (by rfl) ?_; simp only [Act.put, List.setIfInBounds_toArray, List.set_cons_zero, List.set_cons_succ])))
      refine plan_done ?_
      go_upto_region 5 with fail
      have K2 : Below w1.heap.size w1 wc25 := btrans0 (bdrew (Below.refl _ _)) hbc25
      have KR : Below wr.heap.size wr wc25 := btrans0 KW K2
      have zR : wr.heap.size ≤ wc25.heap.size := KR.size
      have O2 : Oth gt wr wc25 := ⟨zR, fun q hq _ => KR.block q hq⟩
      have HI3 : Hid (IS wc25 pB ob sB dB iB gt n nt qa qn qk (.slice (some ⟨bb, o, none⟩) cs.length cc) cs s dst) := Lib.hid (HI1.out.keep O2)
      have HB3 : Hid (LB wc25 ob gt n nt L1) := Lib.hid ⟨(KR.block _ zo).trans HB1.out.1, (KR.block _ zt).trans HB1.out.2.1, HB1.out.2.2⟩
      have X3 : Hid (wc25.heap[wr.heap.size]? = some (.cells #[.int .i64 (f : Int), .int .i64 (g : Int), .int .i64 st, .int .i64 en, .int .i64 ra, .int .i64 rg, .int .i64 lo] 58 (0, 0))) := Lib.hid ((K2.block _ z1).trans X1.out)
      have HO3 : Hid (Oth gt w wc25) := Lib.hid (HO1.out.trans O2)
      have HBe3 : Hid (∀ B, B ≤ gt → Below B w wc25) := Lib.hid (fun B hB => (HBe1.out B hB).trans (KR.mono (by omega)))
      have r3_ : wc25.cell? ⟨gt, f, none⟩ = some (.int .i64 y) := (K2.cell (p := ⟨gt, f, none⟩) zt1).trans r2_
      clear r1_ r2_ co cs_ cd_ cx hbc25
      have co := cellB HB3.out.1 0
      have cd_ := cellB HI3.out.ds 0
      have cx := fun o => cellB X3.out o
      have HBT : Hid (Mt.better (dS s) dst L1 ⟨(f : Int), (g : Int), st, en, ra, rg, lo⟩ ↔ (f ≠ dst ∧ y < T)) := Lib.hid (by
        unfold Mt.better Mt.cf Mt.ct
        simp only [Int.toNat_natCast]
        rw [AX.out, AY.out, bgn_eq, HT.out])
      have same : ¬ Mt.better (dS s) dst L1 ⟨(f : Int), (g : Int), st, en, ra, rg, lo⟩ → ImpI cs s dst D L L1 ch (k + 1) := fun hnb => by
        obtain ⟨i1, i2, i3⟩ := HIM.out
        refine ⟨fun hch => ⟨(i1 hch).1, fun j c hj hcj => ?_⟩, i2, i3⟩
        by_cases e : j = k
        · subst e
          rw [HKC.out] at hcj
          injection hcj with hcj
          subst hcj
          rw [← (i1 hch).1]; exact hnb
        · exact (i1 hch).2 j c (by omega) hcj
      have SAME_ := Lib.hid same
      clear same KW K2 KR O1 O2
      by_cases hf : f = dst
      · have d1 : ((f : Int) != (dst : Int)) = false := by rw [hf]; simp
        have HIM2 := Lib.hid (SAME_.out (fun hb => (HBT.out.1 hb).1 hf))
        clear hf
        go_wp2
        go_roundw
        case rel => exact ⟨k + 1, L1, ch, by omega, by go_num, rfl, HB3, HL1, HI3, HO3, HBe3, HIM2⟩
        case measure => simp [intOf]; omega
      have d1 : ((f : Int) != (dst : Int)) = true := by rw [bne_iff_ne]; omega
      by_cases hy : y < T
      · have d2 : decide (y < T) = true := decide_eq_true hy
        have hb := HBT.out.2 ⟨hf, hy⟩
        have HST := Lib.hid (HL1.out.impr (fun c hc => by
          have h1 := con_facts (HCS.out c hc).1
          exact ⟨(durS_bnd h1 (by omega) hs).1, h1.rg0, h1.st0⟩) (by omega) (List.mem_of_getElem? HKC.out) (by show ((f : Int)).toNat < n; omega))
        have HE2 : Hid (Mt.impr (dS s) dst L1 ⟨(f : Int), (g : Int), st, en, ra, rg, lo⟩ = L1.set f T) := Lib.hid (by
          unfold Mt.impr
          rw [if_pos hb]
          unfold Mt.cf Mt.ct
          simp only [Int.toNat_natCast]
          rw [AX.out, bgn_eq, HT.out])
        have HBB := Lib.hid hb
        clear hf hb
        go_wp2_with fail
        refine (set_any ob gt n nt L1 f T _ HB3.out hfn HI3.out.ne.2.1 hn).mono ?_
        rintro e w3 ⟨⟨r, rfl⟩, hb3, hB3, ho3, hs3⟩
        have O3 : Oth gt wc25 w3 := ⟨by omega, fun q _ hne => ho3 q hne⟩
        have HB4 := Lib.hid hb3
        have HI4 := Lib.hid (HI3.out.keep O3)
        have HO4 := Lib.hid (HO3.out.trans O3)
        have HBe4 : Hid (∀ B, B ≤ gt → Below B w w3) := Lib.hid (fun B hB => (HBe3.out B hB).trans (hB3 B hB))
        have hsz := hs3
        have HL4 : Hid (Mt.LInv (dS s) dst D cs n (L1.set f T)) := Lib.hid (by rw [← HE2.out]; exact HST.out.1)
        have hm : Mt.msr D (L1.set f T) < Mt.msr D L1 := by have := HST.out.2.2 HBB.out; rwa [HE2.out] at this
        have HIM4 : Hid (ImpI cs s dst D L (L1.set f T) true (k + 1)) := Lib.hid (by
          have i3 := HIM.out.2.2
          exact ⟨fun h => (by cases h), fun _ => by omega, by omega⟩)
        clear hb3 hB3 ho3 hs3 hsz hm O3 co cd_ cx r3_
        go_wp2
        go_roundw
        case rel => exact ⟨k + 1, _, true, by omega, by go_num, rfl, HB4, HL4, HI4, HO4, HBe4, HIM4⟩
        case measure => simp [intOf]; omega
      · have d2 : decide (y < T) = false := decide_eq_false hy
        have HIM2 := Lib.hid (SAME_.out (fun hb => hy (HBT.out.1 hb).2))
        clear hf
        go_wp2
        go_roundw
        case rel => exact ⟨k + 1, L1, ch, by omega, by go_num, rfl, HB3, HL1, HI3, HO3, HBe3, HIM2⟩
        case measure => simp [intOf]; omega
    · obtain rfl : k = cs.length := by omega
      have ci := fun o => cellB HI1.out.im o
      cases ch with
      | false =>
        go_wp2
        go_end0
        obtain ⟨e1, e2⟩ := HIM.out.1 rfl
        subst e1
        refine ⟨⟨_, rfl⟩, L1, HB1.out, HL1.out, fun c hc => ?_, HO1.out, HBe1.out⟩
        obtain ⟨j, hj⟩ := List.getElem?_of_mem hc
        exact e2 j c (List.getElem?_eq_some_iff.1 hj).1 hj
      | true =>
        have hlt2 := HIM.out.2.1 rfl
        go_wp2_with fail
        refine (IH.out (Mt.msr D L1) (by omega) L1 _ (Nat.le_refl _) HI1.out HB1.out HL1.out).mono ?_
        unfold ImpPost
        rintro e w2 ⟨⟨r, rfl⟩, L', g1, g2, g3, g4, g5⟩
        go_wp2
        go_end0
        exact ⟨⟨_, rfl⟩, L', g1, g2, g3, HO1.out.trans g4, fun B hB => (HBe1.out B hB).trans (g5 B hB)⟩
end Go.Proofs.YtbpmccfbfpgijaaGreat
