/- The moves of a label: the iterator. -/
import Derived.BigQuiet
import Derived.BigRegion
import Derived.Deep.DeepCutAuto
import Derived.Deep.CutBlock
import Derived.Lib.MinMax
import Derived.RangeFuncNested
import Derived.RangeFuncBound
import Derived.RangeFuncCalls
import Derived.RangeFuncLeaves
import Derived.RangeFuncBox
import Derived.RangeFuncFrom
import Derived.Shelf.Abstract
import Derived.Shelf.RegionOpen
import Derived.OwnWalkIn
import Derived.LoopIn
import Derived.LoopNIn
import Derived.TacticsInMore
import Derived.Laws.EntriesVeiled
import Derived.Test.YtkokiahmgmeokaaGreatKfc
set_option linter.unusedVariables false
set_option linter.unusedSimpArgs false
namespace Go.Proofs.YtkokiahmgmeokaaGreat
open Go Go.RowKit Iv
attribute [local go_sem] Oper.semAt_some
attribute [local go_sem] B_getElem B_size B_app B_extract B_get B_toList
open Go.Shelf
/-- what moves makes: two boxes -/
def MovW (gB : Nat) (x : Lbl) (w w' : World) : Prop := Below w.heap.size w w' ∧ w'.heap.size = w.heap.size + 2 ∧ w'.heap[w.heap.size]? = some (.cells #[.pointer (some ⟨gB, 0, none⟩)] 80 (0, 0)) ∧ w'.heap[w.heap.size + 1]? = some (.cells #[.int .i64 x.nd, .int .i64 x.fr, .int .i64 x.tt, .int .i64 x.tm] 129 (0, 0))
theorem moves_any (gB : Nat) (x : Lbl) (w : World) : Calls Tryz.prog 61 #[.pointer (some ⟨gB, 0, none⟩), .agg #[.int .i64 x.nd, .int .i64 x.fr, .int .i64 x.tt, .int .i64 x.tm]] w fun e w' => e = .returned (.func (.func 100) #[] #[.pointer (some ⟨w.heap.size, 0, none⟩), .pointer (some ⟨w.heap.size + 1, 0, none⟩)]) ∧ MovW gB x w w' := by
  go_enter Tryz.func61, Tryz.ntmps61
  go_wp2
  go_ret
  refine ⟨rfl, belowA, by simp, ?_, ?_⟩
  all_goals exact (by repeat (first | exact heap_new' (by first | rfl | (simp; done)) | refine (Below.heap_alloc _ _ _ (by first | (simp; done) | (simp; omega))).trans ?_))
def lOK (x : Lbl) : Prop := 0 ≤ x.tm ∧ x.tm ≤ 1099511627776
theorem ck_alloc {a w : World} (h : CK a w) (o : Obj) : CK a (w.alloc o) := h.trans (CK.of (balloc0 (Below.refl _ _)))
set_option maxRecDepth 100000 in
set_option maxHeartbeats 16000000 in
theorem moves_stops (g : Gp) (hg : GOK g) (gB z1 z2 : Nat) (x : Lbl) (w0 W0 : World) (hgr : Gr w0 gB g) (hck : CK w0 W0) (b1 : W0.heap[z1]? = some (.cells #[.pointer (some ⟨gB, 0, none⟩)] 80 (0, 0))) (b2 : W0.heap[z2]? = some (.cells #[.int .i64 x.nd, .int .i64 x.fr, .int .i64 x.tt, .int .i64 x.tm] 129 (0, 0))) (hx : lOK x) :
    SeqStopsK Fence.wide 11 Tryz.prog 100 #[.pointer (some ⟨z1, 0, none⟩), .pointer (some ⟨z2, 0, none⟩)] (fun m : {m : Mv // m ∈ movesL g x} => #[Value.agg (mvC m.1)]) (KpP w0.heap.size z1 z2) (fun ys => ys.map (·.1) = movesL g x) (fun _ => True) (movesL g x).length W0 := by
  intro l J Jx W hWb hJ hJx hY hJ0
  have hCK := hck.trans (CK.of hWb)
  have c1 : W.heap[z1]? = some (.cells #[.pointer (some ⟨gB, 0, none⟩)] 80 (0, 0)) := (hWb.block _ (Array.getElem?_eq_some_iff.1 b1).1).trans b1
  have c2 : W.heap[z2]? = some (.cells #[.int .i64 x.nd, .int .i64 x.fr, .int .i64 x.tt, .int .i64 x.tm] 129 (0, 0)) := (hWb.block _ (Array.getElem?_eq_some_iff.1 b2).1).trans b2
  have HCK := Lib.hid hCK
  have HC1 := Lib.hid c1
  have HC2 := Lib.hid c2
  have HG := Lib.hid hg
  have HGR := Lib.hid hgr
  have HX := Lib.hid hx
  have HAL : Hid (∀ pre V o, J pre V → J pre (V.alloc o)) := Lib.hid (fun pre V o h => hJ pre V _ none h (World.grownBy_alloc _ _ _) (fun r e => by cases e))
  have HBE : Hid (∀ pre (V V' : World), Below V.heap.size V V' → J pre V → J pre V') := Lib.hid (fun pre V V' hb h => hJ pre V _ none h ⟨hb.os, hb.tape, hb.output, hb.size, fun k hk _ => hb.block k hk⟩ (fun r e => by cases e))
  have HY := Lib.hid hY
  clear hck b1 b2 hWb hCK c1 c2 hJ hJx hY hg hgr hx
  refine callsIn_of_wp Tryz.func100 rfl trivial ?_ rfl
  simp only [Tryz.ntmps100, List.size_toArray, List.length_cons, List.length_nil, Nat.reduceAdd, Nat.reduceSub, Array.replicate_succ, Array.replicate_zero, List.push_toArray, List.append_toArray, List.nil_append, List.cons_append]
  refine wpIn_wide.2 ?_
  obtain ⟨uq, uc, ub, uh, ug, ur, ud, g1, g2, -⟩ := (HGR.out.ck HCK.out).box
  obtain ⟨ac, cc, rfl, e1, e2, e3, e4⟩ := g2
  have HE4 := Lib.hid e4
  have HG1 := Lib.hid g1
  have k1 := cellB HC1.out 0
  have k2 := fun q => cellB g1 q
  unfold maxLen at e2
  have hlen : g.cs.length ≤ 9223372036854775807 := by omega
  have hgl := HGR.out.lt
  have hgW : gB < W.heap.size := (HGR.out.ck HCK.out).lt
  have hz1 : z1 < W.heap.size := (Array.getElem?_eq_some_iff.1 HC1.out).1
  have hz2 : z2 < W.heap.size := (Array.getElem?_eq_some_iff.1 HC2.out).1
  clear e3 e4 g1
  go_wp2_with fail
  go_loopw [17] (fun kv wr => ∃ (i : Nat) (pre : List {m : Mv // m ∈ movesL g x}), i ≤ g.cs.length ∧ kv = .int .i64 (i : Int) ∧ Hid (pre.map (·.1) = movesP g x i) ∧ Hid (J pre wr) ∧ Hid (KpP w0.heap.size z1 z2 W wr)) (fun kv _ => g.cs.length - (intOf kv).toNat)
  case atStart => exact ⟨0, [], Nat.zero_le _, rfl, Lib.hid rfl, Lib.hid hJ0, Lib.hid (KpP.refl _ _ _ _)⟩
  case round =>
    clear k1 k2
    obtain ⟨i, pre, hi, rfl, HP, HJr, HK⟩ := hrel
    have HCKr : Hid (CK w0 wr) := Lib.hid (HCK.out.kpp HK.out (Nat.le_refl _))
    have zr : W.heap.size ≤ wr.heap.size := HK.out.1
    by_cases hlt : i < g.cs.length
    · obtain ⟨c, hc⟩ : ∃ c, g.cs[i]? = some c := ⟨_, List.getElem?_eq_getElem hlt⟩
      obtain ⟨d, hd⟩ : ∃ d, g.Ds[i]? = some d := ⟨_, List.getElem?_eq_getElem (by rw [HG.out.dl]; exact hlt)⟩
      obtain ⟨L, hL⟩ : ∃ L, g.G[i]? = some L := ⟨_, List.getElem?_eq_getElem (by rw [HG.out.gl]; exact hlt)⟩
      have hcA : conA g i = c := by unfold conA; rw [List.getD_eq_getElem?_getD, hc]; rfl
      have hdA : durA g i = d := by unfold durA; rw [List.getD_eq_getElem?_getD, hd]; rfl
      have hLA : gapA g i = L := by unfold gapA; rw [List.getD_eq_getElem?_getD, hL]; rfl
      have hcc := HG.out.con c (List.mem_of_getElem? hc)
      have hcf := con_facts hcc.1
      have hdd := HG.out.ds d (List.mem_of_getElem? hd)
      obtain ⟨tn, htn⟩ := Int.eq_ofNat_of_zero_le hcf.tt0
      have htl : tn < g.R.length := by have := hcc.2.2; omega
      obtain ⟨uq', uc', ub', uh', ug', ur', ud', g1', g2', -⟩ := (HGR.out.ck HCKr.out).box
      have huc : uc' = .slice ac g.cs.length cc := by
        have hh := HK.out.2 _ _ _ _ HG1.out (.inl hgl)
        rw [g1'] at hh
        injection hh with hh
        injection hh with hh
        simp at hh
        exact hh.2.1
      rw [huc] at g2'
      obtain ⟨a', c', e', hx1, hx2, hx3, hx4⟩ := g2'
      obtain ⟨bb, o, e2', hbn, hcell⟩ := hx4 (by omega)
      have e3' : ac = some ⟨bb, o, none⟩ := by injection e' with q1 q2 q3; rw [q1, e2']
      subst e3'
      clear e' e2' hx1 hx2 hx3 hx4 g1' huc
      have p0 : wr.cell? ⟨bb, o + i * 7, none⟩ = some (.int .i64 c.fr) := hcell i c hc 0 _ rfl
      have p1 : wr.cell? ⟨bb, o + i * 7 + 1, none⟩ = some (.int .i64 c.tt) := hcell i c hc 1 _ rfl
      have p2 : wr.cell? ⟨bb, o + i * 7 + 2, none⟩ = some (.int .i64 c.st) := hcell i c hc 2 _ rfl
      have p3 : wr.cell? ⟨bb, o + i * 7 + 3, none⟩ = some (.int .i64 c.en) := hcell i c hc 3 _ rfl
      have p4 : wr.cell? ⟨bb, o + i * 7 + 4, none⟩ = some (.int .i64 c.ra) := hcell i c hc 4 _ rfl
      have p5 : wr.cell? ⟨bb, o + i * 7 + 5, none⟩ = some (.int .i64 c.rg) := hcell i c hc 5 _ rfl
      have p6 : wr.cell? ⟨bb, o + i * 7 + 6, none⟩ = some (.int .i64 c.lo) := hcell i c hc 6 _ rfl
      have k1 := cellB (HK.out.2 _ _ _ _ HC1.out (.inr (.inl rfl))) 0
      have k3 := fun q => cellB (HK.out.2 _ _ _ _ HC2.out (.inr (.inr (.inl rfl)))) q
      have y1 : z1 < wr.heap.size := by omega
      have y2 : z2 < wr.heap.size := by omega
      have y3 : gB < wr.heap.size := by omega
      have i0 : (0 : Int) ≤ (i : Int) := by omega
      have i1 : (i : Int) < (g.cs.length : Int) := by omega
      have hrg0 := hcf.rg0
      have hrg1 := hcf.rg1
      have HCO := Lib.hid (And.intro hc (And.intro hd (And.intro hL (And.intro hcA (And.intro hdA (And.intro hLA htn))))))
      clear hc hd hL hcA hdA hLA hcc hcf hcell htn
      by_cases cf : c.fr = x.nd
      case neg =>
        have d1 : (c.fr != x.nd) = true := by simpa using cf
        have HP2 : Hid (pre.map (·.1) = movesP g x (i + 1)) := Lib.hid (by rw [movesP_succ, HP.out]; unfold movesI; rw [HCO.out.2.2.2.1, if_neg cf, List.append_nil])
        clear cf
        go_wp2
        go_roundw
        case rel => exact ⟨i + 1, pre, by omega, by go_num, HP2, Lib.hid (HAL.out _ _ _ HJr.out), Lib.hid (HK.out.trans (KpP.of (CK.of (balloc0 (Below.refl _ _)))))⟩
        case measure => simp [intOf]; omega
      have d1 : (c.fr != x.nd) = false := by simpa using cf
      have HCF := Lib.hid cf
      clear cf
      go_upto_region 4 with fail
      obtain ⟨w2, hw2⟩ : ∃ q, wr.alloc (.cells #[.int .i64 c.fr, .int .i64 c.tt, .int .i64 c.st, .int .i64 c.en, .int .i64 c.ra, .int .i64 c.rg, .int .i64 c.lo] 38) = q := ⟨_, rfl⟩
      rw [hw2]
      have K2 : Below wr.heap.size wr w2 := by rw [← hw2]; exact balloc0 (Below.refl _ _)
      have XC2 : Hid (w2.heap[wr.heap.size]? = some (.cells #[.int .i64 c.fr, .int .i64 c.tt, .int .i64 c.st, .int .i64 c.en, .int .i64 c.ra, .int .i64 c.rg, .int .i64 c.lo] 38 (0, 0))) := Lib.hid (by rw [← hw2]; exact heap_new)
      have HCK2 : Hid (CK w0 w2) := Lib.hid (HCKr.out.trans (CK.of K2))
      have HK2 : Hid (KpP w0.heap.size z1 z2 W w2) := Lib.hid (HK.out.trans (KpP.of (CK.of K2)))
      have HJ2 : Hid (J pre w2) := Lib.hid (HBE.out _ _ _ K2 HJr.out)
      have z2c : wr.heap.size < w2.heap.size := by rw [← hw2]; simp
      obtain ⟨cB, hcB⟩ : ∃ q, wr.heap.size = q := ⟨_, rfl⟩
      rw [hcB] at XC2 z2c zr y1 y2 y3 ⊢
      have k1' := cellB (HK2.out.2 _ _ _ _ HC1.out (.inr (.inl rfl))) 0
      have k5 := fun q => cellB XC2.out q
      have htt : c.tt = (tn : Int) := HCO.out.2.2.2.2.2.2
      have y1' : z1 < w2.heap.size := by omega
      clear hw2 K2 HJr k1 k3 p0 p1 p2 p3 p4 p5 p6 hcB
      go_wp2_with fail
      rw [htt]
      refine (rooms_any g HG.out gB tn w0 _ HGR.out HCK2.out htl).mono ?_
      rintro e w3 ⟨u, rfl, hru, hb3, hst⟩
      have hrm : roomsP g tn = roomsA g i := by unfold roomsA; rw [HCO.out.2.2.2.1, htt]; rfl
      rw [hrm] at hru hst
      have hroom : (roomsA g i).length ≤ 1100 ∧ ∀ r ∈ roomsA g i, spOK r := by
        rw [← hrm]
        unfold roomsP
        split
        · refine ⟨by simp, fun r hr => ?_⟩
          rw [List.mem_singleton.1 hr]
          exact ⟨Int.le_refl _, by decide, Int.le_refl _⟩
        · rw [List.getD_eq_getElem?_getD, List.getElem?_eq_getElem htl]
          exact HG.out.rs _ (List.getElem_mem htl)
      have HRM := Lib.hid hroom.2
      have hrl := hroom.1
      obtain ⟨ra, rc, rfl, r1, r2, -, -⟩ := id hru
      unfold maxLen at r2
      have HCK3 : Hid (CK w0 w3) := Lib.hid (HCK2.out.trans (CK.of hb3))
      have HK3 : Hid (KpP w0.heap.size z1 z2 W w3) := Lib.hid (HK2.out.trans (KpP.of (CK.of hb3)))
      have HJ3 : Hid (J pre w3) := Lib.hid (HBE.out _ _ _ hb3 HJ2.out)
      have XC3 : Hid (w3.heap[cB]? = some (.cells #[.int .i64 c.fr, .int .i64 c.tt, .int .i64 c.st, .int .i64 c.en, .int .i64 c.ra, .int .i64 c.rg, .int .i64 c.lo] 38 (0, 0))) := Lib.hid ((hb3.block _ z2c).trans XC2.out)
      have z3 : w2.heap.size ≤ w3.heap.size := hb3.size
      have HST : Hid (∀ V, KpP w0.heap.size z1 z2 w3 V → RSps V V.heap.size (.slice ra (roomsA g i).length rc) (roomsA g i)) := Lib.hid (fun V hV => by
        exact hst V (HCK3.out.kpp hV (Nat.le_refl _)) (fun q cs f hq => hV.2 q cs _ f hq (.inr (.inr (.inr (.inl rfl))))))
      clear hru hst hb3 k1' k5 hroom hrm htt
      go_wp2_with fail
      go_loopw [32] (fun kv wi => ∃ (k : Nat) (pre2 : List {m : Mv // m ∈ movesL g x}), k ≤ (roomsA g i).length ∧ kv = .int .i64 (k : Int) ∧ Hid (pre2.map (·.1) = movesP g x i ++ ((roomsA g i).take k).filterMap (moveOf g x i)) ∧ Hid (J pre2 wi) ∧ Hid (KpP w0.heap.size z1 z2 w3 wi)) (fun kv _ => (roomsA g i).length - (intOf kv).toNat)
      case atStart => exact ⟨0, pre, Nat.zero_le _, rfl, Lib.hid (by rw [HP.out]; simp), HJ3, Lib.hid (KpP.refl _ _ _ _)⟩
      case round =>
        obtain ⟨k, pre2, hk, rfl, HP2, J_wr, K_wr⟩ := hrel
        have Y_wr : Hid (CK w0 wr) := Lib.hid (HCK3.out.kpp K_wr.out (Nat.le_refl _))
        by_cases hkl : k < (roomsA g i).length
        · obtain ⟨r, hr⟩ : ∃ r, (roomsA g i)[k]? = some r := ⟨_, List.getElem?_eq_getElem hkl⟩
          obtain ⟨a', c', e', -, -, -, h4⟩ := HST.out wr K_wr.out
          obtain ⟨rb, ro, e2', hrb, hrc⟩ := h4 (by omega)
          have e3' : ra = some ⟨rb, ro, none⟩ := by injection e' with q1 q2 q3; rw [q1, e2']
          subst e3'
          have q0 := sp0 hrc hr
          have q1 := sp1 hrc hr
          have hro := HRM.out r (List.mem_of_getElem? hr)
          unfold spOK at hro
          have hxo := HX.out
          unfold lOK at hxo
          have HR := Lib.hid hr
          have HIS := Lib.hid (inner_succ g x i k hr)
          have k0 : (0 : Int) ≤ (k : Int) := by omega
          have kk1 : (k : Int) < ((roomsA g i).length : Int) := by omega
          clear hr e' e2' h4 hrc
          go_upto_region 7 with fail
          obtain ⟨w4, hw4⟩ : ∃ q, wr.alloc (.cells #[.int .i64 r.1, .int .i64 r.2] 50) = q := ⟨_, rfl⟩
          rw [hw4]
          have hb4 : Below wr.heap.size wr w4 := by rw [← hw4]; exact balloc0 (Below.refl _ _)
          have XR : Hid (w4.heap[wr.heap.size]? = some (.cells #[.int .i64 r.1, .int .i64 r.2] 50 (0, 0))) := Lib.hid (by rw [← hw4]; exact heap_new)
          have zr4 : wr.heap.size < w4.heap.size := by rw [← hw4]; simp
          obtain ⟨rB, hrB⟩ : ∃ q, wr.heap.size = q := ⟨_, rfl⟩
          have K_w4 : Hid (KpP w0.heap.size z1 z2 w3 w4) := Lib.hid (K_wr.out.trans (KpP.of (CK.of hb4)))
          have Y_w4 : Hid (CK w0 w4) := Lib.hid (Y_wr.out.trans (CK.of hb4))
          have J_w4 : Hid (J pre2 w4) := Lib.hid (HBE.out _ _ _ hb4 J_wr.out)
          rw [hrB] at XR zr4 ⊢
          clear hw4 hrB hb4 q0 q1
          obtain ⟨vq, vc, vb, vh, vg, vr, vd, G1_w4, -⟩ := (HGR.out.ck Y_w4.out).box
          have k1 := cellB (K_w4.out.2 _ _ _ _ (HK3.out.2 _ _ _ _ HC1.out (.inr (.inl rfl))) (.inr (.inl rfl))) 0
          have k3 := fun q => cellB (K_w4.out.2 _ _ _ _ (HK3.out.2 _ _ _ _ HC2.out (.inr (.inr (.inl rfl)))) (.inr (.inr (.inl rfl)))) q
          have k5 := fun q => cellB (K_w4.out.2 _ _ _ _ XC3.out (.inr (.inr (.inr (.inr (.inl rfl)))))) q
          have k6 := fun q => cellB G1_w4 q
          have s0 := K_w4.out.1
          have s1 : z1 < w4.heap.size := by omega
          have s2 : z2 < w4.heap.size := by omega
          have s3 : gB < w4.heap.size := by omega
          have s4 : cB < w4.heap.size := by omega
          have k7 := fun q => cellB XR.out q
          obtain ⟨f, hf⟩ : ∃ q, max x.tm r.1 = q := ⟨_, rfl⟩
          have hf0 : 0 ≤ f ∧ f ≤ 1099511627776 := by omega
          have HF := Lib.hid hf
          have hmx : max x.tm r.1 = f := hf
          clear hf G1_w4
          go_wp2_with fail
          (try rw [HF.out])
          refine (ghop_any g HG.out gB i c d f L _ (HGR.out.ck Y_w4.out) HCO.out.1 HCO.out.2.1 HCO.out.2.2.1 hf0.1 hf0.2).mono ?_
          rintro e w5 ⟨hb5, hres⟩
          have XR5 : Hid (w5.heap[rB]? = some (.cells #[.int .i64 r.1, .int .i64 r.2] 50 (0, 0))) := Lib.hid ((hb5.block _ zr4).trans XR.out)
          have K_w5 : Hid (KpP w0.heap.size z1 z2 w3 w5) := Lib.hid (K_w4.out.trans (KpP.of (CK.of hb5)))
          have Y_w5 : Hid (CK w0 w5) := Lib.hid (Y_w4.out.trans (CK.of hb5))
          have J_w5 : Hid (J pre2 w5) := Lib.hid (HBE.out _ _ _ hb5 J_w4.out)
          have zr5 : rB < w5.heap.size := by have := hb5.size; omega
          clear hb5 k1 k3 k5 k6 k7 s0 s1 s2 s3 s4 hmx
          have HMO : Hid (moveOf g x i r = match hopG L d f with | none => none | some b => if mvOK g x c r (b + d) (b + d + c.rg) then some (⟨c.tt, r.1, r.2, b + d + c.rg⟩, ((i : Int), b, b + d, b + d + c.rg)) else none) := Lib.hid (by unfold moveOf; rw [HCO.out.2.2.2.1, HCO.out.2.2.2.2.1, HCO.out.2.2.2.2.2.1, HF.out]; rfl)
          rcases hres with ⟨b, hb, rfl⟩ | ⟨hb, rfl⟩
          case inr =>
            have HN : Hid (pre2.map (·.1) = movesP g x i ++ ((roomsA g i).take (k + 1)).filterMap (moveOf g x i)) := Lib.hid (by rw [HIS.out, HMO.out, hb, HP2.out]; simp)
            obtain ⟨vq, vc, vb, vh, vg, vr, vd, G1_w5, -⟩ := (HGR.out.ck Y_w5.out).box
            have k1 := cellB (K_w5.out.2 _ _ _ _ (HK3.out.2 _ _ _ _ HC1.out (.inr (.inl rfl))) (.inr (.inl rfl))) 0
            have k3 := fun q => cellB (K_w5.out.2 _ _ _ _ (HK3.out.2 _ _ _ _ HC2.out (.inr (.inr (.inl rfl)))) (.inr (.inr (.inl rfl)))) q
            have k5 := fun q => cellB (K_w5.out.2 _ _ _ _ XC3.out (.inr (.inr (.inr (.inr (.inl rfl)))))) q
            have k6 := fun q => cellB G1_w5 q
            have s0 := K_w5.out.1
            have s1 : z1 < w5.heap.size := by omega
            have s2 : z2 < w5.heap.size := by omega
            have s3 : gB < w5.heap.size := by omega
            have s4 : cB < w5.heap.size := by omega
            have k7 := fun q => cellB XR5.out q
            clear hb G1_w5
            go_upto_region 8 with fail
            obtain ⟨w6, hw6⟩ : ∃ q, w5.alloc (.cells #[.int .i64 0, .int .i64 0, .int .i64 0, .int .i64 0] 42) = q := ⟨_, rfl⟩
            rw [hw6]
            have hb6 : Below w5.heap.size w5 w6 := by rw [← hw6]; exact balloc0 (Below.refl _ _)
            have K_w6 : Hid (KpP w0.heap.size z1 z2 w3 w6) := Lib.hid (K_w5.out.trans (KpP.of (CK.of hb6)))
            have Y_w6 : Hid (CK w0 w6) := Lib.hid (Y_w5.out.trans (CK.of hb6))
            have J_w6 : Hid (J pre2 w6) := Lib.hid (HBE.out _ _ _ hb6 J_w5.out)
            clear hw6 hb6
            refine wp_region_plan (fun V => Below (w6).heap.size (w6) V) [0, 0, 0, 1, 1, 2, 0, 1, 0, 0, 0, 0, 1, 1, 0, 0, 0, 1, 0, 0, 0, 0, 1, 1, 0, 0, 0, 1, 0, 0, 0, 1, 0, 1, 0, 0, 0] [0, 1, 2, 3, 4, 6, 7, 5, 8, 9, 10, 11, 12, 13, 14, 15, 16, 17, 18, 19, 20, 21, 22, 23, 24, 25, 26, 27, 28, 29, 30, 31, 32, 33, 34, 35, 36] (by kernel_rfl) (by kernel_rfl) ?_ ?_
            case refine_1 => exact belowA
            (iterate 7 (first | (refine plan_held rfl (by decide) (by rfl) (fun w1 hS => by (try (obtain ⟨_, _⟩ := bcell (hS rfl))); go_simp; rfl) ?_; simp only [Act.put, List.setIfInBounds_toArray, List.set_cons_zero, List.set_cons_succ]) | (refine plan_skip rfl (by decide) (by rfl) ?_; simp only [Act.put, List.setIfInBounds_toArray, List.set_cons_zero, List.set_cons_succ])))
            (refine plan_skipK rfl (by decide) (by rfl) belowA ?_; simp only [Act.put, List.setIfInBounds_toArray, List.set_cons_zero, List.set_cons_succ])
            (iterate 29 (first | (refine plan_held rfl (by decide) (by rfl) (fun w1 hS => by (try (obtain ⟨_, _⟩ := bcell (hS rfl))); go_simp; rfl) ?_; simp only [Act.put, List.setIfInBounds_toArray, List.set_cons_zero, List.set_cons_succ]) | (refine plan_skip rfl (by decide) (by rfl) ?_; simp only [Act.put, List.setIfInBounds_toArray, List.set_cons_zero, List.set_cons_succ])))
            refine plan_done ?_
            go_wp2
            go_roundw
            case rel => exact ⟨k + 1, pre2, by omega, by go_num, HN, Lib.hid (HBE.out _ _ _ (bdrew (Below.refl _ _)) J_w6.out), Lib.hid (K_w6.out.trans (KpP.of (CK.of (bdrew (Below.refl _ _)))))⟩
            case measure => simp [intOf]; omega
          have XHs := hopG_some hb
          obtain ⟨y, hyL, hy1, hy2⟩ := XHs
          have hyo := (HG.out.gs L (List.mem_of_getElem? HCO.out.2.2.1)).2 y hyL
          unfold spOK at hyo
          have hd12 := HG.out.ds d (List.mem_of_getElem? HCO.out.2.1)
          have he0 : 0 ≤ b + d := by omega
          have he1 : b + d ≤ 2000000000000 := by omega
          have HMO2 : Hid (moveOf g x i r = if mvOK g x c r (b + d) (b + d + c.rg) then some (⟨c.tt, r.1, r.2, b + d + c.rg⟩, ((i : Int), b, b + d, b + d + c.rg)) else none) := Lib.hid (by rw [HMO.out, hb])
          clear hb hyL hy1 hy2 hyo HMO
          have HMO := HMO2
          clear HMO2
          obtain ⟨vq, vc, vb, vh, vg, vr, vd, G1_w5, -⟩ := (HGR.out.ck Y_w5.out).box
          have k1 := cellB (K_w5.out.2 _ _ _ _ (HK3.out.2 _ _ _ _ HC1.out (.inr (.inl rfl))) (.inr (.inl rfl))) 0
          have k3 := fun q => cellB (K_w5.out.2 _ _ _ _ (HK3.out.2 _ _ _ _ HC2.out (.inr (.inr (.inl rfl)))) (.inr (.inr (.inl rfl)))) q
          have k5 := fun q => cellB (K_w5.out.2 _ _ _ _ XC3.out (.inr (.inr (.inr (.inr (.inl rfl)))))) q
          have k6 := fun q => cellB G1_w5 q
          have s0 := K_w5.out.1
          have s1 : z1 < w5.heap.size := by omega
          have s2 : z2 < w5.heap.size := by omega
          have s3 : gB < w5.heap.size := by omega
          have s4 : cB < w5.heap.size := by omega
          have k7 := fun q => cellB XR5.out q
          clear G1_w5
          go_upto_region 8 with fail
          obtain ⟨w6, hw6⟩ : ∃ q, w5.alloc (.cells #[.int .i64 (i : Int), .int .i64 b, .int .i64 (b + d), .int .i64 (b + d + c.rg)] 42) = q := ⟨_, rfl⟩
          rw [hw6]
          have hb6 : Below w5.heap.size w5 w6 := by rw [← hw6]; exact balloc0 (Below.refl _ _)
          have XH : Hid (w6.heap[w5.heap.size]? = some (.cells #[.int .i64 (i : Int), .int .i64 b, .int .i64 (b + d), .int .i64 (b + d + c.rg)] 42 (0, 0))) := Lib.hid (by rw [← hw6]; exact heap_new)
          have XR6 : Hid (w6.heap[rB]? = some (.cells #[.int .i64 r.1, .int .i64 r.2] 50 (0, 0))) := Lib.hid ((hb6.block _ zr5).trans XR5.out)
          have zh6 : w5.heap.size < w6.heap.size := by rw [← hw6]; simp
          have zr6 : rB < w6.heap.size := by omega
          have K_w6 : Hid (KpP w0.heap.size z1 z2 w3 w6) := Lib.hid (K_w5.out.trans (KpP.of (CK.of hb6)))
          have Y_w6 : Hid (CK w0 w6) := Lib.hid (Y_w5.out.trans (CK.of hb6))
          have J_w6 : Hid (J pre2 w6) := Lib.hid (HBE.out _ _ _ hb6 J_w5.out)
          obtain ⟨hB, hhB⟩ : ∃ q, w5.heap.size = q := ⟨_, rfl⟩
          rw [hhB] at XH zh6 ⊢
          clear hw6 hb6 hhB k1 k3 k5 k6 k7 s0 s1 s2 s3 s4
          obtain ⟨vq, vc, vb, vh, vg, vr, vd, G1_w6, -⟩ := (HGR.out.ck Y_w6.out).box
          have k1 := cellB (K_w6.out.2 _ _ _ _ (HK3.out.2 _ _ _ _ HC1.out (.inr (.inl rfl))) (.inr (.inl rfl))) 0
          have k3 := fun q => cellB (K_w6.out.2 _ _ _ _ (HK3.out.2 _ _ _ _ HC2.out (.inr (.inr (.inl rfl)))) (.inr (.inr (.inl rfl)))) q
          have k5 := fun q => cellB (K_w6.out.2 _ _ _ _ XC3.out (.inr (.inr (.inr (.inr (.inl rfl)))))) q
          have k6 := fun q => cellB G1_w6 q
          have s0 := K_w6.out.1
          have s1 : z1 < w6.heap.size := by omega
          have s2 : z2 < w6.heap.size := by omega
          have s3 : gB < w6.heap.size := by omega
          have s4 : cB < w6.heap.size := by omega
          have k7 := fun q => cellB XR6.out q
          have k8 := fun q => cellB XH.out q
          clear G1_w6
          obtain ⟨V, hV⟩ : ∃ q, leaveS g.cu (b + d) c.rg = q := ⟨_, rfl⟩
          have HLV := Lib.hid hV
          clear hV
          by_cases l1 : V ≤ x.tt
          case neg =>
            have dl1 : decide (V > x.tt) = true := decide_eq_true (by omega)
            have HN : Hid (pre2.map (·.1) = movesP g x i ++ ((roomsA g i).take (k + 1)).filterMap (moveOf g x i)) := Lib.hid (by
              rw [HIS.out, HMO.out, HP2.out]
              show _ = _ ++ (_ ++ (if mvOK g x c r (b + d) (b + d + c.rg) then _ else none).toList)
              rw [if_neg (by unfold mvOK; rw [HLV.out]; omega)]
              simp)
            refine wp_region_plan (fun V => Below (w6).heap.size (w6) V) [0, 0, 0, 1, 1, 2, 0, 1, 0, 0, 0, 0, 1, 1, 0, 0, 0, 1, 0, 0, 0, 0, 1, 1, 0, 0, 0, 1, 0, 0, 0, 1, 0, 1, 0, 0, 0] [0, 1, 2, 3, 4, 6, 7, 5, 8, 9, 10, 11, 12, 13, 14, 15, 16, 17, 18, 19, 20, 21, 22, 23, 24, 25, 26, 27, 28, 29, 30, 31, 32, 33, 34, 35, 36] (by kernel_rfl) (by kernel_rfl) ?_ ?_
            case refine_1 => exact belowA
            (iterate 7 (first | (refine plan_held rfl (by decide) (by rfl) (fun w1 hS => by (try (obtain ⟨_, _⟩ := bcell (hS rfl))); go_simp; rfl) ?_; simp only [Act.put, List.setIfInBounds_toArray, List.set_cons_zero, List.set_cons_succ]) | (refine plan_skip rfl (by decide) (by rfl) ?_; simp only [Act.put, List.setIfInBounds_toArray, List.set_cons_zero, List.set_cons_succ])))
            (refine plan_keep rfl rfl (by rfl) (fun K hK => ?_); go_simp)
            refine (leave_any g HG.out gB i c b (b + d) (b + d + c.rg) _ (HGR.out.ck (Y_w6.out.trans (CK.of (bdrew (Below.refl _ _))))) HCO.out.1 he0 he1).mono ?_
            rw [HLV.out]
            rintro e wc52 ⟨rfl, hbc52⟩
            (refine hK _ _ (by exact belowA) ?_; clear hK K; (try simp only [Act.put, List.setIfInBounds_toArray, List.set_cons_zero, List.set_cons_succ]))
            (iterate 29 (first | (refine plan_held rfl (by decide) (by rfl) (fun w1 hS => by (try (obtain ⟨_, _⟩ := bcell (hS rfl))); go_simp; rfl) ?_; simp only [Act.put, List.setIfInBounds_toArray, List.set_cons_zero, List.set_cons_succ]) | (refine plan_skip rfl (by decide) (by rfl) ?_; simp only [Act.put, List.setIfInBounds_toArray, List.set_cons_zero, List.set_cons_succ])))
            refine plan_done ?_
            have hb7 : Below w6.heap.size w6 wc52 := btrans0 (bdrew (Below.refl _ _)) hbc52
            have K_wc52 : Hid (KpP w0.heap.size z1 z2 w3 wc52) := Lib.hid (K_w6.out.trans (KpP.of (CK.of hb7)))
            have Y_wc52 : Hid (CK w0 wc52) := Lib.hid (Y_w6.out.trans (CK.of hb7))
            have J_wc52 : Hid (J pre2 wc52) := Lib.hid (HBE.out _ _ _ hb7 J_w6.out)
            clear hb7 hbc52 k1 k3 k5 k6 k7 k8
            go_wp2
            go_roundw
            case rel => exact ⟨k + 1, pre2, by omega, by go_num, HN, J_wc52, K_wc52⟩
            case measure => simp [intOf]; omega
          have dl1 : decide (V > x.tt) = false := decide_eq_false (by omega)
          by_cases l2 : b + d + c.rg ≤ g.D
          case neg =>
            have dl2 : decide (b + d + c.rg > g.D) = true := decide_eq_true (by omega)
            have HN : Hid (pre2.map (·.1) = movesP g x i ++ ((roomsA g i).take (k + 1)).filterMap (moveOf g x i)) := Lib.hid (by
              rw [HIS.out, HMO.out, HP2.out]
              show _ = _ ++ (_ ++ (if mvOK g x c r (b + d) (b + d + c.rg) then _ else none).toList)
              rw [if_neg (by unfold mvOK; rw [HLV.out]; omega)]
              simp)
            refine wp_region_plan (fun V => Below (w6).heap.size (w6) V) [0, 0, 0, 1, 1, 2, 0, 1, 0, 0, 0, 0, 1, 1, 0, 0, 0, 1, 0, 0, 0, 0, 1, 1, 0, 0, 0, 1, 0, 0, 0, 1, 0, 1, 0, 0, 0] [0, 1, 2, 3, 4, 6, 7, 5, 8, 9, 10, 11, 12, 13, 14, 15, 16, 17, 18, 19, 20, 21, 22, 23, 24, 25, 26, 27, 28, 29, 30, 31, 32, 33, 34, 35, 36] (by kernel_rfl) (by kernel_rfl) ?_ ?_
            case refine_1 => exact belowA
            (iterate 7 (first | (refine plan_held rfl (by decide) (by rfl) (fun w1 hS => by (try (obtain ⟨_, _⟩ := bcell (hS rfl))); go_simp; rfl) ?_; simp only [Act.put, List.setIfInBounds_toArray, List.set_cons_zero, List.set_cons_succ]) | (refine plan_skip rfl (by decide) (by rfl) ?_; simp only [Act.put, List.setIfInBounds_toArray, List.set_cons_zero, List.set_cons_succ])))
            (refine plan_keep rfl rfl (by rfl) (fun K hK => ?_); go_simp)
            refine (leave_any g HG.out gB i c b (b + d) (b + d + c.rg) _ (HGR.out.ck (Y_w6.out.trans (CK.of (bdrew (Below.refl _ _))))) HCO.out.1 he0 he1).mono ?_
            rw [HLV.out]
            rintro e wc52 ⟨rfl, hbc52⟩
            (refine hK _ _ (by exact belowA) ?_; clear hK K; (try simp only [Act.put, List.setIfInBounds_toArray, List.set_cons_zero, List.set_cons_succ]))
            (iterate 29 (first | (refine plan_held rfl (by decide) (by rfl) (fun w1 hS => by (try (obtain ⟨_, _⟩ := bcell (hS rfl))); go_simp; rfl) ?_; simp only [Act.put, List.setIfInBounds_toArray, List.set_cons_zero, List.set_cons_succ]) | (refine plan_skip rfl (by decide) (by rfl) ?_; simp only [Act.put, List.setIfInBounds_toArray, List.set_cons_zero, List.set_cons_succ])))
            refine plan_done ?_
            have hb7 : Below w6.heap.size w6 wc52 := btrans0 (bdrew (Below.refl _ _)) hbc52
            have K_wc52 : Hid (KpP w0.heap.size z1 z2 w3 wc52) := Lib.hid (K_w6.out.trans (KpP.of (CK.of hb7)))
            have Y_wc52 : Hid (CK w0 wc52) := Lib.hid (Y_w6.out.trans (CK.of hb7))
            have J_wc52 : Hid (J pre2 wc52) := Lib.hid (HBE.out _ _ _ hb7 J_w6.out)
            clear hb7 hbc52 k1 k3 k5 k6 k7 k8
            go_wp2
            go_roundw
            case rel => exact ⟨k + 1, pre2, by omega, by go_num, HN, J_wc52, K_wc52⟩
            case measure => simp [intOf]; omega
          have dl2 : decide (b + d + c.rg > g.D) = false := decide_eq_false (by omega)
          by_cases l3 : c.tt = g.dst
          case pos =>
            have dl3 : (c.tt != g.dst) = false := by simpa using l3
            have HMS : Hid (moveOf g x i r = some (⟨c.tt, r.1, r.2, b + d + c.rg⟩, ((i : Int), b, b + d, b + d + c.rg))) := Lib.hid (by
              rw [HMO.out]
              show (if mvOK g x c r (b + d) (b + d + c.rg) then some _ else none) = _
              rw [if_pos (by unfold mvOK; rw [HLV.out]; omega)])
            obtain ⟨rr, hrr⟩ := inner_pre g x i k (by rw [HCO.out.2.2.2.1]; exact HCF.out) HR.out HMS.out
            obtain ⟨rs, hrs⟩ := movesP_pre g x (show i + 1 ≤ g.cs.length by omega)
            rw [hrr] at hrs
            have hmem : ((⟨c.tt, r.1, r.2, b + d + c.rg⟩, ((i : Int), b, b + d, b + d + c.rg)) : Mv) ∈ movesL g x := by rw [hrs]; simp
            have hpl : pre2.length < (movesL g x).length := by
              have h1 := congrArg List.length HP2.out
              have h2 := congrArg List.length hrs
              simp only [List.length_map, List.length_append, List.length_cons, List.length_nil] at h1 h2
              omega
            have HN : Hid ((pre2 ++ [(⟨_, hmem⟩ : {m : Mv // m ∈ movesL g x})]).map (·.1) = movesP g x i ++ ((roomsA g i).take (k + 1)).filterMap (moveOf g x i)) := Lib.hid (by
              rw [HIS.out, HMS.out, List.map_append, HP2.out, List.append_assoc]
              rfl)
            (try clear l3)
            refine wp_region_plan (fun V => Below (w6).heap.size (w6) V) [0, 0, 0, 1, 1, 2, 0, 1, 0, 0, 0, 0, 1, 1, 0, 0, 0, 1, 0, 0, 0, 0, 1, 1, 0, 0, 0, 1, 0, 0, 0, 1, 0, 1, 0, 0, 0] [0, 1, 2, 3, 4, 6, 7, 5, 8, 9, 10, 11, 12, 13, 14, 15, 16, 17, 18, 19, 20, 21, 22, 23, 24, 25, 26, 27, 28, 29, 30, 31, 32, 33, 34, 35, 36] (by kernel_rfl) (by kernel_rfl) ?_ ?_
            case refine_1 => exact belowA
            (iterate 7 (first | (refine plan_held rfl (by decide) (by rfl) (fun w1 hS => by (try (obtain ⟨_, _⟩ := bcell (hS rfl))); go_simp; rfl) ?_; simp only [Act.put, List.setIfInBounds_toArray, List.set_cons_zero, List.set_cons_succ]) | (refine plan_skip rfl (by decide) (by rfl) ?_; simp only [Act.put, List.setIfInBounds_toArray, List.set_cons_zero, List.set_cons_succ])))
            (refine plan_keep rfl rfl (by rfl) (fun K hK => ?_); go_simp)
            refine (leave_any g HG.out gB i c b (b + d) (b + d + c.rg) _ (HGR.out.ck (Y_w6.out.trans (CK.of (bdrew (Below.refl _ _))))) HCO.out.1 he0 he1).mono ?_
            rw [HLV.out]
            rintro e wc52 ⟨rfl, hbc52⟩
            (refine hK _ _ (by exact belowA) ?_; clear hK K; (try simp only [Act.put, List.setIfInBounds_toArray, List.set_cons_zero, List.set_cons_succ]))
            (iterate 29 (first | (refine plan_held rfl (by decide) (by rfl) (fun w1 hS => by (try (obtain ⟨_, _⟩ := bcell (hS rfl))); go_simp; rfl) ?_; simp only [Act.put, List.setIfInBounds_toArray, List.set_cons_zero, List.set_cons_succ]) | (refine plan_skip rfl (by decide) (by rfl) ?_; simp only [Act.put, List.setIfInBounds_toArray, List.set_cons_zero, List.set_cons_succ])))
            refine plan_done ?_
            have hb7 : Below w6.heap.size w6 wc52 := btrans0 (bdrew (Below.refl _ _)) hbc52
            have K_wc52 : Hid (KpP w0.heap.size z1 z2 w3 wc52) := Lib.hid (K_w6.out.trans (KpP.of (CK.of hb7)))
            have Y_wc52 : Hid (CK w0 wc52) := Lib.hid (Y_w6.out.trans (CK.of hb7))
            have J_wc52 : Hid (J pre2 wc52) := Lib.hid (HBE.out _ _ _ hb7 J_w6.out)
            have XR7 : Hid (wc52.heap[rB]? = some (.cells #[.int .i64 r.1, .int .i64 r.2] 50 (0, 0))) := Lib.hid ((hb7.block _ zr6).trans XR6.out)
            have XH7 : Hid (wc52.heap[hB]? = some (.cells #[.int .i64 (i : Int), .int .i64 b, .int .i64 (b + d), .int .i64 (b + d + c.rg)] 42 (0, 0))) := Lib.hid ((hb7.block _ zh6).trans XH.out)
            have hY2 := HY.out pre2 ⟨_, hmem⟩ _ J_wc52.out hpl
            simp only [mvC] at hY2
            obtain ⟨fn, tmps, assign, body, hy, hR⟩ := hY2
            have HRR := Lib.hid hR
            clear hb7 hbc52 k1 k3 k5 k6 k7 k8 hR hrr hrs hpl s0 s1 s2 s3 s4
            have k5 := fun q => cellB (K_wc52.out.2 _ _ _ _ XC3.out (.inr (.inr (.inr (.inr (.inl rfl)))))) q
            have k7 := fun q => cellB XR7.out q
            have k8 := fun q => cellB XH7.out q
            go_upto_region 9 with fail
            refine (wpIn_wide (n := 11)).1 ?_
            gi_wp2
            refine HRR.out.mono ?_
            rintro e W3 (⟨rfl, hJ3, hk3⟩ | ⟨rfl, hJx3⟩)
            · have HJ3' := Lib.hid hJ3
              have HK3' := Lib.hid (K_wc52.out.trans hk3)
              clear hJ3 hk3 k5 k7 k8 hy
              gi_wp2
              go_wp2
              go_roundw
              case rel => exact ⟨k + 1, _, by omega, by go_num, HN, HJ3', HK3'⟩
              case measure => simp [intOf]; omega
            · have HX3 := Lib.hid hJx3
              clear hJx3 k5 k7 k8 hy
              gi_wp2
              go_wp2
              refine bodyPost_ret (results_none rfl _ _ _) rfl ?_
              exact ⟨⟨_, rfl⟩, .inr ⟨_, trivial, HX3.out⟩⟩
          have dl3 : (c.tt != g.dst) = true := by simpa using l3
          by_cases l4 : b + d + c.rg < r.2
          case pos =>
            have dl4 : decide (b + d + c.rg ≥ r.2) = false := decide_eq_false (by omega)
            have HMS : Hid (moveOf g x i r = some (⟨c.tt, r.1, r.2, b + d + c.rg⟩, ((i : Int), b, b + d, b + d + c.rg))) := Lib.hid (by
              rw [HMO.out]
              show (if mvOK g x c r (b + d) (b + d + c.rg) then some _ else none) = _
              rw [if_pos (by unfold mvOK; rw [HLV.out]; omega)])
            obtain ⟨rr, hrr⟩ := inner_pre g x i k (by rw [HCO.out.2.2.2.1]; exact HCF.out) HR.out HMS.out
            obtain ⟨rs, hrs⟩ := movesP_pre g x (show i + 1 ≤ g.cs.length by omega)
            rw [hrr] at hrs
            have hmem : ((⟨c.tt, r.1, r.2, b + d + c.rg⟩, ((i : Int), b, b + d, b + d + c.rg)) : Mv) ∈ movesL g x := by rw [hrs]; simp
            have hpl : pre2.length < (movesL g x).length := by
              have h1 := congrArg List.length HP2.out
              have h2 := congrArg List.length hrs
              simp only [List.length_map, List.length_append, List.length_cons, List.length_nil] at h1 h2
              omega
            have HN : Hid ((pre2 ++ [(⟨_, hmem⟩ : {m : Mv // m ∈ movesL g x})]).map (·.1) = movesP g x i ++ ((roomsA g i).take (k + 1)).filterMap (moveOf g x i)) := Lib.hid (by
              rw [HIS.out, HMS.out, List.map_append, HP2.out, List.append_assoc]
              rfl)
            (try clear l3)
            refine wp_region_plan (fun V => Below (w6).heap.size (w6) V) [0, 0, 0, 1, 1, 2, 0, 1, 0, 0, 0, 0, 1, 1, 0, 0, 0, 1, 0, 0, 0, 0, 1, 1, 0, 0, 0, 1, 0, 0, 0, 1, 0, 1, 0, 0, 0] [0, 1, 2, 3, 4, 6, 7, 5, 8, 9, 10, 11, 12, 13, 14, 15, 16, 17, 18, 19, 20, 21, 22, 23, 24, 25, 26, 27, 28, 29, 30, 31, 32, 33, 34, 35, 36] (by kernel_rfl) (by kernel_rfl) ?_ ?_
            case refine_1 => exact belowA
            (iterate 7 (first | (refine plan_held rfl (by decide) (by rfl) (fun w1 hS => by (try (obtain ⟨_, _⟩ := bcell (hS rfl))); go_simp; rfl) ?_; simp only [Act.put, List.setIfInBounds_toArray, List.set_cons_zero, List.set_cons_succ]) | (refine plan_skip rfl (by decide) (by rfl) ?_; simp only [Act.put, List.setIfInBounds_toArray, List.set_cons_zero, List.set_cons_succ])))
            (refine plan_keep rfl rfl (by rfl) (fun K hK => ?_); go_simp)
            refine (leave_any g HG.out gB i c b (b + d) (b + d + c.rg) _ (HGR.out.ck (Y_w6.out.trans (CK.of (bdrew (Below.refl _ _))))) HCO.out.1 he0 he1).mono ?_
            rw [HLV.out]
            rintro e wc52 ⟨rfl, hbc52⟩
            (refine hK _ _ (by exact belowA) ?_; clear hK K; (try simp only [Act.put, List.setIfInBounds_toArray, List.set_cons_zero, List.set_cons_succ]))
            (iterate 29 (first | (refine plan_held rfl (by decide) (by rfl) (fun w1 hS => by (try (obtain ⟨_, _⟩ := bcell (hS rfl))); go_simp; rfl) ?_; simp only [Act.put, List.setIfInBounds_toArray, List.set_cons_zero, List.set_cons_succ]) | (refine plan_skip rfl (by decide) (by rfl) ?_; simp only [Act.put, List.setIfInBounds_toArray, List.set_cons_zero, List.set_cons_succ])))
            refine plan_done ?_
            have hb7 : Below w6.heap.size w6 wc52 := btrans0 (bdrew (Below.refl _ _)) hbc52
            have K_wc52 : Hid (KpP w0.heap.size z1 z2 w3 wc52) := Lib.hid (K_w6.out.trans (KpP.of (CK.of hb7)))
            have Y_wc52 : Hid (CK w0 wc52) := Lib.hid (Y_w6.out.trans (CK.of hb7))
            have J_wc52 : Hid (J pre2 wc52) := Lib.hid (HBE.out _ _ _ hb7 J_w6.out)
            have XR7 : Hid (wc52.heap[rB]? = some (.cells #[.int .i64 r.1, .int .i64 r.2] 50 (0, 0))) := Lib.hid ((hb7.block _ zr6).trans XR6.out)
            have XH7 : Hid (wc52.heap[hB]? = some (.cells #[.int .i64 (i : Int), .int .i64 b, .int .i64 (b + d), .int .i64 (b + d + c.rg)] 42 (0, 0))) := Lib.hid ((hb7.block _ zh6).trans XH.out)
            have hY2 := HY.out pre2 ⟨_, hmem⟩ _ J_wc52.out hpl
            simp only [mvC] at hY2
            obtain ⟨fn, tmps, assign, body, hy, hR⟩ := hY2
            have HRR := Lib.hid hR
            clear hb7 hbc52 k1 k3 k5 k6 k7 k8 hR hrr hrs hpl s0 s1 s2 s3 s4
            have k5 := fun q => cellB (K_wc52.out.2 _ _ _ _ XC3.out (.inr (.inr (.inr (.inr (.inl rfl)))))) q
            have k7 := fun q => cellB XR7.out q
            have k8 := fun q => cellB XH7.out q
            go_upto_region 9 with fail
            refine (wpIn_wide (n := 11)).1 ?_
            gi_wp2
            refine HRR.out.mono ?_
            rintro e W3 (⟨rfl, hJ3, hk3⟩ | ⟨rfl, hJx3⟩)
            · have HJ3' := Lib.hid hJ3
              have HK3' := Lib.hid (K_wc52.out.trans hk3)
              clear hJ3 hk3 k5 k7 k8 hy
              gi_wp2
              go_wp2
              go_roundw
              case rel => exact ⟨k + 1, _, by omega, by go_num, HN, HJ3', HK3'⟩
              case measure => simp [intOf]; omega
            · have HX3 := Lib.hid hJx3
              clear hJx3 k5 k7 k8 hy
              gi_wp2
              go_wp2
              refine bodyPost_ret (results_none rfl _ _ _) rfl ?_
              exact ⟨⟨_, rfl⟩, .inr ⟨_, trivial, HX3.out⟩⟩
          have dl4 : decide (b + d + c.rg ≥ r.2) = true := decide_eq_true (by omega)
          have HN : Hid (pre2.map (·.1) = movesP g x i ++ ((roomsA g i).take (k + 1)).filterMap (moveOf g x i)) := Lib.hid (by
            rw [HIS.out, HMO.out, HP2.out]
            show _ = _ ++ (_ ++ (if mvOK g x c r (b + d) (b + d + c.rg) then _ else none).toList)
            rw [if_neg (by unfold mvOK; rw [HLV.out]; omega)]
            simp)
          refine wp_region_plan (fun V => Below (w6).heap.size (w6) V) [0, 0, 0, 1, 1, 2, 0, 1, 0, 0, 0, 0, 1, 1, 0, 0, 0, 1, 0, 0, 0, 0, 1, 1, 0, 0, 0, 1, 0, 0, 0, 1, 0, 1, 0, 0, 0] [0, 1, 2, 3, 4, 6, 7, 5, 8, 9, 10, 11, 12, 13, 14, 15, 16, 17, 18, 19, 20, 21, 22, 23, 24, 25, 26, 27, 28, 29, 30, 31, 32, 33, 34, 35, 36] (by kernel_rfl) (by kernel_rfl) ?_ ?_
          case refine_1 => exact belowA
          (iterate 7 (first | (refine plan_held rfl (by decide) (by rfl) (fun w1 hS => by (try (obtain ⟨_, _⟩ := bcell (hS rfl))); go_simp; rfl) ?_; simp only [Act.put, List.setIfInBounds_toArray, List.set_cons_zero, List.set_cons_succ]) | (refine plan_skip rfl (by decide) (by rfl) ?_; simp only [Act.put, List.setIfInBounds_toArray, List.set_cons_zero, List.set_cons_succ])))
          (refine plan_keep rfl rfl (by rfl) (fun K hK => ?_); go_simp)
          refine (leave_any g HG.out gB i c b (b + d) (b + d + c.rg) _ (HGR.out.ck (Y_w6.out.trans (CK.of (bdrew (Below.refl _ _))))) HCO.out.1 he0 he1).mono ?_
          rw [HLV.out]
          rintro e wc52 ⟨rfl, hbc52⟩
          (refine hK _ _ (by exact belowA) ?_; clear hK K; (try simp only [Act.put, List.setIfInBounds_toArray, List.set_cons_zero, List.set_cons_succ]))
          (iterate 29 (first | (refine plan_held rfl (by decide) (by rfl) (fun w1 hS => by (try (obtain ⟨_, _⟩ := bcell (hS rfl))); go_simp; rfl) ?_; simp only [Act.put, List.setIfInBounds_toArray, List.set_cons_zero, List.set_cons_succ]) | (refine plan_skip rfl (by decide) (by rfl) ?_; simp only [Act.put, List.setIfInBounds_toArray, List.set_cons_zero, List.set_cons_succ])))
          refine plan_done ?_
          have hb7 : Below w6.heap.size w6 wc52 := btrans0 (bdrew (Below.refl _ _)) hbc52
          have K_wc52 : Hid (KpP w0.heap.size z1 z2 w3 wc52) := Lib.hid (K_w6.out.trans (KpP.of (CK.of hb7)))
          have Y_wc52 : Hid (CK w0 wc52) := Lib.hid (Y_w6.out.trans (CK.of hb7))
          have J_wc52 : Hid (J pre2 wc52) := Lib.hid (HBE.out _ _ _ hb7 J_w6.out)
          clear hb7 hbc52 k1 k3 k5 k6 k7 k8
          go_wp2
          go_roundw
          case rel => exact ⟨k + 1, pre2, by omega, by go_num, HN, J_wc52, K_wc52⟩
          case measure => simp [intOf]; omega
        · obtain rfl : k = (roomsA g i).length := by omega
          have HPN : Hid (pre2.map (·.1) = movesP g x (i + 1)) := Lib.hid (by rw [movesP_succ, HP2.out, List.take_length]; unfold movesI; rw [HCO.out.2.2.2.1, if_pos HCF.out])
          go_wp2
          go_roundw
          case rel => exact ⟨i + 1, pre2, by omega, by go_num, HPN, J_wr, Lib.hid (HK3.out.trans K_wr.out)⟩
          case measure => simp [intOf]; omega
    · obtain rfl : i = g.cs.length := by omega
      go_wp2
      go_end0
      exact ⟨⟨_, rfl⟩, .inl ⟨pre, HP.out, HJr.out⟩⟩
end Go.Proofs.YtkokiahmgmeokaaGreat
