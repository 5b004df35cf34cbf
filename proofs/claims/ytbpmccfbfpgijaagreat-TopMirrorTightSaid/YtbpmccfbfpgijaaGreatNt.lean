/- TopMirrorTight: journey.arrivals (printed by gen/g22.py) -/
import Derived.BigQuiet
import Derived.BigRegion
import Derived.RangeFuncNested
import Derived.RangeFuncBound
import Derived.RangeFuncCalls
import Derived.RangeFuncLeaves
import Derived.RangeFuncBox
import Derived.RangeFuncFrom
import Derived.Shelf.Abstract
import Derived.Shelf.RegionOpen
import Derived.OwnWalkIn
import Derived.LoopIn
import Derived.LoopNIn
import Derived.TacticsInMore
import Derived.Deep.DeepCutAuto
import Derived.Deep.CutBlock
import Derived.Test.YtbpmccfbfpgijaaGreatRT
import Derived.Test.YtbpmccfbfpgijaaGreatNs
set_option linter.unusedVariables false
set_option linter.unusedSimpArgs false
namespace Go.Proofs.YtbpmccfbfpgijaaGreat
open Go Go.RowKit Iv
attribute [local go_sem] Oper.semAt_some
attribute [local go_sem] B_getElem B_size B_app B_extract B_get B_toList
attribute [local go_sem ↓] run_mkB
theorem alloc_facts {A B : World} {o : Obj} (h : A.alloc o = B) : ∃ g, A.heap.size = g ∧ B.heap[g]? = some o ∧ Below A.heap.size A B := by
  subst h
  exact ⟨_, rfl, heap_new, balloc0 (Below.refl _ _)⟩
theorem tree_br2 {P : Program} {ops : Array Oper} {Q : Exit → Act → World → Prop} {S : World → Prop} {kd : List Nat} {i j : Nat} {t u : PT} {a : Act} {w : World} (h1 : wpOp P ops Q i (fun a' w' => S w' ∧ wpTree P ops Q S kd t a' w') a w) (h2 : wpOp P ops Q j (fun a' w' => S w' ∧ wpTree P ops Q S kd u a' w') a w) : wpTree P ops Q S kd (.br2 i j t u) a w := ⟨h1, h2⟩
theorem tree_br3 {P : Program} {ops : Array Oper} {Q : Exit → Act → World → Prop} {S : World → Prop} {kd : List Nat} {i j k : Nat} {t u v : PT} {a : Act} {w : World} (h1 : wpOp P ops Q i (fun a' w' => S w' ∧ wpTree P ops Q S kd t a' w') a w) (h2 : wpOp P ops Q j (fun a' w' => S w' ∧ wpTree P ops Q S kd u a' w') a w) (h3 : wpOp P ops Q k (fun a' w' => S w' ∧ wpTree P ops Q S kd v a' w') a w) : wpTree P ops Q S kd (.br3 i j k t u v) a w := ⟨h1, h2, h3⟩
/-- what the first statement of arrivals makes -/
def ArrB (w : World) (n : Nat) (pb fb gt gl : Nat) (wx : World) : Prop :=
  (w.heap.size < pb ∧ w.heap.size < fb ∧ w.heap.size < gt ∧ w.heap.size < gl) ∧ (pb ≠ fb ∧ pb ≠ gt ∧ pb ≠ gl ∧ fb ≠ gt ∧ fb ≠ gl ∧ gt ≠ gl) ∧
  wx.heap[pb]? = some (.cells #[.pointer (some ⟨fb, 0, none⟩)] 87 (0, 0)) ∧ FB wx fb gt gl n n n (List.replicate n (-1)) (List.replicate n false)
/-- where the loop stands -/
structure AI (w w2 : World) (fb gt gl n src s : Nat) (rd : Int) (cs : List Con) (W : World) (F : List Int) (l : List Bool) (b : Int) (ds : List Deferred) : Prop where
  fb_ : FB W fb gt gl n n n F (if b < 0 then l else l.set b.toNat true)
  bn : b = nxS F l n
  inv : Mt.AInv (dS s) src rd cs n (fun _ => False) F l
  oth : Oth2 gt gl w2 W
  bel : Below w.heap.size w W
  mks : MarkOK w2.heap.size W ds
def ArrPost (cs : List Con) (n src s : Nat) (rd : Int) (w : World) (e : Ending) (w' : World) : Prop :=
  ∃ gt F, e = .returned (.slice (some ⟨gt, 0, none⟩) n n) ∧ w.heap.size ≤ gt ∧ w'.heap[gt]? = some (.cells (F.map (Value.int .i64)).toArray 3 (0, 0)) ∧ Below w.heap.size w w' ∧ (∃ l, Mt.AInv (dS s) src rd cs n (fun _ => False) F l ∧ nxS F l n < 0)
set_option maxRecDepth 100000 in
set_option maxHeartbeats 16000000 in
theorem arrivals_any (aq : Option Addr) (n cq : Nat) (uc : Value) (cs : List Con) (src s : Nat) (rd : Int) (w : World) (hrow : RRow conC 7 w w.heap.size uc cs) (hl : cs.length ≤ 64) (hn : n ≤ 16) (hsrc : src < n) (r0 : 0 ≤ rd) (r1 : rd ≤ 1099511627776) (s1 : 1 ≤ s) (hs : s ≤ 65536) (hcs : ∀ c ∈ cs, chkCon c = 0 ∧ c.fr < n ∧ c.tt < n) :
    Calls Tryz.prog 14 #[.agg #[.slice aq n cq, uc], .int .i64 (src : Int), .int .i64 rd, .int .i64 (s : Int)] w (ArrPost cs n src s rd w) := by
  refine (callsIn_wide (n := 12)).1 ?_
  refine callsIn_of_wp_marks Tryz.func14 rfl trivial ?_ rfl
  simp only [Tryz.ntmps14, List.size_toArray, List.length_cons, List.length_nil, Nat.reduceAdd, Nat.reduceSub, Array.replicate_succ, Array.replicate_zero, List.push_toArray, List.append_toArray, List.nil_append, List.cons_append]
  refine wpIn_wide.2 ?_
  have HROW := Lib.hid hrow
  have HCS := Lib.hid hcs
  have hn64 : n ≤ 64 := by omega
  have hrd := r1
  have n0 : (0 : Int) ≤ (n : Int) := by omega
  obtain ⟨ac, cc, rfl, q1, q2, q3, q4⟩ := hrow
  clear hcs q1 q2 q3 q4
  go_upto_region 1 with fail
  obtain ⟨w1, hw1⟩ : ∃ q, w.alloc (.cells #[.slice aq n cq, .slice ac cs.length cc] 25) = q := ⟨_, rfl⟩
  rw [hw1]
  have X1 : Hid (w1.heap[w.heap.size]? = some (.cells #[.slice aq n cq, .slice ac cs.length cc] 25 (0, 0))) := Lib.hid (by rw [← hw1]; exact heap_new)
  have B1 : Below w.heap.size w w1 := by rw [← hw1]; exact balloc0 (Below.refl _ _)
  have z1 : w1.heap.size = w.heap.size + 1 := by rw [← hw1]; simp
  have zq : w.heap.size < w1.heap.size := by omega
  have cp := fun o => cellB X1.out o
  have HZ1 := Lib.hid z1
  clear hw1 z1
  go_cut [9] from 14 to 24 (fun s9 wx => ∃ pb fb gt gl : Nat, s9 = .pointer (some ⟨pb, 0, none⟩) ∧ ArrB w n pb fb gt gl wx ∧ Below w1.heap.size w1 wx)
  case first =>
    refine wp_region_tree (fun V => Below w1.heap.size w1 V) [2, 0, 1, 0, 2, 0, 1, 0, 2, 0, 2, 2, 3] (.go 1 (.go 2 (.go 3 (.go 5 (.go 6 (.go 7 (.br3 0 8 11 (.br3 4 8 11 (.br2 8 11 (.go 9 (.br2 10 11 (.go 11 (.go 12 (.fin))) (.go 10 (.go 12 (.fin))))) (.go 8 (.go 9 (.go 10 (.go 12 (.fin)))))) (.br2 4 11 (.go 9 (.br2 10 11 (.go 11 (.go 12 (.fin))) (.go 10 (.go 12 (.fin))))) (.go 4 (.go 9 (.go 10 (.go 12 (.fin)))))) (.br2 4 8 (.go 8 (.go 9 (.go 10 (.go 12 (.fin))))) (.go 4 (.go 9 (.go 10 (.go 12 (.fin))))))) (.br2 0 11 (.br2 4 11 (.go 9 (.br2 10 11 (.go 11 (.go 12 (.fin))) (.go 10 (.go 12 (.fin))))) (.go 4 (.go 9 (.go 10 (.go 12 (.fin)))))) (.go 0 (.go 4 (.go 9 (.go 10 (.go 12 (.fin))))))) (.br2 0 8 (.br2 4 8 (.go 8 (.go 9 (.go 10 (.go 12 (.fin))))) (.go 4 (.go 9 (.go 10 (.go 12 (.fin)))))) (.go 0 (.go 4 (.go 9 (.go 10 (.go 12 (.fin)))))))))))))) (by kernel_rfl) (by kernel_rfl) ?_ ?_
    case refine_1 => exact bdrew (Below.refl _ _)
    obtain ⟨V, hV0⟩ : ∃ q, w1.drew = q := ⟨_, rfl⟩
    have BX : Below w1.heap.size w1 V := by rw [← hV0]; exact bdrew (Below.refl _ _)
    rw [hV0]
    clear hV0
    repeat' (first
      | (refine tree_br3 ?_ ?_ ?_)
      | (refine tree_br2 ?_ ?_)
      | (refine tree_held rfl (by decide) (by rfl) (fun w1 hS => by (try (obtain ⟨_, _⟩ := bcell (hS rfl))); go_simp; rfl) ?_; (try simp only [Act.put, List.setIfInBounds_toArray, List.set_cons_zero, List.set_cons_succ]))
      | ((first | refine tree_op rfl (by rfl) (fun K hK => ?_) | refine tree_keep rfl rfl (by rfl) (fun K hK => ?_))
         go_simp
         (first
          | (obtain ⟨V, hV⟩ : ∃ q, V.alloc (.cells #[.int .i64 (-1)] 3) = q := ⟨_, rfl⟩
             rw [hV]
             have zsz := BX.size
             (try have lP := (Array.getElem?_eq_some_iff.1 NP.out).1)
             (try have lR := (Array.getElem?_eq_some_iff.1 NR.out).1)
             (try have lL := (Array.getElem?_eq_some_iff.1 NL.out).1)
             (try have lF := (Array.getElem?_eq_some_iff.1 NF.out).1)
             obtain ⟨gb, hg_, nv, hb⟩ := alloc_facts hV
             (try have nBP : gb ≠ pb := by omega)
             (try have nBR : gb ≠ gt := by omega)
             (try have nBL : gb ≠ gl := by omega)
             (try have nBF : gb ≠ fb := by omega)
             (try replace NP := Lib.hid ((hb.block _ (Array.getElem?_eq_some_iff.1 NP.out).1).trans NP.out))
             (try replace NR := Lib.hid ((hb.block _ (Array.getElem?_eq_some_iff.1 NR.out).1).trans NR.out))
             (try replace NL := Lib.hid ((hb.block _ (Array.getElem?_eq_some_iff.1 NL.out).1).trans NL.out))
             (try replace NF := Lib.hid ((hb.block _ (Array.getElem?_eq_some_iff.1 NF.out).1).trans NF.out))
             have zB : w1.heap.size ≤ gb := by omega
             rw [hg_]
             have NB := Lib.hid nv
             replace BX : Below w1.heap.size w1 V := btrans0 BX hb
             clear hg_ hV nv hb zsz
             (try clear lP)
             (try clear lR)
             (try clear lL)
             (try clear lF))
          | (obtain ⟨V, hV⟩ : ∃ q, V.alloc (.cells (Array.replicate n (Value.bool false)) 4) = q := ⟨_, rfl⟩
             rw [hV]
             have zsz := BX.size
             (try have lP := (Array.getElem?_eq_some_iff.1 NP.out).1)
             (try have lB := (Array.getElem?_eq_some_iff.1 NB.out).1)
             (try have lR := (Array.getElem?_eq_some_iff.1 NR.out).1)
             (try have lF := (Array.getElem?_eq_some_iff.1 NF.out).1)
             obtain ⟨gl, hg_, nv, hb⟩ := alloc_facts hV
             (try have nLP : gl ≠ pb := by omega)
             (try have nBL : gb ≠ gl := by omega)
             (try have nLR : gl ≠ gt := by omega)
             (try have nFL : fb ≠ gl := by omega)
             (try replace NP := Lib.hid ((hb.block _ (Array.getElem?_eq_some_iff.1 NP.out).1).trans NP.out))
             (try replace NB := Lib.hid ((hb.block _ (Array.getElem?_eq_some_iff.1 NB.out).1).trans NB.out))
             (try replace NR := Lib.hid ((hb.block _ (Array.getElem?_eq_some_iff.1 NR.out).1).trans NR.out))
             (try replace NF := Lib.hid ((hb.block _ (Array.getElem?_eq_some_iff.1 NF.out).1).trans NF.out))
             have zL : w1.heap.size ≤ gl := by omega
             rw [hg_]
             have NL := Lib.hid nv
             replace BX : Below w1.heap.size w1 V := btrans0 BX hb
             clear hg_ hV nv hb zsz
             (try clear lP)
             (try clear lB)
             (try clear lR)
             (try clear lF))
          | (obtain ⟨V, hV⟩ : ∃ q, V.alloc (.cells #[.slice (some ⟨gt, 0, none⟩) n n, .slice (some ⟨gl, 0, none⟩) n n] 91) = q := ⟨_, rfl⟩
             rw [hV]
             have zsz := BX.size
             (try have lP := (Array.getElem?_eq_some_iff.1 NP.out).1)
             (try have lB := (Array.getElem?_eq_some_iff.1 NB.out).1)
             (try have lR := (Array.getElem?_eq_some_iff.1 NR.out).1)
             (try have lL := (Array.getElem?_eq_some_iff.1 NL.out).1)
             obtain ⟨fb, hg_, nv, hb⟩ := alloc_facts hV
             (try have nFP : fb ≠ pb := by omega)
             (try have nBF : gb ≠ fb := by omega)
             (try have nFR : fb ≠ gt := by omega)
             (try have nFL : fb ≠ gl := by omega)
             (try replace NP := Lib.hid ((hb.block _ (Array.getElem?_eq_some_iff.1 NP.out).1).trans NP.out))
             (try replace NB := Lib.hid ((hb.block _ (Array.getElem?_eq_some_iff.1 NB.out).1).trans NB.out))
             (try replace NR := Lib.hid ((hb.block _ (Array.getElem?_eq_some_iff.1 NR.out).1).trans NR.out))
             (try replace NL := Lib.hid ((hb.block _ (Array.getElem?_eq_some_iff.1 NL.out).1).trans NL.out))
             have zF : w1.heap.size ≤ fb := by omega
             rw [hg_]
             have NF := Lib.hid nv
             replace BX : Below w1.heap.size w1 V := btrans0 BX hb
             clear hg_ hV nv hb zsz
             (try clear lP)
             (try clear lB)
             (try clear lR)
             (try clear lL))
          | (obtain ⟨V, hV⟩ : ∃ q, V.alloc (.cells #[.pointer none] 87) = q := ⟨_, rfl⟩
             rw [hV]
             have zsz := BX.size
             (try have lB := (Array.getElem?_eq_some_iff.1 NB.out).1)
             (try have lR := (Array.getElem?_eq_some_iff.1 NR.out).1)
             (try have lL := (Array.getElem?_eq_some_iff.1 NL.out).1)
             (try have lF := (Array.getElem?_eq_some_iff.1 NF.out).1)
             obtain ⟨pb, hg_, nv, hb⟩ := alloc_facts hV
             (try have nBP : gb ≠ pb := by omega)
             (try have nPR : pb ≠ gt := by omega)
             (try have nLP : gl ≠ pb := by omega)
             (try have nFP : fb ≠ pb := by omega)
             (try replace NB := Lib.hid ((hb.block _ (Array.getElem?_eq_some_iff.1 NB.out).1).trans NB.out))
             (try replace NR := Lib.hid ((hb.block _ (Array.getElem?_eq_some_iff.1 NR.out).1).trans NR.out))
             (try replace NL := Lib.hid ((hb.block _ (Array.getElem?_eq_some_iff.1 NL.out).1).trans NL.out))
             (try replace NF := Lib.hid ((hb.block _ (Array.getElem?_eq_some_iff.1 NF.out).1).trans NF.out))
             have zP : w1.heap.size ≤ pb := by omega
             rw [hg_]
             have NP := Lib.hid nv
             replace BX : Below w1.heap.size w1 V := btrans0 BX hb
             clear hg_ hV nv hb zsz
             (try clear lB)
             (try clear lR)
             (try clear lL)
             (try clear lF))
          | (go_at_call 34
             have lB := (Array.getElem?_eq_some_iff.1 NB.out).1
             have zsz := BX.size
             (try have lP := (Array.getElem?_eq_some_iff.1 NP.out).1)
             (try have lL := (Array.getElem?_eq_some_iff.1 NL.out).1)
             (try have lF := (Array.getElem?_eq_some_iff.1 NF.out).1)
             refine (repeat_any n gb 0 1 _ hn (by omega) (cellB NB.out 0) lB (by omega) (by decide)).mono ?_
             obtain ⟨gt, hgt⟩ : ∃ q, V.heap.size = q := ⟨_, rfl⟩
             rw [hgt]
             rintro e V ⟨rfl, hx, hb⟩
             (try have nPR : pb ≠ gt := by omega)
             (try have nLR : gl ≠ gt := by omega)
             (try have nFR : fb ≠ gt := by omega)
             (try have nBR : gb ≠ gt := by omega)
             (try replace NP := Lib.hid ((hb.block _ (by omega)).trans NP.out))
             (try replace NB := Lib.hid ((hb.block _ (by omega)).trans NB.out))
             (try replace NL := Lib.hid ((hb.block _ (by omega)).trans NL.out))
             (try replace NF := Lib.hid ((hb.block _ (by omega)).trans NF.out))
             have zR : w1.heap.size ≤ gt := by omega
             have NR := Lib.hid hx
             replace BX : Below w1.heap.size w1 V := BX.trans (hb.mono zR)
             clear hgt hx hb lB zsz
             (try clear lP)
             (try clear lL)
             (try clear lF))
         )
         refine hK _ _ BX ?_
         clear hK K
         (try simp only [Act.put, List.setIfInBounds_toArray, List.set_cons_zero, List.set_cons_succ]))
      | (refine tree_late rfl rfl (by rfl) (fun K hK => ?_)
         have cP := cellB NP.out 0
         have fP := frozenB NP.out 0
         go_simp
         refine hK _ _ ?_
         clear hK K
         (try simp only [Act.put, List.setIfInBounds_toArray, List.set_cons_zero, List.set_cons_succ])
         refine tree_fin ?_
         go_wp2_with fail
         go_meet
         exact ⟨pb, fb, gt, gl, rfl, ⟨⟨by omega, by omega, by omega, by omega⟩, ⟨nFP.symm, nPR, nLP.symm, nFR, nFL, nLR.symm⟩, by rw [setB NP.out 0]; rfl, (Below.heap_setCell _ _ _ _ (nFP)).trans NF.out, (Below.heap_setCell _ _ _ _ (nPR.symm)).trans NR.out, (Below.heap_setCell _ _ _ _ (nLP)).trans (NL.out.trans (by simp)), by simp, by simp⟩, bset BX (by show w1.heap.size ≤ pb; omega)⟩))
  case rest =>
    obtain ⟨pb, fb, gt, gl, rfl, ⟨⟨g1, g2, g3, g4⟩, ⟨q1, q2, q3, q4, q5, q6⟩, hP, hFB⟩, hBc⟩ := hcut
    have HQ := Lib.hid (And.intro q1 (And.intro q2 (And.intro q3 (And.intro q4 (And.intro q5 q6)))))
    clear q1 q2 q3 q4 q5 q6 cp
    have HPB := Lib.hid hP
    have HF1 := Lib.hid hFB.1
    have HF2 := Lib.hid hFB.2.1
    have HF3 := Lib.hid hFB.2.2.1
    have HBC := Lib.hid hBc
    have cpb := cellB hP 0
    have cfb := fun o => cellB hFB.1 o
    have ct_ : wc.cell? ⟨gt, src, none⟩ = some (.int .i64 (-1)) := by rw [cellB hFB.2.1]; simp [List.getElem?_replicate, hsrc]
    have ft_ := frozenB hFB.2.1 src
    have i0 : (0 : Int) ≤ (src : Int) := by omega
    have i1 : (src : Int) < (n : Int) := by omega
    clear hP hFB hBc
    go_upto_region 3 with fail
    have HSET := setB HF2.out src (.int .i64 rd)
    obtain ⟨w2, hw2⟩ : ∃ q, wc.setCell ⟨gt, src, none⟩ (.int .i64 rd) = q := ⟨_, rfl⟩
    rw [hw2] at HSET ⊢
    have HFB : Hid (FB w2 fb gt gl n n n ((List.replicate n (-1)).set src rd) (List.replicate n false)) := Lib.hid ⟨by rw [← hw2]; exact (Below.heap_setCell _ _ _ _ HQ.out.2.2.2.1).trans HF1.out, by rw [HSET, List.map_set, List.setIfInBounds_toArray], by rw [← hw2]; exact (Below.heap_setCell _ _ _ _ (Ne.symm HQ.out.2.2.2.2.2)).trans HF3.out, by simp, by simp⟩
    have HP2 : Hid (w2.heap[pb]? = some (.cells #[.pointer (some ⟨fb, 0, none⟩)] 87 (0, 0))) := Lib.hid (by rw [← hw2]; exact (Below.heap_setCell _ _ _ _ HQ.out.2.1).trans HPB.out)
    have HB2 : Hid (Below w1.heap.size w1 w2) := Lib.hid (by rw [← hw2]; exact bset HBC.out (by show w1.heap.size ≤ gt; have := HZ1.out; omega))
    clear hw2 HSET cpb cfb ct_ ft_
    have cpb := cellB HP2.out 0
    go_wp2_with fail
    refine (next_any fb gt gl n n n _ _ _ HFB.out hn).mono ?_
    unfold NextPost
    rintro e w3 ⟨rfl, hb3, ho3, hl3, hs3⟩
    have HH3 := Lib.hid (And.intro hb3 (And.intro ho3 (And.intro hl3 hs3)))
    clear hb3 ho3 hl3 hs3 cpb
    go_wp2_with fail
    have hAI : AI w w2 fb gt gl n src s rd cs w3 ((List.replicate n (-1)).set src rd) (List.replicate n false) (nxS ((List.replicate n (-1)).set src rd) (List.replicate n false) n) [] :=
      ⟨⟨(HH3.out.2.1 _ HQ.out.2.2.2.2.1).trans HFB.out.1, (HH3.out.2.1 _ HQ.out.2.2.2.2.2).trans HFB.out.2.1, HH3.out.2.2.1, HFB.out.2.2.2.1, by split <;> simp⟩, rfl, Mt.AInv.start hsrc, ⟨by rw [HH3.out.2.2.2]; exact Nat.le_refl _, fun q _ _ hne => HH3.out.2.1 q hne⟩, (B1.trans (HB2.out.mono B1.size)).trans (HH3.out.1 w.heap.size (by omega)), ⟨[], rfl, List.nodup_nil, fun D hD => by cases hD⟩⟩
    obtain ⟨N0, hN0⟩ : ∃ q, nxS ((List.replicate n (-1)).set src rd) (List.replicate n false) n = q := ⟨_, rfl⟩
    rw [hN0] at hAI ⊢
    have HPW : Hid (w2.heap[w.heap.size]? = some (.cells #[.slice aq n cq, .slice ac cs.length cc] 25 (0, 0))) := Lib.hid ((HB2.out.block _ zq).trans X1.out)
    have hgl2 : gl < w2.heap.size := (Array.getElem?_eq_some_iff.1 HFB.out.2.2.1).1
    have hgt2 : gt < w2.heap.size := (Array.getElem?_eq_some_iff.1 HFB.out.2.1).1
    have hpb2 : pb < w2.heap.size := (Array.getElem?_eq_some_iff.1 HP2.out).1
    have hfb2 : fb < w2.heap.size := (Array.getElem?_eq_some_iff.1 HFB.out.1).1
    have hw2_ : w.heap.size < w2.heap.size := by omega
    clear hN0 HH3 HB2 HFB HBC HF1 HF2 HF3 HPB
    refine wp_loop (fun a W => ∃ (F : List Int) (l : List Bool) (b : Int) (ds : List Deferred) (u36 u37 u38 u39 u40 u41 u42 u43 u44 u45 u46 u47 u48 u49 u50 : Value), a = { tmps := #[.agg #[.slice aq n cq, .slice ac cs.length cc], .int .i64 (src : Int), .int .i64 rd, .int .i64 (s : Int), .pointer (some ⟨w.heap.size, 0, none⟩), undef, undef, undef, .slice none 0 0, .pointer (some ⟨pb, 0, none⟩), .func (.func 35) #[.pointer (some ⟨fb, 0, none⟩)] #[], .int .i64 b, undef, undef, u14, u15, u16, u17, u18, u19, u20, u21, u22, u23, u24, .pointer (some ⟨fb, 0, none⟩), .pointer (some ⟨fb, 0, none⟩), .pointer (some ⟨fb, 0, none⟩), .slice (some ⟨gt, 0, none⟩) n n, .int .i64 (src : Int), .int .i64 rd, .pointer (some ⟨gt, src, none⟩), .pointer (some ⟨fb, 0, none⟩), .func (.func 35) #[.pointer (some ⟨fb, 0, none⟩)] #[], .func (.func 35) #[.pointer (some ⟨fb, 0, none⟩)] #[], .int .i64 N0, u36, u37, u38, u39, u40, u41, u42, u43, u44, u45, u46, u47, u48, u49, u50, undef, undef, undef, undef, undef, undef, undef, undef, undef, undef, undef, undef, undef, undef, undef, undef, undef, undef, undef, undef, undef, undef, undef, undef, undef, undef, undef, undef, undef, undef, undef, undef, undef, undef, undef, undef, undef, undef, undef, undef], defers := ds } ∧ AI w w2 fb gt gl n src s rd cs W F l b ds) (fun a W => 2 * cntF W gl n + (if 0 ≤ intOf (a.tmps.getD 11 undef) then 1 else 0)) ⟨_, _, _, _, _, _, _, _, _, _, _, _, _, _, _, _, _, _, _, rfl, hAI⟩ ?_
    rintro a wr ⟨F, l, b, ds, u36, u37, u38, u39, u40, u41, u42, u43, u44, u45, u46, u47, u48, u49, u50, rfl, hA⟩
    have HA := Lib.hid hA
    clear hA hAI
    have cpb := cellB ((HA.out.oth.2 _ hpb2 HQ.out.2.1 HQ.out.2.2.1).trans HP2.out) 0
    have cfb := fun o => cellB HA.out.fb_.1 o
    have cpl := fun o => cellB ((HA.out.oth.2 _ hw2_ (by omega) (by omega)).trans HPW.out) o
    by_cases hb : 0 ≤ b
    case neg =>
      have d1 : decide (b ≥ 0) = false := decide_eq_false (by omega)
      obtain ⟨Ds, rfl, hnd, hds⟩ := HA.out.mks
      have HD := Lib.hid (And.intro hnd hds)
      have hbn : nxS F l n < 0 := by rw [← HA.out.bn]; omega
      have HBN := Lib.hid hbn
      clear hnd hds hb hbn
      go_wp2
      refine leave_marks Ds _ _ HD.out.1 HD.out.2 ⟨rfl, rfl, rfl, Nat.le_refl _, fun q _ => ⟨fun _ _ _ _ => rfl, fun _ => rfl⟩⟩ (fun w' hp => ?_)
      exact ⟨_, results_tmp rfl _ _ _, gt, F, rfl, by omega, ((hp.2.2.2.2 gt (by have := HA.out.oth.1; omega)).2 hgt2).trans HA.out.fb_.2.1, HA.out.bel.trans ⟨hp.1, hp.2.1, hp.2.2.1, hp.2.2.2.1, fun k hk => (hp.2.2.2.2 k (by have := HA.out.oth.1; omega)).2 (by omega)⟩, l, HA.out.inv, HBN.out⟩
    have d1 : decide (b ≥ 0) = true := decide_eq_true (by omega)
    obtain ⟨m, rfl⟩ := Int.eq_ofNat_of_zero_le hb
    have hbn := HA.out.bn
    obtain ⟨v1, v2, v3, v4, v5, v6⟩ := HA.out.inv.leave hbn.symm
    obtain ⟨t, ht⟩ : ∃ t, F[m]? = some t := ⟨_, List.getElem?_eq_getElem (by rw [HA.out.inv.lenF]; exact v4)⟩
    have at_ : Mt.at_ F m = t := by unfold Mt.at_; rw [List.getD_eq_getElem?_getD, ht]; rfl
    have t1 := AInv.bnd HA.out.inv hrd (fun c hc => (HCS.out c hc).1) m v6
    rw [at_] at v6 t1
    have hFB := HA.out.fb_
    rw [if_neg (by omega), Int.toNat_natCast] at hFB
    have ctm : wr.cell? ⟨gt, m, none⟩ = some (.int .i64 t) := by rw [cellB hFB.2.1]; simp [ht]
    have HFB := Lib.hid hFB
    have HV := Lib.hid (And.intro v1 (And.intro v2 (And.intro v3 v5)))
    have AT := Lib.hid at_
    have zr := HA.out.oth.1
    have m0 : (0 : Int) ≤ (m : Int) := by omega
    have m1 : (m : Int) < (n : Int) := by omega
    have y1 : pb < wr.heap.size := by omega
    have y2 : fb < wr.heap.size := by omega
    have y3 : gt < wr.heap.size := by omega
    have y4 : w.heap.size < wr.heap.size := by omega
    clear hbn v1 v2 v3 v5 ht at_ hFB hb
    go_wp2_with fail
    refine wp_region_plan (fun V => Below (wr).heap.size (wr) V) [1, 0, 1, 0, 0, 1, 0, 0, 1, 0, 3] [0, 1, 2, 3, 4, 5, 6, 7, 8, 9, 10] (by kernel_rfl) (by kernel_rfl) ?_ ?_
    case refine_1 => exact belowA
    (iterate 10 (first | (refine plan_held rfl (by decide) (by rfl) (fun w1 hS => by (try (obtain ⟨_, _⟩ := bcell (hS rfl))); go_simp; rfl) ?_; simp only [Act.put, List.setIfInBounds_toArray, List.set_cons_zero, List.set_cons_succ]) | (refine plan_skip rfl (by decide) (by rfl) ?_; simp only [Act.put, List.setIfInBounds_toArray, List.set_cons_zero, List.set_cons_succ])))
    (refine plan_late rfl rfl (by rfl) (fun K hK => ?_); go_simp)
    refine (hops_any (.slice aq n cq) (.slice ac cs.length cc) (m : Int) t (s : Int) _).mono ?_
    rintro e wc50 ⟨rfl, hW50⟩
    (refine hK _ _ ?_; clear hK K; (try simp only [Act.put, List.setIfInBounds_toArray, List.set_cons_zero, List.set_cons_succ]))
    refine plan_done ?_
    obtain ⟨hb50, hs50, hx1, hx2, hx3, hx4⟩ := hW50
    have B50 : Below wr.heap.size wr wc50 := (bdrew (Below.refl _ _)).trans hb50
    have e_Z : wr.drew.heap.size = wr.heap.size := rfl
    rw [e_Z] at hs50 hx1 hx2 hx3 hx4 ⊢
    obtain ⟨Z, hZ⟩ : ∃ q, wr.heap.size = q := ⟨_, rfl⟩
    rw [hZ] at B50 hs50 hx1 hx2 hx3 hx4 zr y1 y2 y3 y4 ⊢
    have HX := Lib.hid (And.intro hx1 (And.intro hx2 (And.intro hx3 hx4)))
    have HB50 := Lib.hid B50
    have zR : Z + 3 < wc50.heap.size := by omega
    have HZ := Lib.hid hZ
    have HWR : Hid (Below w.heap.size w wc50) := Lib.hid (HA.out.bel.trans (B50.mono (by omega)))
    have HROWR : Hid (RRow conC 7 wc50 wc50.heap.size (.slice ac cs.length cc) cs) := Lib.hid (HROW.out.below (C := w.heap.size) HWR.out (Nat.le_refl _) (by omega))
    have HNO : Hid (0 < cs.length → RNo gt (.slice ac cs.length cc)) := Lib.hid (fun hp a n' c' e => by
      obtain ⟨a', cc', e2, _, _, _, h4⟩ := HROW.out
      obtain ⟨b, o, rfl, hb, _⟩ := h4 hp
      rw [e2] at e
      injection e with e
      injection e with e
      subst e
      show b ≠ gt
      omega)
    have hcl : ∀ q, q < w2.heap.size → q ≠ gt → q ≠ gl → wc50.heap[q]? = w2.heap[q]? := fun q hq n1 n2 => (HB50.out.block q (by omega)).trans (HA.out.oth.2 q hq n1 n2)
    have HCL := Lib.hid hcl
    have HGT : Hid (wc50.heap[gt]? = some (.cells (F.map (Value.int .i64)).toArray 3 (0, 0))) := Lib.hid ((HB50.out.block _ (by omega)).trans HFB.out.2.1)
    have HFC : Hid (wc50.heap[fb]? = some (.cells #[.slice (some ⟨gt, 0, none⟩) n n, .slice (some ⟨gl, 0, none⟩) n n] 91 (0, 0))) := Lib.hid ((HB50.out.block _ (by omega)).trans HFB.out.1)
    have HPC : Hid (wc50.heap[pb]? = some (.cells #[.pointer (some ⟨fb, 0, none⟩)] 87 (0, 0))) := Lib.hid ((HCL.out _ hpb2 HQ.out.2.1 HQ.out.2.2.1).trans HP2.out)
    have HPL : Hid (wc50.heap[w.heap.size]? = some (.cells #[.slice aq n cq, .slice ac cs.length cc] 25 (0, 0))) := Lib.hid ((HCL.out _ hw2_ (by omega) (by omega)).trans HPW.out)
    clear hZ e_Z hx1 hx2 hx3 hx4 hs50 hb50 B50 hcl cpb cfb cpl ctm
    go_wp2_with fail
    refine (wpIn_wide (n := 12)).1 ?_
    refine wpIn_rangeFunc_ownH rfl (by omega) (gf := 73) (lb := #[.pointer (some ⟨Z, 0, none⟩), .pointer (some ⟨Z + 1, 0, none⟩), .pointer (some ⟨Z + 2, 0, none⟩), .pointer (some ⟨Z + 3, 0, none⟩)]) rfl trivial (enters_of Tryz.func73 (by kernel_rfl) rfl)
      (hops_stops Z (Z + 1) (Z + 2) (Z + 3) wc50.heap.size gt cs (m : Int) t s aq n cq ac cc wc50 ⟨by omega, by omega⟩ ⟨by omega, by omega⟩ ⟨by omega, by omega⟩ ⟨by omega, by omega⟩ (Nat.le_refl _) HX.out.1 HX.out.2.1 HX.out.2.2.1 HX.out.2.2.2 HROWR.out HNO.out hl (fun c hc => (HCS.out c hc).1) s1 hs v6 t1)
      (fun h k => h.trans k) (fun W l o o' hl _ _ _ => KpX.putObj W o' hl) (Below.refl _ _) (fun _ => rfl)
      (fun pre W => RI w wc50 gt m n src s rd cs F (l.set m true) (pre.map (·.1)) W)
      (fun _ _ _ => False) ?hI (fun _ _ _ _ _ hs _ _ => hs) ?h0
      (fun x a' W => ∃ (hb : Nat) (c : Con), cs[x.1]? = some c ∧ wc50.heap.size ≤ hb ∧ hb < W.heap.size ∧ W.heap[hb]? = some (.cells #[.int .i64 (x.1 : Int), .int .i64 (max t c.st), .int .i64 (max t c.st + durS c s), .int .i64 (max t c.st + durS c s + c.rg)] 38 (0, 0)) ∧ a' = { tmps := #[.agg #[.slice aq n cq, .slice ac cs.length cc], .int .i64 (src : Int), .int .i64 rd, .int .i64 (s : Int), .pointer (some ⟨w.heap.size, 0, none⟩), undef, undef, undef, .slice none 0 0, .pointer (some ⟨pb, 0, none⟩), .func (.func 35) #[.pointer (some ⟨fb, 0, none⟩)] #[], .int .i64 (m : Int), .pointer (some ⟨hb, 0, none⟩), undef, u14, u15, u16, u17, u18, u19, u20, u21, u22, u23, u24, .pointer (some ⟨fb, 0, none⟩), .pointer (some ⟨fb, 0, none⟩), .pointer (some ⟨fb, 0, none⟩), .slice (some ⟨gt, 0, none⟩) n n, .int .i64 (src : Int), .int .i64 rd, .pointer (some ⟨gt, src, none⟩), .pointer (some ⟨fb, 0, none⟩), .func (.func 35) #[.pointer (some ⟨fb, 0, none⟩)] #[], .func (.func 35) #[.pointer (some ⟨fb, 0, none⟩)] #[], .int .i64 N0, .int .i64 (m : Int), .bool true, u38, u39, .agg #[.slice aq n cq, .slice ac cs.length cc], .int .i64 (m : Int), .pointer (some ⟨fb, 0, none⟩), .pointer (some ⟨fb, 0, none⟩), .pointer (some ⟨fb, 0, none⟩), .slice (some ⟨gt, 0, none⟩) n n, .int .i64 (m : Int), .pointer (some ⟨gt, m, none⟩), .int .i64 t, .int .i64 (s : Int), .func (.func 73) #[] #[.pointer (some ⟨Z, 0, none⟩), .pointer (some ⟨Z + 1, 0, none⟩), .pointer (some ⟨Z + 2, 0, none⟩), .pointer (some ⟨Z + 3, 0, none⟩)], .agg #[.int .i64 (x.1 : Int), .int .i64 (max t c.st), .int .i64 (max t c.st + durS c s), .int .i64 (max t c.st + durS c s + c.rg)], undef, undef, undef, undef, undef, undef, undef, undef, undef, undef, undef, undef, undef, undef, undef, undef, undef, undef, undef, undef, undef, undef, undef, undef, undef, undef, undef, undef, undef, undef, undef, undef, undef, undef, undef, undef, undef, undef, undef], defers := [] }) ?hA ?assign ?body ?done ?stop
    case hI => exact RI.own (by omega)
    case h0 => exact ⟨⟨F, HGT.out, by simpa using HV.out.1, fun _ _ => rfl⟩, KpX.refl _ _ _, HWR.out⟩
    case hA =>
      rintro x a' s' A C row ⟨hb, c, h1, h2, h3, h4, h5⟩ hg hr'
      exact ⟨hb, c, h1, h2, by have := hg.size; omega, (ownC hg hr' _ _ _ _ h4).trans h4, h5⟩
    case assign =>
      rintro l' pre x W K' hRI hK'
      obtain ⟨c, hc⟩ : ∃ c, cs[x.1]? = some c := ⟨_, List.getElem?_eq_getElem x.2.1⟩
      have hx := (hop_lit x hc).2.2
      have HRI := Lib.hid hRI
      have HK := Lib.hid hK'
      have HC_ := Lib.hid hc
      simp only [conAt_eq hc, hx]
      clear hc hx hRI hK'
      gi_wp2
      refine HK.out _ _ ((KeepsOthers.alloc _ _).from _) ⟨by simp, fun q hq _ => Below.heap_alloc _ _ _ (Nat.lt_of_lt_of_le hq HRI.out.kp.1)⟩ (HRI.out.below (by omega) (balloc0 (Below.refl _ _))) ⟨W.heap.size, c, HC_.out, HRI.out.kp.1, by simp, heap_new, rfl⟩
    case body =>
      rintro l' pre x a' W hll ⟨r, hr⟩ hRI ⟨hb, c, hc, e1, e2, e3, rfl⟩ hlt
      obtain ⟨F', hF1, hF2, hF3⟩ := hRI.ex
      obtain ⟨hc1, hc2, -⟩ := hop_lit x hc
      have hil := x.2.1
      obtain ⟨i, hi⟩ : ∃ i, x.1 = i := ⟨_, rfl⟩
      rw [hi] at hc e3 hil ⊢
      have HMP : Hid ((pre ++ [x]).map (·.1) = pre.map (·.1) ++ [i]) := Lib.hid (by rw [List.map_append, List.map_cons, List.map_nil, hi])
      clear hlt hi
      have hcc := HCS.out c (List.mem_of_getElem? hc)
      have hcf := con_facts hcc.1
      obtain ⟨g, hg⟩ := Int.eq_ofNat_of_zero_le hcf.tt0
      have hgn : g < n := by have := hcc.2.2; omega
      have hctg : Mt.ct c = g := by unfold Mt.ct; rw [hg]; rfl
      have hcfm : Mt.cf c = m := by unfold Mt.cf; rw [hc1]; rfl
      obtain ⟨M, hM⟩ : ∃ q, max t c.st = q := ⟨_, rfl⟩
      obtain ⟨Dn, hDn⟩ : ∃ q, durS c s = q := ⟨_, rfl⟩
      obtain ⟨A, hA⟩ : ∃ q, M + Dn + c.rg = q := ⟨_, rfl⟩
      have harr : Mt.arr (dS s) c (Mt.at_ F m) = some A := by
        unfold Mt.arr
        rw [AT.out, hM]
        show (if M + durS c s ≤ c.en then some (M + durS c s + c.rg) else none) = some A
        rw [hDn, hA, if_pos (by omega)]
      rw [hM, hDn, hA] at e3 ⊢
      obtain ⟨y, hy⟩ : ∃ y, F'[g]? = some y := ⟨_, List.getElem?_eq_getElem (by rw [hF2.lenF]; exact hgn)⟩
      have hay : Mt.at_ F' g = y := by unfold Mt.at_; rw [List.getD_eq_getElem?_getD, hy]; rfl
      obtain ⟨ar, cr, er, _, _, _, h4⟩ := HROW.out
      have hcl0 : 0 < cs.length := by omega
      obtain ⟨bb, o, e4, hbb, hcell⟩ := h4 hcl0
      have e5 : ac = some ⟨bb, o, none⟩ := by injection er with q1 q2 q3; rw [q1, e4]
      subst e5
      have px : W.cell? ⟨bb, o + i * 7 + 1, none⟩ = some (.int .i64 (g : Int)) := (hRI.bel.cell (p := ⟨bb, o + i * 7 + 1, none⟩) hbb).trans (by rw [← hg]; exact hcell i c hc 1 _ rfl)
      have c1 := cellB ((hRI.kp.2 pb (by omega) HQ.out.2.1).trans HPC.out) 0
      have c2 := cellB ((hRI.kp.2 fb (by omega) HQ.out.2.2.2.1).trans HFC.out) 0
      have c3 : W.cell? ⟨gt, g, none⟩ = some (.int .i64 y) := by rw [cellB hF1]; simp [hy]
      have c4 := fun q => cellB e3 q
      have c5 := fun q => cellB ((hRI.kp.2 w.heap.size (by omega) (by omega)).trans HPL.out) q
      have f3 := frozenB hF1 g
      have kx0 : (0 : Int) ≤ (i : Int) := by omega
      have kx1 : (i : Int) < (cs.length : Int) := by omega
      have kg0 : (0 : Int) ≤ (g : Int) := by omega
      have kg1 : (g : Int) < (n : Int) := by omega
      have zW := hRI.kp.1
      have zb1 : pb < W.heap.size := by omega
      have zb2 : fb < W.heap.size := by omega
      have zb3 : gt < W.heap.size := by omega
      have zb4 : w.heap.size < W.heap.size := by omega
      have HH := Lib.hid (And.intro hF1 (And.intro hF2 (And.intro hF3 (And.intro harr (And.intro hctg (And.intro hcfm (And.intro hc hay)))))))
      have HRI := Lib.hid hRI
      clear hF1 hF2 hF3 harr hctg hcfm hc hay hRI hg hy hM hDn hA hc1 hc2 hcc hcf er h4 e4 hcell
      gi_wp2
      have HPOS : Hid (Mt.Pos (dS s) cs) := Lib.hid (fun c hc => by
        have h1 := con_facts (HCS.out c hc).1
        exact ⟨(durS_bnd h1 (by omega) hs).1, h1.rg0, h1.st0⟩)
      by_cases y0 : y < 0
      · have dy : decide (y < 0) = true := decide_eq_true y0
        refine wpIn_region_plan (fun V => V.cell? ⟨pb, 0, none⟩ = some (.pointer (some ⟨fb, 0, none⟩)) ∧ V.cell? ⟨fb, 0, none⟩ = some (.slice (some ⟨gt, 0, none⟩) n n) ∧ V.cell? ⟨gt, g, none⟩ = some (.int .i64 y) ∧ V.cell? ⟨hb, 3, none⟩ = some (.int .i64 A)) [1, 0, 0, 1, 0, 0, 1, 0, 0, 0, 1, 1, 0, 0, 1, 0, 0, 1, 0, 0] [0, 1, 2, 3, 4, 5, 6, 7, 8, 9, 10, 11, 12, 13, 14, 15, 16, 17, 18, 19] (by kernel_rfl) (by kernel_rfl) ?_ ?_
        · exact ⟨c1, c2, c3, c4 3⟩
        (iterate 9 (refine plan_heldI rfl (by decide) (by rfl) (fun w1 => by rfl) (fun w1 hS => by (try (have hS := hS rfl; obtain hS := hS; repeat (obtain ⟨_, hS⟩ := hS))); go_simp; rfl) ?_; simp only [Act.put, List.setIfInBounds_toArray, List.set_cons_zero, List.set_cons_succ]))
        (iterate 10 (refine plan_skipI rfl (by decide) (by rfl) (fun w => by rfl) ?_; simp only [Act.put, List.setIfInBounds_toArray, List.set_cons_zero, List.set_cons_succ]))
        (iterate 1 (refine plan_heldI rfl (by decide) (by rfl) (fun w1 => by rfl) (fun w1 hS => by (try (have hS := hS rfl; obtain hS := hS; repeat (obtain ⟨_, hS⟩ := hS))); go_simp; rfl) ?_; simp only [Act.put, List.setIfInBounds_toArray, List.set_cons_zero, List.set_cons_succ]))
        refine plan_doneI ?_
        gi_wp2
        refine wpIn_region_plan (fun V => V.cell? ⟨pb, 0, none⟩ = some (.pointer (some ⟨fb, 0, none⟩)) ∧ V.cell? ⟨fb, 0, none⟩ = some (.slice (some ⟨gt, 0, none⟩) n n) ∧ V.cell? ⟨gt, g, none⟩ = some (.int .i64 y) ∧ V.cell? ⟨hb, 3, none⟩ = some (.int .i64 A)) [1, 0, 0, 1, 0, 0, 1, 0, 3] [0, 1, 2, 3, 4, 5, 6, 7, 8] (by kernel_rfl) (by kernel_rfl) ?_ ?_
        · exact ⟨c1, c2, c3, c4 3⟩
        (iterate 8 (refine plan_heldI rfl (by decide) (by rfl) (fun w1 => by rfl) (fun w1 hS => by (try (have hS := hS rfl; obtain hS := hS; repeat (obtain ⟨_, hS⟩ := hS))); go_simp; rfl) ?_; simp only [Act.put, List.setIfInBounds_toArray, List.set_cons_zero, List.set_cons_succ]))
        (refine plan_lateI rfl rfl (by rfl) (fun K hK => ?_); go_simp)
        (refine hK _ _ ?_; clear hK K; (try simp only [Act.put, List.setIfInBounds_toArray, List.set_cons_zero, List.set_cons_succ]))
        refine plan_doneI ?_
        gi_wp2
        have hh : ∀ k, k ≠ gt → ∀ u : Value, (W.drew.drew.setCell ⟨gt, g, none⟩ u).heap[k]? = W.heap[k]? := fun k hne u => Below.heap_setCell _ _ _ _ hne
        refine ⟨⟨by simp, fun k o hk ho hc' => (hh k (by omega) _).trans ho⟩, ⟨by simp, fun k hk hne => hh k hne _⟩, ?_⟩
        simp only [HMP.out]
        refine RI.hop HRI.out.kp HRI.out.bel HPOS.out r0 HV.out.2.1 HV.out.2.2.1 HH.out.2.1 HH.out.2.2.1 HH.out.2.2.2.2.2.2.1 HH.out.2.2.2.2.2.1 HH.out.2.2.2.2.1 hgn HH.out.2.2.2.1 ?_ (fun q hq => hh q hq _) (by simp) ⟨rfl, rfl, rfl⟩ (by omega)
        rw [HH.out.2.2.2.2.2.2.2, if_pos (by omega)]
        have := setB (w := W.drew.drew) (g := gt) HH.out.1 g (.int .i64 A)
        rw [List.setIfInBounds_toArray, ← List.map_set] at this
        exact this
      · have dy : decide (y < 0) = false := decide_eq_false y0
        by_cases ya : A < y
        · have da : decide (A < y) = true := decide_eq_true ya
          refine wpIn_region_plan (fun V => V.cell? ⟨pb, 0, none⟩ = some (.pointer (some ⟨fb, 0, none⟩)) ∧ V.cell? ⟨fb, 0, none⟩ = some (.slice (some ⟨gt, 0, none⟩) n n) ∧ V.cell? ⟨gt, g, none⟩ = some (.int .i64 y) ∧ V.cell? ⟨hb, 3, none⟩ = some (.int .i64 A)) [1, 0, 0, 1, 0, 0, 1, 0, 0, 0, 1, 1, 0, 0, 1, 0, 0, 1, 0, 0] [0, 1, 2, 3, 4, 5, 6, 7, 8, 9, 10, 11, 12, 13, 14, 15, 16, 17, 18, 19] (by kernel_rfl) (by kernel_rfl) ?_ ?_
          · exact ⟨c1, c2, c3, c4 3⟩
          (iterate 20 (refine plan_heldI rfl (by decide) (by rfl) (fun w1 => by rfl) (fun w1 hS => by (try (have hS := hS rfl; obtain hS := hS; repeat (obtain ⟨_, hS⟩ := hS))); go_simp; rfl) ?_; simp only [Act.put, List.setIfInBounds_toArray, List.set_cons_zero, List.set_cons_succ]))
          refine plan_doneI ?_
          gi_wp2
          refine wpIn_region_plan (fun V => V.cell? ⟨pb, 0, none⟩ = some (.pointer (some ⟨fb, 0, none⟩)) ∧ V.cell? ⟨fb, 0, none⟩ = some (.slice (some ⟨gt, 0, none⟩) n n) ∧ V.cell? ⟨gt, g, none⟩ = some (.int .i64 y) ∧ V.cell? ⟨hb, 3, none⟩ = some (.int .i64 A)) [1, 0, 0, 1, 0, 0, 1, 0, 3] [0, 1, 2, 3, 4, 5, 6, 7, 8] (by kernel_rfl) (by kernel_rfl) ?_ ?_
          · exact ⟨c1, c2, c3, c4 3⟩
          (iterate 8 (refine plan_heldI rfl (by decide) (by rfl) (fun w1 => by rfl) (fun w1 hS => by (try (have hS := hS rfl; obtain hS := hS; repeat (obtain ⟨_, hS⟩ := hS))); go_simp; rfl) ?_; simp only [Act.put, List.setIfInBounds_toArray, List.set_cons_zero, List.set_cons_succ]))
          (refine plan_lateI rfl rfl (by rfl) (fun K hK => ?_); go_simp)
          (refine hK _ _ ?_; clear hK K; (try simp only [Act.put, List.setIfInBounds_toArray, List.set_cons_zero, List.set_cons_succ]))
          refine plan_doneI ?_
          gi_wp2
          have hh : ∀ k, k ≠ gt → ∀ u : Value, (W.drew.drew.setCell ⟨gt, g, none⟩ u).heap[k]? = W.heap[k]? := fun k hne u => Below.heap_setCell _ _ _ _ hne
          refine ⟨⟨by simp, fun k o hk ho hc' => (hh k (by omega) _).trans ho⟩, ⟨by simp, fun k hk hne => hh k hne _⟩, ?_⟩
          simp only [HMP.out]
          refine RI.hop HRI.out.kp HRI.out.bel HPOS.out r0 HV.out.2.1 HV.out.2.2.1 HH.out.2.1 HH.out.2.2.1 HH.out.2.2.2.2.2.2.1 HH.out.2.2.2.2.2.1 HH.out.2.2.2.2.1 hgn HH.out.2.2.2.1 ?_ (fun q hq => hh q hq _) (by simp) ⟨rfl, rfl, rfl⟩ (by omega)
          rw [HH.out.2.2.2.2.2.2.2, if_pos (by omega)]
          have := setB (w := W.drew.drew) (g := gt) HH.out.1 g (.int .i64 A)
          rw [List.setIfInBounds_toArray, ← List.map_set] at this
          exact this
        · have da : decide (A < y) = false := decide_eq_false ya
          refine wpIn_region_plan (fun V => V.cell? ⟨pb, 0, none⟩ = some (.pointer (some ⟨fb, 0, none⟩)) ∧ V.cell? ⟨fb, 0, none⟩ = some (.slice (some ⟨gt, 0, none⟩) n n) ∧ V.cell? ⟨gt, g, none⟩ = some (.int .i64 y) ∧ V.cell? ⟨hb, 3, none⟩ = some (.int .i64 A)) [1, 0, 0, 1, 0, 0, 1, 0, 0, 0, 1, 1, 0, 0, 1, 0, 0, 1, 0, 0] [0, 1, 2, 3, 4, 5, 6, 7, 8, 9, 10, 11, 12, 13, 14, 15, 16, 17, 18, 19] (by kernel_rfl) (by kernel_rfl) ?_ ?_
          · exact ⟨c1, c2, c3, c4 3⟩
          (iterate 20 (refine plan_heldI rfl (by decide) (by rfl) (fun w1 => by rfl) (fun w1 hS => by (try (have hS := hS rfl; obtain hS := hS; repeat (obtain ⟨_, hS⟩ := hS))); go_simp; rfl) ?_; simp only [Act.put, List.setIfInBounds_toArray, List.set_cons_zero, List.set_cons_succ]))
          refine plan_doneI ?_
          gi_wp2
          refine ⟨⟨Nat.le_refl _, fun k o hk ho hc' => ho⟩, ⟨Nat.le_refl _, fun k hk hne => rfl⟩, ?_⟩
          refine Eq.mp (congrArg (fun L => RI w wc50 gt m n src s rd cs F (l.set m true) L W.drew) HMP.out.symm) ?_
          refine RI.hop (W' := W.drew) HRI.out.kp HRI.out.bel HPOS.out r0 HV.out.2.1 HV.out.2.2.1 HH.out.2.1 HH.out.2.2.1 HH.out.2.2.2.2.2.2.1 HH.out.2.2.2.2.2.1 HH.out.2.2.2.2.1 hgn HH.out.2.2.2.1 ?_ (fun q hq => rfl) rfl ⟨rfl, rfl, rfl⟩ (by omega)
          rw [HH.out.2.2.2.2.2.2.2, if_neg (by omega)]
          exact HH.out.1
    case done =>
      rintro D ys W hD hys hRI hK'
      obtain ⟨F', e1, e2, e3⟩ := hRI.ex
      have hfin : Mt.AInv (dS s) src rd cs n (fun _ => False) F' (l.set m true) := e2.fin (fun j c hj => by
        rintro ⟨⟨c', hc', hcm⟩, hnot⟩
        rw [hj] at hc'
        injection hc' with hc'
        subst hc'
        rw [hcm, e3 m HV.out.2.1, AT.out]
        have hjl := (List.getElem?_eq_some_iff.1 hj).1
        rw [hys] at hnot
        have hcf := con_facts (HCS.out c (List.mem_of_getElem? hj)).1
        have hfr : c.fr = (m : Int) := by have h0 := hcf.fr0; unfold Mt.cf at hcm; omega
        have hpf : hpB cs (m : Int) t s j ≠ true := fun h => hnot (by unfold hopsL; exact List.mem_filter.2 ⟨List.mem_range.2 hjl, h⟩)
        unfold hpB at hpf
        rw [conAt_eq hj] at hpf
        unfold Mt.arr
        rw [if_neg]
        intro hle
        apply hpf
        have hle' : max t c.st ≤ c.en - durS c s := by have : max t c.st + durS c s ≤ c.en := hle; omega
        have hh : (hopR c j s t).2 = true := by unfold hopR; rw [if_pos hle']
        rw [hh, hfr]
        simp)
      have HGL : wc50.heap[gl]? = some (.cells ((l.set m true).map Value.bool).toArray 4 (0, 0)) := (HB50.out.block _ (by have := HZ.out; omega)).trans HFB.out.2.2.1
      have hFBW : FB W fb gt gl n n n F' (l.set m true) := ⟨(hRI.kp.2 fb (by omega) HQ.out.2.2.2.1).trans HFC.out, e1, (hRI.kp.2 gl (by omega) (Ne.symm HQ.out.2.2.2.2.2)).trans HGL, hfin.lenF, hfin.lenl⟩
      have HFBW := Lib.hid hFBW
      have HRI := Lib.hid hRI
      have HFIN := Lib.hid hfin
      have HK := Lib.hid hK'
      clear e1 e2 e3 hfin hFBW hK' hRI HGL hys
      go_wp2_with fail
      refine (next_any fb gt gl n n n _ _ _ HFBW.out hn).mono ?_
      unfold NextPost
      rintro e w8 ⟨rfl, hb8, ho8, hl8, hs8⟩
      have HH8 := Lib.hid (And.intro hb8 (And.intro ho8 (And.intro hl8 hs8)))
      obtain ⟨b', hb'⟩ : ∃ q, nxS F' (l.set m true) n = q := ⟨_, rfl⟩
      have HB' := Lib.hid hb'
      rw [hb'] at HH8 ⊢
      have hc8 := cntF_eq (n := n) HH8.out.2.2.1 (by split <;> simp [HFIN.out.lenl])
      have hc0 := cntF_eq HFB.out.2.2.1 HFB.out.2.2.2.2
      have hm2 : (b' < 0 → cntF w8 gl n = cntF wr gl n) ∧ (0 ≤ b' → cntF w8 gl n < cntF wr gl n) := by
        rw [hc8, hc0]
        refine ⟨fun h => by rw [if_pos h], fun h => ?_⟩
        rw [if_neg (by omega)]
        have h3 := Mt.nxS_some (F := F') (l := l.set m true) (k := n) (by rw [HB'.out]; exact h)
        rw [HB'.out] at h3
        exact cntF_set h3.2.2.1 HFIN.out.lenl h3.2.1
      have hAI8 : AI w w2 fb gt gl n src s rd cs w8 F' (l.set m true) b' (mark D :: ds) :=
        ⟨⟨(HH8.out.2.1 _ HQ.out.2.2.2.2.1).trans HFBW.out.1, (HH8.out.2.1 _ HQ.out.2.2.2.2.2).trans HFBW.out.2.1, HH8.out.2.2.1, HFIN.out.lenF, by split <;> simp [HFIN.out.lenl]⟩, HB'.out.symm, HFIN.out,
          (HA.out.oth.trans ⟨HB50.out.size, fun q hq _ _ => HB50.out.block q (by have := HZ.out; omega)⟩).trans ⟨by rw [HH8.out.2.2.2]; exact HRI.out.kp.1, fun q hq n1 n2 => (HH8.out.2.1 q n2).trans (HRI.out.kp.2 q hq n1)⟩,
          HRI.out.bel.trans (HH8.out.1 w.heap.size (by omega)), by
            obtain ⟨Ds, rfl, hnd, hds⟩ := HA.out.mks
            have hold : ∀ D' ∈ Ds, D' < Z := fun D' hD' => by have := (Array.getElem?_eq_some_iff.1 (hds D' hD').2).1; have := HZ.out; omega
            refine ⟨D :: Ds, rfl, List.nodup_cons.2 ⟨fun hm => ?_, hnd⟩, fun D' hD' => ?_⟩
            · have := hold D hm; omega
            · rcases List.mem_cons.1 hD' with rfl | hD'
              · exact ⟨by omega, (HH8.out.2.1 _ (by omega)).trans HK.out⟩
              · have h1 := hold D' hD'
                have h2 := hds D' hD'
                exact ⟨h2.1, (HH8.out.2.1 _ (by omega)).trans ((HRI.out.kp.2 D' (by omega) (by omega)).trans ((HB50.out.block D' h1).trans h2.2))⟩⟩
      have HAI8 := Lib.hid hAI8
      have HM2 := Lib.hid hm2
      clear hc8 hc0 hAI8 hm2
      rcases Int.lt_or_le b' 0 with z | z
      · have hcn := HM2.out.1 z
        have z' : ¬ 0 ≤ b' := by omega
        have HCN := Lib.hid hcn
        clear hcn
        go_wp2
        all_goals (refine ⟨⟨F', l.set m true, b', _, ⟨rfl, rfl⟩, HAI8.out⟩, ?_⟩)
        all_goals (have hcn := HCN.out; first | omega | (simp [intOf]; omega) | (simp [intOf] at *; omega))
      · have hcn := HM2.out.2 z
        have HCN := Lib.hid hcn
        clear hcn
        go_wp2
        all_goals (refine ⟨⟨F', l.set m true, b', _, ⟨rfl, rfl⟩, HAI8.out⟩, ?_⟩)
        all_goals (have hcn := HCN.out; first | omega | (simp [intOf]; omega) | (simp [intOf] at *; omega))
    case stop =>
      rintro D c' pre W _ _ h _
      exact h.elim
end Go.Proofs.YtbpmccfbfpgijaaGreat
