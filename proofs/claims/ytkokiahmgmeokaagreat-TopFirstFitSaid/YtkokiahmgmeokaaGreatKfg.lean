/- Marks; arrival. -/
import Derived.BigQuiet
import Derived.BigRegion
import Derived.Deep.DeepCutAuto
import Derived.Deep.CutBlock
import Derived.RangeFuncNested
import Derived.RangeFuncBound
import Derived.RangeFuncCalls
import Derived.RangeFuncLeaves
import Derived.RangeFuncBox
import Derived.RangeFuncFrom
import Derived.Shelf.Abstract
import Derived.Shelf.RegionOpen
import Derived.OwnWalkIn
import Derived.LoopIn
import Derived.LoopNIn
import Derived.TacticsInMore
import Derived.Laws.EntriesVeiled
import Derived.Test.YtkokiahmgmeokaaGreatKfd
set_option linter.unusedVariables false
set_option linter.unusedSimpArgs false
namespace Go.Proofs.YtkokiahmgmeokaaGreat
open Go Go.RowKit Iv Go.Shelf
attribute [local go_sem] Oper.semAt_some
attribute [local go_sem] B_getElem B_size B_app B_extract B_get B_toList
theorem plan_skipI {F : Fence} {n : Nat} {P : Program} {Q : Exit → Act → World → Prop} {S : World → Prop} {kd : List Nat} {l rl : List Oper} {i : Nat} {r : List Nat} {o : Oper} {a : Act} {w : World} (hd : l.drop i = o :: rl) (hk : kd.getD i 2 ≤ 1) (hw : Region.wanted o (yielded l.toArray a.tmps) = false)
    (hb : ∀ w, o.about P w a.eval = none) (h : wpPlanIn F n P l.toArray Q S kd r (a.put o.dst undef) w) : wpPlanIn F n P l.toArray Q S kd (i :: r) a w := by
  have ho := drop_get hd
  unfold wpPlanIn
  rw [ho]
  simp only
  rw [if_pos hk]
  exact ⟨undef, ⟨.inr ⟨hw, rfl⟩, hb⟩, h⟩
/-- the marks that the rounds left: each lies in a block of its own -/
def mark (D : Nat) : Deferred := { target := .collected D, args := #[] }
def MarkOK (B : Nat) (W : World) (ds : List Deferred) : Prop := ∃ Ds : List Nat, ds = Ds.map mark ∧ Ds.Nodup ∧ ∀ D ∈ Ds, B ≤ D ∧ W.heap[D]? = some (.deferred (some []))
/-- only the marks' blocks have turned -/
def Puts (B : Nat) (w w' : World) : Prop := w'.os = w.os ∧ w'.tape = w.tape ∧ w'.output = w.output ∧ w.heap.size ≤ w'.heap.size ∧ ∀ q, q < w.heap.size → (∀ cs t f, w.heap[q]? = some (.cells cs t f) → w'.heap[q]? = w.heap[q]?) ∧ (q < B → w'.heap[q]? = w.heap[q]?)
theorem leave_marks {F : Fence} {n : Nat} {P : Program} {fn : Func} {tmps : Array Value} {R : Ending → World → Prop} {B : Nat} : ∀ (Ds : List Nat) (w0 w : World), Ds.Nodup → (∀ D ∈ Ds, B ≤ D ∧ w.heap[D]? = some (.deferred (some []))) → Puts B w0 w →
    (∀ w', Puts B w0 w' → LeavesInM F n P fn tmps R [] .returning w') → LeavesInM F n P fn tmps R (Ds.map mark) .returning w
  | [], w0, w, _, _, hp, h => h w hp
  | D :: Ds, w0, w, hn, hd, hp, h => by
    obtain ⟨h1, h2⟩ := hd D (by simp)
    have hg := grownBy_putObj' w D
    refine ⟨by simp, .inl ⟨_, _, rfl, run_takeDeferred h2, ?_⟩⟩
    refine leave_marks Ds w0 _ (List.nodup_cons.1 hn).2 (fun D' hD' => ?_) ?_ h
    · obtain ⟨g1, g2⟩ := hd D' (by simp [hD'])
      refine ⟨g1, ((hg _).block D' (Array.getElem?_eq_some_iff.1 g2).1 (fun e => ?_)).trans g2⟩
      injection e with e
      exact (List.nodup_cons.1 hn).1 (e ▸ hD')
    · obtain ⟨p1, p2, p3, p4, p5⟩ := hp
      refine ⟨(hg _).os.trans p1, (hg _).tape.trans p2, (hg _).output.trans p3, Nat.le_trans p4 (hg _).size, fun q hq => ⟨fun cs t f hc => ?_, fun hqB => ?_⟩⟩
      · have e1 := (p5 q hq).1 cs t f hc
        refine ((hg _).block q (by omega) (fun e => ?_)).trans e1
        injection e with e
        subst e
        rw [e1, hc] at h2
        cases h2
      · refine ((hg _).block q (by omega) (fun e => ?_)).trans ((p5 q hq).2 hqB)
        injection e with e
        omega
def stepA (g : Gp) (p : Int × Bool) (m : Mv) : Int × Bool := if m.1.nd = g.dst ∧ (p.2 = false ∨ m.1.tm < p.1) then (m.1.tm, true) else p
def movesAll (g : Gp) (O : List Lbl) : List Mv := O.flatMap (movesL g)
def foldA (g : Gp) (l : List Mv) : Int × Bool := l.foldl (stepA g) (0, false)
def arrL (g : Gp) (O : List Lbl) : Int × Bool := foldA g (movesAll g O)
theorem foldA_snoc (g : Gp) (l : List Mv) (m : Mv) : foldA g (l ++ [m]) = stepA g (foldA g l) m := by unfold foldA; rw [List.foldl_append]; rfl
theorem movesAll_snoc (g : Gp) (O : List Lbl) (x : Lbl) : movesAll g (O ++ [x]) = movesAll g O ++ movesL g x := by unfold movesAll; rw [List.flatMap_append]; simp
/-- a world in which only two blocks and what came later have turned -/
def Oth3 (a b : Nat) (w w' : World) : Prop := w.heap.size ≤ w'.heap.size ∧ ∀ q, q < w.heap.size → q ≠ a → q ≠ b → w'.heap[q]? = w.heap[q]?
theorem Oth3.trans {x y : Nat} {a b c : World} (h : Oth3 x y a b) (k : Oth3 x y b c) : Oth3 x y a c := ⟨Nat.le_trans h.1 k.1, fun q hq n1 n2 => (k.2 q (by have := h.1; omega) n1 n2).trans (h.2 q hq n1 n2)⟩
/-- where the rounds of arrival stand -/
structure AR (w w2 : World) (bB iB : Nat) (p : Int × Bool) (W : World) : Prop where
  bb : W.heap[bB]? = some (.cells #[.int .i64 p.1] 3 (0, 0))
  ib : W.heap[iB]? = some (.cells #[.bool p.2] 4 (0, 0))
  oth : Oth3 bB iB w2 W
  bel : Below w.heap.size w W
theorem ownC3 {A B' : World} {row : Option Nat} {Pr : Nat → Prop} (hg : A.grownBy B' row) (hr : ∀ r, row = some r → Pr r ∧ ∃ o : Obj, A.heap[r]? = some o ∧ o.isCells = false) (q : Nat) (cs : Array Value) (e : TypeId) (f : Nat × Nat) (hq : A.heap[q]? = some (.cells cs e f)) : B'.heap[q]? = some (.cells cs e f) := by
  have hlt : q < A.heap.size := (Array.getElem?_eq_some_iff.1 hq).1
  refine (hg.block q hlt (fun e' => ?_)).trans hq
  obtain ⟨_, o, ho, hc⟩ := hr q e'.symm
  rw [hq] at ho
  injection ho with ho
  subst ho
  cases hc
theorem AR.own {w w2 wR : World} {bB iB : Nat} {α : Type} {f : α → Int × Bool} (h2 : w2.heap.size ≤ wR.heap.size) (hw : w.heap.size ≤ wR.heap.size) : OwnFrom wR.heap.size (fun (x : α) W => AR w w2 bB iB (f x) W ∧ wR.heap.size ≤ W.heap.size ∧ Oth3 bB iB wR W) := fun x A C row hs hg hr => by
  obtain ⟨⟨h1, h2_, h3, h4⟩, h5, h6⟩ := hs
  have hk : ∀ q, q < wR.heap.size → C.heap[q]? = A.heap[q]? := fun q hq => hg.block q (by omega) (fun e => by have := (hr q e.symm).1; omega)
  exact ⟨⟨ownC3 hg hr _ _ _ _ h1, ownC3 hg hr _ _ _ _ h2_, ⟨Nat.le_trans h3.1 hg.size, fun q hq n1 n2 => (hk q (by omega)).trans (h3.2 q hq n1 n2)⟩, h4.grown hg (by omega) (fun q e => by have := (hr q e).1; omega)⟩, Nat.le_trans h5 hg.size, ⟨Nat.le_trans h6.1 hg.size, fun q hq n1 n2 => (hk q hq).trans (h6.2 q hq n1 n2)⟩⟩
theorem AR.stay {w w2 : World} {bB iB : Nat} {p : Int × Bool} {W W' : World} (h : AR w w2 bB iB p W) (hw : w.heap.size ≤ W.heap.size) (k : Below W.heap.size W W') : AR w w2 bB iB p W' :=
  ⟨(k.block _ (Array.getElem?_eq_some_iff.1 h.bb).1).trans h.bb, (k.block _ (Array.getElem?_eq_some_iff.1 h.ib).1).trans h.ib, h.oth.trans ⟨k.size, fun q hq _ _ => k.block q hq⟩, h.bel.trans (k.mono hw)⟩
theorem MarkOK.stay {B : Nat} {W W' : World} {ds : List Deferred} (h : MarkOK B W ds) (k : Below W.heap.size W W') : MarkOK B W' ds := by
  obtain ⟨Ds, e, hn, hd⟩ := h
  exact ⟨Ds, e, hn, fun D hD => ⟨(hd D hD).1, (k.block _ (Array.getElem?_eq_some_iff.1 (hd D hD).2).1).trans (hd D hD).2⟩⟩
set_option maxRecDepth 100000 in
set_option maxHeartbeats 16000000 in
theorem arr_any (g : Gp) (hg : GOK g) (gB : Nat) (O : List Lbl) (u : Value) (w : World) (h : Gr w gB g) (ho : RRow lblC 4 w w.heap.size u O) (hO : ∀ x ∈ O, lOK x) :
    Calls Tryz.prog 31 #[.pointer (some ⟨gB, 0, none⟩), u] w fun e w' => e = .returned (.tuple #[.int .i64 (arrL g O).1, .bool (arrL g O).2]) ∧ Below w.heap.size w w' := by
  refine (callsIn_wide (n := 12)).1 ?_
  refine callsIn_of_wp_marks Tryz.func31 rfl trivial ?_ rfl
  simp only [Tryz.ntmps31, List.size_toArray, List.length_cons, List.length_nil, Nat.reduceAdd, Nat.reduceSub, Array.replicate_succ, Array.replicate_zero, List.push_toArray, List.append_toArray, List.nil_append, List.cons_append]
  refine wpIn_wide.2 ?_
  have HG := Lib.hid hg
  have HGR := Lib.hid h
  have HO := Lib.hid hO
  have hgl := h.lt
  obtain ⟨a, c, rfl, h1, h2, h3, h4⟩ := ho
  have H4 := Lib.hid h4
  unfold maxLen at h2
  clear h3 h4 hg h hO
  go_upto_region 2 with fail
  obtain ⟨w2, hw2⟩ : ∃ q, ((w.alloc (.cells #[.pointer (some ⟨gB, 0, none⟩)] 80)).alloc (.cells #[.int .i64 0] 3)).alloc (.cells #[.bool false] 4) = q := ⟨_, rfl⟩
  rw [hw2]
  have X0 : Hid (w2.heap[w.heap.size]? = some (.cells #[.pointer (some ⟨gB, 0, none⟩)] 80 (0, 0))) := Lib.hid (by rw [← hw2]; exact (by repeat (first | exact heap_new' (by first | rfl | (simp; done)) | refine (Below.heap_alloc _ _ _ (by first | (simp; done) | (simp; omega))).trans ?_)))
  have X1 : w2.heap[w.heap.size + 1]? = some (.cells #[.int .i64 0] 3 (0, 0)) := by rw [← hw2]; exact (by repeat (first | exact heap_new' (by first | rfl | (simp; done)) | refine (Below.heap_alloc _ _ _ (by first | (simp; done) | (simp; omega))).trans ?_))
  have X2 : w2.heap[w.heap.size + 1 + 1]? = some (.cells #[.bool false] 4 (0, 0)) := by rw [← hw2]; exact (by repeat (first | exact heap_new' (by first | rfl | (simp; done)) | refine (Below.heap_alloc _ _ _ (by first | (simp; done) | (simp; omega))).trans ?_))
  have B2 : Below w.heap.size w w2 := by rw [← hw2]; exact belowA
  have z2 : w.heap.size + 1 + 1 < w2.heap.size := by rw [← hw2]; simp
  obtain ⟨bB, hbB⟩ : ∃ q, w.heap.size + 1 = q := ⟨_, rfl⟩
  rw [hbB] at X1 X2 z2 ⊢
  obtain ⟨iB, hiB⟩ : ∃ q, bB + 1 = q := ⟨_, rfl⟩
  rw [hiB] at X2 z2 ⊢
  have HAR0 : AR w w2 bB iB (0, false) w2 := ⟨X1, X2, ⟨Nat.le_refl _, fun q _ _ _ => rfl⟩, B2⟩
  clear hw2 X1 X2 B2
  go_wp2_with fail
  refine wp_loop (fun ac W => ∃ (k : Nat) (ds : List Deferred) (u9 u14 u15 u16 u17 u18 u19 u44 : Value), ac = { tmps := #[.pointer (some ⟨gB, 0, none⟩), .slice a O.length c, .pointer (some ⟨w.heap.size, 0, none⟩), undef, .int .i64 0, .bool false, .pointer (some ⟨bB, 0, none⟩), .pointer (some ⟨iB, 0, none⟩), undef, u9, undef, .slice a O.length c, .int .i64 (O.length : Int), .int .i64 (k : Int), u14, u15, u16, u17, u18, u19, undef, undef, undef, undef, undef, undef, undef, undef, undef, undef, undef, undef, undef, undef, undef, undef, undef, undef, undef, undef, undef, undef, undef, undef, u44, undef, undef], defers := ds } ∧ k ≤ O.length ∧ AR w w2 bB iB (foldA g (movesAll g (O.take k))) W ∧ MarkOK w2.heap.size W ds) (fun a W => O.length - (intOf (a.tmps.getD 13 undef)).toNat) ⟨0, [], _, _, _, _, _, _, _, _, rfl, Nat.zero_le _, HAR0, ⟨[], rfl, List.nodup_nil, fun D hD => by cases hD⟩⟩ ?_
  rintro ac wr ⟨k, ds, u9, u14, u15, u16, u17, u18, u19, u44, rfl, hk, hAR, hM⟩
  have HA := Lib.hid hAR
  have HM := Lib.hid hM
  have zr := hAR.oth.1
  clear hAR hM HAR0
  by_cases hlt : k < O.length
  · obtain ⟨bb, o, rfl, hbn, hcell⟩ := H4.out (by omega)
    obtain ⟨x, hx⟩ : ∃ x, O[k]? = some x := ⟨_, List.getElem?_eq_getElem hlt⟩
    have q0 : wr.cell? ⟨bb, o + k * 4, none⟩ = some (.int .i64 x.nd) := (HA.out.bel.cell (p := ⟨bb, o + k * 4 + 0, none⟩) hbn).trans (hcell k x hx 0 _ rfl)
    have q1 : wr.cell? ⟨bb, o + k * 4 + 1, none⟩ = some (.int .i64 x.fr) := (HA.out.bel.cell (p := ⟨bb, o + k * 4 + 1, none⟩) hbn).trans (hcell k x hx 1 _ rfl)
    have q2 : wr.cell? ⟨bb, o + k * 4 + 2, none⟩ = some (.int .i64 x.tt) := (HA.out.bel.cell (p := ⟨bb, o + k * 4 + 2, none⟩) hbn).trans (hcell k x hx 2 _ rfl)
    have q3 : wr.cell? ⟨bb, o + k * 4 + 3, none⟩ = some (.int .i64 x.tm) := (HA.out.bel.cell (p := ⟨bb, o + k * 4 + 3, none⟩) hbn).trans (hcell k x hx 3 _ rfl)
    have k0 : (0 : Int) ≤ (k : Int) := by omega
    have k1 : (k : Int) < (O.length : Int) := by omega
    have HX := Lib.hid hx
    have hxl := HO.out x (List.mem_of_getElem? hx)
    have HXL := Lib.hid hxl
    clear hcell hx hxl
    go_upto_region 5 with fail
    obtain ⟨w4, hw4⟩ : ∃ q, wr.alloc (.cells #[.int .i64 x.nd, .int .i64 x.fr, .int .i64 x.tt, .int .i64 x.tm] 129) = q := ⟨_, rfl⟩
    rw [hw4]
    have K4 : Hid (Below wr.heap.size wr w4) := Lib.hid (by rw [← hw4]; exact balloc0 (Below.refl _ _))
    have XV : Hid (w4.heap[wr.heap.size]? = some (.cells #[.int .i64 x.nd, .int .i64 x.fr, .int .i64 x.tt, .int .i64 x.tm] 129 (0, 0))) := Lib.hid (by rw [← hw4]; exact heap_new)
    have z4 : wr.heap.size < w4.heap.size := by rw [← hw4]; simp
    obtain ⟨xB, hxB⟩ : ∃ q, wr.heap.size = q := ⟨_, rfl⟩
    have HXB := Lib.hid hxB
    rw [hxB] at XV z4 ⊢
    clear hw4 q0 q1 q2 q3
    have HA4 := Lib.hid (HA.out.stay (by omega) K4.out)
    have HM4 := Lib.hid (HM.out.stay K4.out)
    have cx := fun q => cellB XV.out q
    have cg := cellB ((HA4.out.oth.2 _ (by omega) (by omega) (by omega)).trans X0.out) 0
    go_wp2_with fail
    refine (moves_any gB x _).mono ?_
    obtain ⟨Z, hZ⟩ : ∃ q, w4.heap.size = q := ⟨_, rfl⟩
    unfold MovW
    rw [hZ]
    rintro e w5 ⟨rfl, hb5, hs5, hx1, hx2⟩
    rw [← hZ] at hb5
    replace hs5 : Z + 2 ≤ w5.heap.size := Nat.le_of_eq hs5.symm
    have HB5 := Lib.hid hb5
    have HA5 := Lib.hid (HA4.out.stay (by omega) hb5)
    have HM5 := Lib.hid (HM4.out.stay hb5)
    have HXS := Lib.hid (And.intro hx1 hx2)
    have hbw : w.heap.size ≤ w5.heap.size := by omega
    have zx : xB < Z := by omega
    clear cx cg hb5 hx1 hx2 K4 HA4 HM4
    go_wp2_with fail
    refine (wpIn_wide (n := 12)).1 ?_
    refine wpIn_rangeFunc_ownH rfl (by omega) (gf := 100) (lb := #[.pointer (some ⟨Z, 0, none⟩), .pointer (some ⟨Z + 1, 0, none⟩)]) rfl trivial (enters_of Tryz.func100 (by kernel_rfl) rfl)
      (moves_stops g HG.out gB Z (Z + 1) x w w5 HGR.out (CK.of HA5.out.bel) HXS.out.1 HXS.out.2 HXL.out)
      (fun h k => h.trans k) (fun W l o o' _ hl hc _ => KpP.putObj W l o' hl hc) (Below.refl _ _) (fun _ => rfl)
      (fun pre W => AR w w2 bB iB (foldA g (movesAll g (O.take k) ++ pre.map (·.1))) W ∧ w5.heap.size ≤ W.heap.size ∧ Oth3 bB iB w5 W)
      (fun _ _ _ => False) ?hI (fun _ _ _ _ _ hs _ _ => hs) ?h0
      (fun m a' W => ∃ mB : Nat, w5.heap.size ≤ mB ∧ mB < W.heap.size ∧ W.heap[mB]? = some (.cells (mvC m.1) 134 (0, 0)) ∧ a' = { tmps := #[.pointer (some ⟨gB, 0, none⟩), .slice (some ⟨bb, o, none⟩) O.length c, .pointer (some ⟨w.heap.size, 0, none⟩), undef, .int .i64 0, .bool false, .pointer (some ⟨bB, 0, none⟩), .pointer (some ⟨iB, 0, none⟩), undef, .pointer (some ⟨xB, 0, none⟩), .pointer (some ⟨mB, 0, none⟩), .slice (some ⟨bb, o, none⟩) O.length c, .int .i64 (O.length : Int), .int .i64 (k : Int), .bool true, .pointer (some ⟨bb, o + k * 4, none⟩), .agg #[.int .i64 x.nd, .int .i64 x.fr, .int .i64 x.tt, .int .i64 x.tm], .pointer (some ⟨gB, 0, none⟩), .agg #[.int .i64 x.nd, .int .i64 x.fr, .int .i64 x.tt, .int .i64 x.tm], .func (.func 100) #[] #[.pointer (some ⟨Z, 0, none⟩), .pointer (some ⟨Z + 1, 0, none⟩)], .agg (mvC m.1), undef, undef, undef, undef, undef, undef, undef, undef, undef, undef, undef, undef, undef, undef, undef, undef, undef, undef, undef, undef, undef, undef, undef, u44, undef, undef], defers := [] }) ?hA ?assign ?body ?done ?stop
    case hI => exact AR.own (by omega) (by omega)
    case h0 => exact ⟨by simpa using HA5.out, Nat.le_refl _, Nat.le_refl _, fun q _ _ _ => rfl⟩
    case hA =>
      rintro m a' s' A C row ⟨mB, h1, h2, h3, h4⟩ hg hr'
      exact ⟨mB, h1, by have := hg.size; omega, ownC3 hg hr' _ _ _ _ h3, h4⟩
    case assign =>
      rintro l' pre m W K' ⟨hAR, hW5, hOT⟩ hK'
      have HK := Lib.hid hK'
      have HAR := Lib.hid hAR
      have HOT := Lib.hid hOT
      have zW := hOT.1
      have zw := hAR.bel.size
      clear hAR hK' hOT
      simp only [mvC]
      gi_wp2
      refine HK.out _ _ ((KeepsOthers.alloc _ _).from _) (KpP.of (CK.of (balloc0 (Below.refl _ _)))) ⟨HAR.out.stay zw (balloc0 (Below.refl _ _)), by simp; omega, HOT.out.trans ⟨by simp, fun q hq _ _ => Below.heap_alloc _ _ _ hq⟩⟩ ⟨W.heap.size, hW5, by simp, heap_new, rfl⟩
    case body =>
      rintro l' pre m a' W hll hlp ⟨hAR, hW5, hOT⟩ ⟨mB, e1, e2, e3, rfl⟩ hlt'
      clear hlt'
      have hbel := hAR.bel
      have z5 := hAR.oth.1
      obtain ⟨uq, uc, ub, uh, ug, ur, ud, hgb, -⟩ := (HGR.out.ck (CK.of hbel)).box
      have hml : gB < W.heap.size := (Array.getElem?_eq_some_iff.1 hgb).1
      obtain ⟨P, hP⟩ : ∃ q, foldA g (movesAll g (O.take k) ++ pre.map (·.1)) = q := ⟨_, rfl⟩
      rw [hP] at hAR
      have HSN : Hid (foldA g (movesAll g (O.take k) ++ (pre ++ [m]).map (·.1)) = stepA g P m.1) := Lib.hid (by
        rw [List.map_append, ← List.append_assoc]; show foldA g (_ ++ [m.1]) = _; rw [foldA_snoc, hP])
      obtain ⟨p1, p2⟩ := P
      have c1 := cellB ((hAR.oth.2 _ (by omega) (by omega) (by omega)).trans X0.out) 0
      have c2 := fun q => cellB hgb q
      have c3 := fun q => cellB e3 q
      have c4 := cellB hAR.bb 0
      have c5 := cellB hAR.ib 0
      have f4 := frozenB hAR.bb 0
      have f5 := frozenB hAR.ib 0
      have nbi : bB ≠ iB := by omega
      have nmb : mB ≠ bB := by omega
      have nmi : mB ≠ iB := by omega
      have HAR := Lib.hid hAR
      have HOT := Lib.hid hOT
      have HPR := Lib.hid hP
      unfold mvC at c3
      obtain ⟨⟨⟨nd, fr, tt, tm⟩, hp⟩, hmem⟩ := m
      simp only at c3 c4 c5 HSN
      clear hAR hOT hgb e3 hbel hP
      gi_wp2
      have HSAME : Hid (stepA g (p1, p2) (⟨nd, fr, tt, tm⟩, hp) = (p1, p2) → ∀ T, ownPostG w5.heap.size (KpP w.heap.size Z (Z + 1)) (fun (pre : List {m : Mv // m ∈ movesL g x}) W => AR w w2 bB iB (foldA g (movesAll g (O.take k) ++ pre.map (·.1))) W ∧ w5.heap.size ≤ W.heap.size ∧ Oth3 bB iB w5 W) (fun _ _ _ => False) (pre ++ [⟨(⟨nd, fr, tt, tm⟩, hp), hmem⟩]) W .normal T W.drew) := Lib.hid (fun he T => by
        refine ⟨⟨Nat.le_refl _, fun k o hk ho hc' => ho⟩, KpP.of ⟨Nat.le_refl _, fun _ _ _ _ h => h⟩, ?_, hW5, ⟨HOT.out.1, HOT.out.2⟩⟩
        rw [HSN.out, he]
        exact ⟨HAR.out.bb, HAR.out.ib, ⟨HAR.out.oth.1, HAR.out.oth.2⟩, HAR.out.bel.trans (bdrew (Below.refl _ _))⟩)
      have HNEW : Hid (stepA g (p1, p2) (⟨nd, fr, tt, tm⟩, hp) = (tm, true) → ∀ T, ownPostG w5.heap.size (KpP w.heap.size Z (Z + 1)) (fun (pre : List {m : Mv // m ∈ movesL g x}) W => AR w w2 bB iB (foldA g (movesAll g (O.take k) ++ pre.map (·.1))) W ∧ w5.heap.size ≤ W.heap.size ∧ Oth3 bB iB w5 W) (fun _ _ _ => False) (pre ++ [⟨(⟨nd, fr, tt, tm⟩, hp), hmem⟩]) W .normal T ((W.drew.setCell ⟨bB, 0, none⟩ (.int .i64 tm)).setCell ⟨iB, 0, none⟩ (.bool true))) := Lib.hid (fun he T => by
        have hh : ∀ q, q ≠ bB → q ≠ iB → ∀ u v : Value, ((W.drew.setCell ⟨bB, 0, none⟩ u).setCell ⟨iB, 0, none⟩ v).heap[q]? = W.heap[q]? := fun q n1 n2 u v => (Below.heap_setCell _ _ _ _ n2).trans (Below.heap_setCell _ _ _ _ n1)
        refine ⟨⟨by simp, fun q o hq ho hc' => (hh q (by omega) (by omega) _ _).trans ho⟩, ⟨by simp, fun q cs e f hq hp => (hh q ?_ ?_ _ _).trans hq⟩, ?_, by simp; omega, ⟨by simp; exact HOT.out.1, fun q hq n1 n2 => (hh q n1 n2 _ _).trans (HOT.out.2 q hq n1 n2)⟩⟩
        · rintro rfl
          rw [HAR.out.bb] at hq
          injection hq with hq
          injection hq with h1 h2 h3
          subst h2
          rcases hp with h | h | h | h | h | h
          · omega
          · omega
          · omega
          all_goals exact absurd h (by decide)
        · rintro rfl
          rw [HAR.out.ib] at hq
          injection hq with hq
          injection hq with h1 h2 h3
          subst h2
          rcases hp with h | h | h | h | h | h
          · omega
          · omega
          · omega
          all_goals exact absurd h (by decide)
        · rw [HSN.out, he]
          have h1 := setB (w := W.drew) HAR.out.bb 0 (.int .i64 tm)
          have h2 := setB (w := W.drew.setCell ⟨bB, 0, none⟩ (.int .i64 tm)) (g := iB) ((Below.heap_setCell _ _ _ _ (Ne.symm nbi)).trans HAR.out.ib) 0 (.bool true)
          exact ⟨(Below.heap_setCell _ _ _ _ nbi).trans h1, h2, ⟨by simp; exact HAR.out.oth.1, fun q hq n1 n2 => (hh q n1 n2 _ _).trans (HAR.out.oth.2 q hq n1 n2)⟩, HAR.out.bel.trans (bset (bset (bdrew (Below.refl _ _)) (by show w.heap.size ≤ bB; omega)) (by show w.heap.size ≤ iB; omega))⟩)
      by_cases y0 : nd = g.dst
      case neg =>
        have dy : (nd == g.dst) = false := by simpa using y0
        refine wpIn_region_plan (fun V => V.cell? ⟨w.heap.size, 0, none⟩ = some (.pointer (some ⟨gB, 0, none⟩)) ∧ (∀ q, V.cell? ⟨gB, q, none⟩ = (#[uq, uc, ub, uh, .int .i64 g.src, .int .i64 g.dst, .int .i64 g.sz, .int .i64 g.rd, .int .i64 g.D, .int .i64 g.pr, .bool g.cu, ug, ur, ud])[q]?) ∧ (∀ q, V.cell? ⟨mB, q, none⟩ = (#[.int .i64 nd, .int .i64 fr, .int .i64 tt, .int .i64 tm, .int .i64 hp.1, .int .i64 hp.2.1, .int .i64 hp.2.2.1, .int .i64 hp.2.2.2])[q]?) ∧ V.cell? ⟨bB, 0, none⟩ = some (.int .i64 p1) ∧ V.cell? ⟨iB, 0, none⟩ = some (.bool p2)) [0, 0, 1, 1, 0, 0, 0, 1, 0, 0, 1, 0, 0, 0, 0, 1, 1, 0, 0, 0] [0, 1, 2, 3, 4, 5, 6, 7, 8, 9, 10, 11, 12, 13, 14, 15, 16, 17, 18, 19] (by kernel_rfl) (by kernel_rfl) ?_ ?_
        · exact ⟨c1, c2, c3, c4, c5⟩
        (iterate 10 (refine plan_heldI rfl (by decide) (by rfl) (fun w1 => by rfl) (fun w1 hS => by (try (have hS := hS rfl; obtain hS := hS; repeat (obtain ⟨_, hS⟩ := hS))); go_simp; rfl) ?_; simp only [Act.put, List.setIfInBounds_toArray, List.set_cons_zero, List.set_cons_succ]))
        (iterate 9 (refine plan_skipI rfl (by decide) (by rfl) (fun w => by rfl) ?_; simp only [Act.put, List.setIfInBounds_toArray, List.set_cons_zero, List.set_cons_succ]))
        (iterate 1 (refine plan_heldI rfl (by decide) (by rfl) (fun w1 => by rfl) (fun w1 hS => by (try (have hS := hS rfl; obtain hS := hS; repeat (obtain ⟨_, hS⟩ := hS))); go_simp; rfl) ?_; simp only [Act.put, List.setIfInBounds_toArray, List.set_cons_zero, List.set_cons_succ]))
        refine plan_doneI ?_
        gi_wp2
        exact HSAME.out (if_neg (fun h => y0 h.1)) _
      have dy : (nd == g.dst) = true := by simpa using y0
      have Y0 := Lib.hid y0
      clear y0
      cases p2 with
      | false =>
        refine wpIn_region_plan (fun V => V.cell? ⟨w.heap.size, 0, none⟩ = some (.pointer (some ⟨gB, 0, none⟩)) ∧ (∀ q, V.cell? ⟨gB, q, none⟩ = (#[uq, uc, ub, uh, .int .i64 g.src, .int .i64 g.dst, .int .i64 g.sz, .int .i64 g.rd, .int .i64 g.D, .int .i64 g.pr, .bool g.cu, ug, ur, ud])[q]?) ∧ (∀ q, V.cell? ⟨mB, q, none⟩ = (#[.int .i64 nd, .int .i64 fr, .int .i64 tt, .int .i64 tm, .int .i64 hp.1, .int .i64 hp.2.1, .int .i64 hp.2.2.1, .int .i64 hp.2.2.2])[q]?) ∧ V.cell? ⟨bB, 0, none⟩ = some (.int .i64 p1) ∧ V.cell? ⟨iB, 0, none⟩ = some (.bool false)) [0, 0, 1, 1, 0, 0, 0, 1, 0, 0, 1, 0, 0, 0, 0, 1, 1, 0, 0, 0] [0, 1, 2, 3, 4, 5, 6, 7, 8, 9, 10, 11, 12, 13, 14, 15, 16, 17, 18, 19] (by kernel_rfl) (by kernel_rfl) ?_ ?_
        · exact ⟨c1, c2, c3, c4, c5⟩
        (iterate 13 (refine plan_heldI rfl (by decide) (by rfl) (fun w1 => by rfl) (fun w1 hS => by (try (have hS := hS rfl; obtain hS := hS; repeat (obtain ⟨_, hS⟩ := hS))); go_simp; rfl) ?_; simp only [Act.put, List.setIfInBounds_toArray, List.set_cons_zero, List.set_cons_succ]))
        (iterate 5 (refine plan_skipI rfl (by decide) (by rfl) (fun w => by rfl) ?_; simp only [Act.put, List.setIfInBounds_toArray, List.set_cons_zero, List.set_cons_succ]))
        (iterate 2 (refine plan_heldI rfl (by decide) (by rfl) (fun w1 => by rfl) (fun w1 hS => by (try (have hS := hS rfl; obtain hS := hS; repeat (obtain ⟨_, hS⟩ := hS))); go_simp; rfl) ?_; simp only [Act.put, List.setIfInBounds_toArray, List.set_cons_zero, List.set_cons_succ]))
        refine plan_doneI ?_
        gi_wp2
        exact HNEW.out (if_pos ⟨Y0.out, .inl rfl⟩) _
      | true =>
        by_cases y1 : tm < p1
        · have d1 : decide (tm < p1) = true := decide_eq_true y1
          refine wpIn_region_plan (fun V => V.cell? ⟨w.heap.size, 0, none⟩ = some (.pointer (some ⟨gB, 0, none⟩)) ∧ (∀ q, V.cell? ⟨gB, q, none⟩ = (#[uq, uc, ub, uh, .int .i64 g.src, .int .i64 g.dst, .int .i64 g.sz, .int .i64 g.rd, .int .i64 g.D, .int .i64 g.pr, .bool g.cu, ug, ur, ud])[q]?) ∧ (∀ q, V.cell? ⟨mB, q, none⟩ = (#[.int .i64 nd, .int .i64 fr, .int .i64 tt, .int .i64 tm, .int .i64 hp.1, .int .i64 hp.2.1, .int .i64 hp.2.2.1, .int .i64 hp.2.2.2])[q]?) ∧ V.cell? ⟨bB, 0, none⟩ = some (.int .i64 p1) ∧ V.cell? ⟨iB, 0, none⟩ = some (.bool true)) [0, 0, 1, 1, 0, 0, 0, 1, 0, 0, 1, 0, 0, 0, 0, 1, 1, 0, 0, 0] [0, 1, 2, 3, 4, 5, 6, 7, 8, 9, 10, 11, 12, 13, 14, 15, 16, 17, 18, 19] (by kernel_rfl) (by kernel_rfl) ?_ ?_
          · exact ⟨c1, c2, c3, c4, c5⟩
          (iterate 20 (refine plan_heldI rfl (by decide) (by rfl) (fun w1 => by rfl) (fun w1 hS => by (try (have hS := hS rfl; obtain hS := hS; repeat (obtain ⟨_, hS⟩ := hS))); go_simp; rfl) ?_; simp only [Act.put, List.setIfInBounds_toArray, List.set_cons_zero, List.set_cons_succ]))
          refine plan_doneI ?_
          gi_wp2
          exact HNEW.out (if_pos ⟨Y0.out, .inr y1⟩) _
        · have d1 : decide (tm < p1) = false := decide_eq_false y1
          refine wpIn_region_plan (fun V => V.cell? ⟨w.heap.size, 0, none⟩ = some (.pointer (some ⟨gB, 0, none⟩)) ∧ (∀ q, V.cell? ⟨gB, q, none⟩ = (#[uq, uc, ub, uh, .int .i64 g.src, .int .i64 g.dst, .int .i64 g.sz, .int .i64 g.rd, .int .i64 g.D, .int .i64 g.pr, .bool g.cu, ug, ur, ud])[q]?) ∧ (∀ q, V.cell? ⟨mB, q, none⟩ = (#[.int .i64 nd, .int .i64 fr, .int .i64 tt, .int .i64 tm, .int .i64 hp.1, .int .i64 hp.2.1, .int .i64 hp.2.2.1, .int .i64 hp.2.2.2])[q]?) ∧ V.cell? ⟨bB, 0, none⟩ = some (.int .i64 p1) ∧ V.cell? ⟨iB, 0, none⟩ = some (.bool true)) [0, 0, 1, 1, 0, 0, 0, 1, 0, 0, 1, 0, 0, 0, 0, 1, 1, 0, 0, 0] [0, 1, 2, 3, 4, 5, 6, 7, 8, 9, 10, 11, 12, 13, 14, 15, 16, 17, 18, 19] (by kernel_rfl) (by kernel_rfl) ?_ ?_
          · exact ⟨c1, c2, c3, c4, c5⟩
          (iterate 20 (refine plan_heldI rfl (by decide) (by rfl) (fun w1 => by rfl) (fun w1 hS => by (try (have hS := hS rfl; obtain hS := hS; repeat (obtain ⟨_, hS⟩ := hS))); go_simp; rfl) ?_; simp only [Act.put, List.setIfInBounds_toArray, List.set_cons_zero, List.set_cons_succ]))
          refine plan_doneI ?_
          gi_wp2
          exact HSAME.out (if_neg (fun h => h.2.elim (fun h => Bool.noConfusion h) (fun h => absurd (show tm < p1 from h) (by omega)))) _
    case done =>
      rintro D ys W hD hys ⟨hAR, hW5, hOT⟩ hK'
      rw [hys] at hAR
      have ek : movesAll g (O.take k) ++ movesL g x = movesAll g (O.take (k + 1)) := by rw [List.take_add_one, HX.out, ← movesAll_snoc]; rfl
      rw [ek] at hAR
      have hm : MarkOK w2.heap.size W (mark D :: ds) := by
        obtain ⟨Ds, rfl, hnd, hds⟩ := HM5.out
        have hold : ∀ D' ∈ Ds, D' < w5.heap.size := fun D' hD' => (Array.getElem?_eq_some_iff.1 (hds D' hD').2).1
        refine ⟨D :: Ds, rfl, List.nodup_cons.2 ⟨fun hm => ?_, hnd⟩, fun D' hD' => ?_⟩
        · have := hold D hm; omega
        · rcases List.mem_cons.1 hD' with rfl | hD'
          · exact ⟨by omega, hK'⟩
          · have h1 := hds D' hD'
            exact ⟨h1.1, (hOT.2 D' (hold D' hD') (by have := h1.1; omega) (by have := h1.1; omega)).trans h1.2⟩
      have HAR := Lib.hid hAR
      have HMN := Lib.hid hm
      clear hAR hOT hm hys hK' ek
      go_wp2
      refine ⟨⟨k + 1, mark D :: ds, .pointer (some ⟨xB, 0, none⟩), .bool true, _, _, _, _, _, _, rfl, by omega, HAR.out, HMN.out⟩, ?_⟩
      simp [intOf]; omega
    case stop =>
      rintro D c' pre W _ _ h _
      exact h.elim
  · obtain rfl : k = O.length := by omega
    have cb := cellB HA.out.bb 0
    have ci := cellB HA.out.ib 0
    have HE : Hid (foldA g (movesAll g (O.take O.length)) = arrL g O) := Lib.hid (by rw [List.take_length]; rfl)
    obtain ⟨Ds, rfl, hnd, hds⟩ := HM.out
    have HD := Lib.hid (And.intro hnd hds)
    clear hnd hds
    go_upto_region 10 with fail
    go_quiet (fail)
    go_wp2
    refine leave_marks Ds _ _ HD.out.1 HD.out.2 ⟨rfl, rfl, rfl, Nat.le_refl _, fun q _ => ⟨fun _ _ _ _ => rfl, fun _ => rfl⟩⟩ (fun w' hp => ?_)
    have hdn : Below wr.heap.size wr (wr.drewN nq) := bdrewN (Below.refl _ _) _
    have hbw := HA.out.bel.size
    have hdz := hdn.size
    exact ⟨_, results_tmp2 rfl _ _ _, rfl, (HA.out.bel.trans (hdn.mono hbw)).trans ⟨hp.1, hp.2.1, hp.2.2.1, hp.2.2.2.1, fun k hk => (hp.2.2.2.2 k (by omega)).2 (by omega)⟩⟩
end Go.Proofs.YtkokiahmgmeokaaGreat
