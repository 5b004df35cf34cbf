/- Joined by port.py: XSi -/
import Derived.Deep.AppendLies
import Derived.Laws.OwnMore
import Derived.Test.YtmknchdciblfjaaGreatSh
import Derived.Test.YtmknchdciblfjaaGreatSez
import Derived.Test.YtmknchdciblfjaaGreatJa
import Derived.Test.YtmknchdciblfjaaGreatJb
import Derived.Test.YtmknchdciblfjaaGreatJd
import Derived.Test.YtmknchdciblfjaaGreatJe
import Derived.Test.YtmknchdciblfjaaGreatJh
import Derived.Test.YtmknchdciblfjaaGreatJo
import Derived.Test.YtmknchdciblfjaaGreatJs
import Derived.Test.YtmknchdciblfjaaGreatJp
import Derived.Test.YtmknchdciblfjaaGreatKaz
import Derived.Test.YtmknchdciblfjaaGreatJv
import Derived.Test.YtmknchdciblfjaaGreatJw
import Derived.Test.YtmknchdciblfjaaGreatKe
import Derived.Test.YtmknchdciblfjaaGreatSb
import Derived.Test.YtmknchdciblfjaaGreatSz
set_option linter.unusedVariables false
set_option linter.unusedSimpArgs false
/-! XSi -/
namespace Go.Proofs.YtmknchdciblfjaaGreat
open Go Go.RowKit Iv
attribute [local go_sem] Oper.semAt_some
attribute [local go_sem] B_getElem B_size B_app B_extract B_get B_toList
open Go.Shelf
theorem points_in (F : Fence) (n : Nat) (h : F.fn 203) (hro : F.round = none) (a1 a2 : Option Addr) (n1 c1 n2 c2 : Nat) (w : World) :
    CallsIn F n Tryz.prog 203 #[.slice a1 n1 c1, .slice a2 n2 c2] w fun e W' => e = .returned (.func (.func 247) #[] #[.pointer (some ⟨w.heap.size, 0, none⟩), .pointer (some ⟨w.heap.size + 1, 0, none⟩)]) ∧ W' = (w.alloc (.cells #[.slice a1 n1 c1] 79 )).alloc (.cells #[.slice a2 n2 c2] 79 ) := by
  refine callsIn_of_wp Tryz.func203 rfl h ?_ hro
  simp only [Tryz.ntmps203, List.size_toArray, List.length_cons, List.length_nil, Nat.reduceAdd, Nat.reduceSub, Array.replicate_succ, Array.replicate_zero, List.push_toArray, List.append_toArray, List.nil_append, List.cons_append]
  gi_wp2
  refine bodyPost_ret (results_tmp rfl _ _ _) rfl ?_
  exact ⟨rfl, rfl⟩
theorem SdSteps.same {A B : World} (h : SdSteps A B) : B.os = A.os ∧ B.tape = A.tape ∧ B.output = A.output := by
  induction h with
  | refl => exact ⟨rfl, rfl, rfl⟩
  | low _ hb ih => exact ⟨hb.os.trans ih.1, hb.tape.trans ih.2.1, hb.output.trans ih.2.2⟩
  | @set B' sb q u cs _ hc ih =>
    have hb : Below 0 B' (B'.setCell ⟨sb, q, none⟩ u) := (Below.refl 0 B').setCell (p := ⟨sb, q, none⟩) (Nat.zero_le _) u
    exact ⟨hb.os.trans ih.1, hb.tape.trans ih.2.1, hb.output.trans ih.2.2⟩
theorem StQ.below {n : Nat} {A C : World} (h : StQ n A C) : Below n A C := ⟨h.1.same.1, h.1.same.2.1, h.1.same.2.2, h.1.size, h.2⟩
theorem qkeepsFrom_set {A : World} {n p q : Nat} (u : Value) {cs : Array Value} {e : TypeId} (h : A.heap[p]? = some (.cells cs e (0, 0))) : KeepsFrom n A (A.setCell ⟨p, q, none⟩ u) := ⟨by simp, fun k o hk hk2 hc => (heap_setCell_other A ⟨p, q, none⟩ k u (by
  intro e
  have e : k = p := e
  subst e
  rw [h] at hk2; cases hk2; cases hc)).trans hk2⟩
theorem keepsFrom_st {n m : Nat} {A C : World} (h : StQ n A C) : KeepsFrom m A C := ⟨h.1.size, fun k o _ hk ho => h.1.keep k o hk fun cs f e => by subst e; cases ho⟩
theorem KpQ.refl (n : Nat) (A : World) : KpQ n A A := ⟨Nat.le_refl _, fun _ _ => rfl, fun _ _ _ _ => rfl⟩
theorem KpQ.trans {n : Nat} {A B C : World} (h : KpQ n A B) (k : KpQ n B C) : KpQ n A C :=
  ⟨Nat.le_trans h.1 k.1, fun q hq => (k.2.1 q hq).trans (h.2.1 q hq), fun q cs f hq => (k.2.2 q cs f ((h.2.2 q cs f hq).trans hq)).trans (h.2.2 q cs f hq)⟩
theorem KpQ.turned {n m : Nat} {A C : World} (h : Turned m A C) (hn : n ≤ m) : KpQ n A C := by
  obtain ⟨l, o, o', hl, ho, hc, _, rfl⟩ := h
  refine ⟨by simp [World.putObj], fun q hq => World.putObj_heap_other (by omega), fun q cs f hq => World.putObj_heap_other (fun e => ?_)⟩
  subst e
  rw [hq] at ho; cases ho; cases hc
theorem KpQ.below {n : Nat} {A C : World} (h : Below A.heap.size A C) (hn : n ≤ A.heap.size) : KpQ n A C := ⟨h.size, fun q hq => h.block q (by omega), fun q cs f hq => h.block q (Array.getElem?_eq_some_iff.1 hq).1⟩
theorem KpQ.set {n p q : Nat} {A : World} (u : Value) {cs : Array Value} {e : TypeId} (h : A.heap[p]? = some (.cells cs e (0, 0))) (he : e ≠ 348 ) (hn : n ≤ p) : KpQ n A (A.setCell ⟨p, q, none⟩ u) :=
  ⟨by simp, fun k hk => heap_setCell_other A ⟨p, q, none⟩ k u (by show k ≠ p; omega), fun k cs' f hk => heap_setCell_other A ⟨p, q, none⟩ k u (by
    intro e'
    have e' : k = p := e'
    subst e'
    rw [h] at hk; injection hk with hk; injection hk with _ hk _; exact he hk)⟩
/-- what lies in the list out, with the interval that is not closed yet -/
def outS (cs : CSt) : List Sp := cs.1 ++ (match cs.2 with
  | some s => [(s, 0)]
  | none => [])
def foldQ (f : Bool → Bool → Bool) (pre : List Pt) : CSt := pre.foldl (stepC f) ([], none)
theorem foldQ_snoc (f : Bool → Bool → Bool) (pre : List Pt) (x : Pt) : foldQ f (pre ++ [x]) = stepC f (foldQ f pre) x := by unfold foldQ; rw [List.foldl_append]; rfl
theorem foldQ_len (f : Bool → Bool → Bool) (pre : List Pt) : (outS (foldQ f pre)).length ≤ pre.length := by
  have h : ∀ (l : List Pt) (st : CSt), (outS (l.foldl (stepC f) st)).length ≤ (outS st).length + l.length := by
    intro l
    induction l with
    | nil => intro st; simp
    | cons x r ih =>
      intro st
      rw [List.foldl_cons]
      refine Nat.le_trans (ih _) ?_
      have : (outS (stepC f st x)).length ≤ (outS st).length + 1 := by
        obtain ⟨L, s⟩ := st
        unfold stepC outS
        cases s <;> cases f x.2.1 x.2.2 <;> simp
      simp; omega
  have := h pre ([], none)
  rw [show (outS (([], none) : CSt)).length = 0 from rfl, Nat.zero_add] at this
  exact this
/-- what combine's loop keeps -/
structure CmI (f : Bool → Bool → Bool) (w : World) (fv : Value) (Z : Nat) (pre : List Pt) (W : World) : Prop where
  out : ∃ vo, Boxed W Z 79 vo ∧ W.ownsRow w.heap.size 154 2 vo (outS (foldQ f pre)).length (sps (outS (foldQ f pre)))
  ins : Boxed W (Z + 1) 4 (.bool (foldQ f pre).2.isSome)
  fn : Boxed W w.heap.size 244 fv
  below : Below w.heap.size w W
theorem CmI.kept {f : Bool → Bool → Bool} {w : World} {fv : Value} {Z : Nat} {pre : List Pt} {A C : World} (h : CmI f w fv Z pre A) (k : ∀ (q : Nat) (cs : Array Value) (e : TypeId) (g : Nat × Nat), e ≠ 348 → A.heap[q]? = some (Obj.cells cs e g) → C.heap[q]? = A.heap[q]?) (hb : Below w.heap.size A C) : CmI f w fv Z pre C := by
  obtain ⟨vo, b1, b2⟩ := h.out
  refine ⟨⟨vo, (k _ _ _ _ (by decide) b1).trans b1, own_kept1 b2 fun q hq => ?_⟩, (k _ _ _ _ (by decide) h.ins).trans h.ins, (k _ _ _ _ (by decide) h.fn).trans h.fn, h.below.trans hb⟩
  obtain ⟨cur, e⟩ := own_at b2 hq
  exact k _ _ _ _ (by decide) e
theorem CmI.low {f : Bool → Bool → Bool} {w : World} {fv : Value} {Z : Nat} {pre : List Pt} {A C : World} (h : CmI f w fv Z pre A) (k : Below A.heap.size A C) : CmI f w fv Z pre C := h.kept (fun q cs e g _ hq => k.block q (Array.getElem?_eq_some_iff.1 hq).1) (k.mono h.below.size)
theorem CmI.same {f : Bool → Bool → Bool} {w W : World} {fv vo : Value} {Z : Nat} {pre' : List Pt} {cs : CSt} {i : Bool} (hn : foldQ f pre' = cs) (bo : Boxed W Z 79 vo) (ow : W.ownsRow w.heap.size 154 2 vo (outS cs).length (sps (outS cs))) (bi : Boxed W (Z + 1) 4 (.bool i)) (bf : Boxed W w.heap.size 244 fv) (bl : Below w.heap.size w W) (hz : w.heap.size ≤ Z) :
    CmI f w fv Z pre' (W.setCell ⟨Z + 1, 0, none⟩ (.bool cs.2.isSome)) := by
  have hne : ∀ q, q ≠ Z + 1 → (W.setCell ⟨Z + 1, 0, none⟩ (.bool cs.2.isSome)).heap[q]? = W.heap[q]? := fun q h => heap_setCell_other W ⟨Z + 1, 0, none⟩ q _ h
  refine ⟨⟨vo, (hne Z (by omega)).trans bo, ?_⟩, ?_, (hne _ (by omega)).trans bf, bset bl (by show w.heap.size ≤ Z + 1; omega)⟩
  · rw [hn]
    exact own_kept1 ow fun q hq => hne q (fun e => by
      subst e
      exact bi.not_row (by decide) ow hq.symm)
  · rw [hn]
    exact Boxed.set _ bi
theorem CmI.grow {f : Bool → Bool → Bool} {w W : World} {fv vo v5 : Value} {Z : Nat} {pre' : List Pt} {L : List Sp} {t : Int} {i : Bool} (hn : foldQ f pre' = (L, some t)) (bo : Boxed W Z 79 vo) (ow : W.ownsRow w.heap.size 154 2 v5 (L.length + 1) (sps L ++ spC (t, 0))) (bi : Boxed W (Z + 1) 4 (.bool i)) (bf : Boxed W w.heap.size 244 fv) (bl : Below w.heap.size w W) (hz : w.heap.size < Z) :
    CmI f w fv Z pre' ((W.setCell ⟨Z, 0, none⟩ v5).setCell ⟨Z + 1, 0, none⟩ (.bool true)) := by
  have hne : ∀ q, q ≠ Z → (W.setCell ⟨Z, 0, none⟩ v5).heap[q]? = W.heap[q]? := fun q h => heap_setCell_other W ⟨Z, 0, none⟩ q _ h
  refine CmI.same hn (bo.set v5) ?_ ((hne _ (by omega)).trans bi) ((hne _ (by omega)).trans bf) (bset bl (by show w.heap.size ≤ Z; omega)) (by omega)
  have e : outS (L, some t) = L ++ [(t, 0)] := rfl
  rw [e, sps_append, List.length_append]
  exact own_kept1 (by simpa [sps] using ow) fun q hq => hne q (fun e => by
    subst e
    exact bo.not_row (by decide) ow hq.symm)
theorem sps_to (L : List Sp) (s t : Int) : (sps (L ++ [(s, 0)])).set (L.length * 2 + 1) (.int .i64 t) = sps (L ++ [(s, t)]) := by
  rw [sps_append, sps_append, List.set_append_right _ _ (by rw [sps_len]; omega), sps_len, show L.length * 2 + 1 - L.length * 2 = 1 by omega]
  rfl
theorem CmI.close {f : Bool → Bool → Bool} {w W : World} {fv : Value} {Z gb c : Nat} {pre' : List Pt} {L : List Sp} {s t : Int} {i : Bool} (hn : foldQ f pre' = (L ++ [(s, t)], none)) (bo : Boxed W Z 79 (.slice (some ⟨gb, 0, none⟩) (L.length + 1) c)) (ow : W.ownsRow w.heap.size 154 2 (.slice (some ⟨gb, 0, none⟩) (L.length + 1) c) (L.length + 1) (sps (L ++ [(s, 0)]))) (bi : Boxed W (Z + 1) 4 (.bool i)) (bf : Boxed W w.heap.size 244 fv) (bl : Below w.heap.size w W) (hz : w.heap.size < Z) :
    CmI f w fv Z pre' ((W.setCell ⟨gb, L.length * 2 + 1, none⟩ (.int .i64 t)).setCell ⟨Z + 1, 0, none⟩ (.bool false)) := by
  have hne : ∀ q, q ≠ gb → (W.setCell ⟨gb, L.length * 2 + 1, none⟩ (.int .i64 t)).heap[q]? = W.heap[q]? := fun q h => heap_setCell_other W ⟨gb, _, none⟩ q _ h
  have h1 : Z ≠ gb := fun e => bo.not_row (by decide) ow (by rw [e]; rfl)
  have h2 : Z + 1 ≠ gb := fun e => bi.not_row (by decide) ow (by rw [e]; rfl)
  have h3 : w.heap.size ≠ gb := fun e => bf.not_row (by decide) ow (by rw [e]; rfl)
  have hgb := (ow.lt gb rfl).1
  refine CmI.same hn ((hne _ h1).trans bo) ?_ ((hne _ h2).trans bi) ((hne _ h3).trans bf) (bset bl hgb) (by omega)
  have e : outS (L ++ [(s, t)], none) = L ++ [(s, t)] := by simp [outS]
  rw [e, ← sps_to, List.length_append]
  exact (ow.stored (L.length * 2 + 1) (.int .i64 t)).1
theorem KpQ.grown {n : Nat} {A C : World} {row : Option Nat} (hg : A.grownBy C row) (hr : ∀ q, row = some q → n ≤ q ∧ ∃ cur, A.heap[q]? = some (.cells cur 154 (0, 0))) (hn : n ≤ A.heap.size) : KpQ n A C :=
  ⟨hg.size, fun q hq => hg.block q (by omega) (fun e => by have := (hr q e.symm).1; omega), fun q cs f hq => hg.block q (Array.getElem?_eq_some_iff.1 hq).1 (fun e => by
    obtain ⟨_, cur, h⟩ := hr q e.symm
    rw [h] at hq; injection hq with hq; injection hq with _ hq _; revert hq; decide)⟩
theorem keepsFrom_grown {m : Nat} {A C : World} {row : Option Nat} (hg : A.grownBy C row) (hr : ∀ q, row = some q → ∃ cur, A.heap[q]? = some (.cells cur 154 (0, 0))) : KeepsFrom m A C :=
  ⟨hg.size, fun k o _ hk ho => (hg.block k (Array.getElem?_eq_some_iff.1 hk).1 (fun e => by
    obtain ⟨cur, h⟩ := hr k e.symm
    rw [h] at hk; cases hk; cases ho)).trans hk⟩
/-- what combine answers -/
def combS (f : Bool → Bool → Bool) (a b : List Sp) : List Sp × Int := if chkSp a ≠ 0 ∨ chkSp b ≠ 0 then ([], 1) else limS (cmb f a b)
def FunB (f : Bool → Bool → Bool) (g : FuncId) : Prop := (∀ args W, (callFunc g args).run Tryz.prog W = .ok (.enter g args) W) ∧ ∀ p q W, Calls Tryz.prog g #[.bool p, .bool q] W fun e W' => e = .returned (.bool (f p q)) ∧ Below W.heap.size W W'
set_option maxRecDepth 100000 in
set_option maxHeartbeats 16000000 in
theorem comb_bad (f : Bool → Bool → Bool) (g : FuncId) (a b : List Sp) (u v : Value) (w : World) (ha : RSps w w.heap.size u a) (hb : RSps w w.heap.size v b) (hc : chkSp a ≠ 0 ∨ chkSp b ≠ 0) :
    Calls Tryz.prog 152 #[u, v, .func (.func g) #[] #[]] w (SpsPostF (combS f a b) w) := by
  have HA := Lib.hid ha
  have HB := Lib.hid hb
  obtain ⟨a1, c1, rfl⟩ : ∃ a1 c1, u = .slice a1 a.length c1 := by obtain ⟨a1, c1, h, _⟩ := ha; exact ⟨a1, c1, h⟩
  obtain ⟨a2, c2, rfl⟩ : ∃ a2 c2, v = .slice a2 b.length c2 := by obtain ⟨a1, c1, h, _⟩ := hb; exact ⟨a1, c1, h⟩
  rw [show combS f a b = ([], 1) from if_pos hc]
  obtain ⟨E1, hE1⟩ : ∃ q, chkSp a = q := ⟨_, rfl⟩
  obtain ⟨E2, hE2⟩ : ∃ q, chkSp b = q := ⟨_, rfl⟩
  have HE1 := Lib.hid hE1
  have HE2 := Lib.hid hE2
  rw [hE1, hE2] at hc
  clear hE1 hE2 ha hb
  by_cases z : E1 = 0
  · subst z
    have d2 : (E2 != 0) = true := by rw [bne_iff_ne]; simpa using hc
    clear hc
    go_enter Tryz.func152, Tryz.ntmps152
    go_wp2_with fail
    refine (chkSp_any a _ _ (HA.out.below (C := w.heap.size) belowA (Nat.le_refl _) (by simp))).mono ?_
    rw [HE1.out]
    rintro e w1 ⟨rfl, hb1⟩
    have hB1 : Below w.heap.size w w1 := btrans0 (balloc0 (Below.refl _ _)) hb1
    go_wp2_with fail
    refine (chkSp_any b _ _ (HB.out.below hB1 (Nat.le_refl _) hB1.size)).mono ?_
    rw [HE2.out]
    rintro e w2 ⟨rfl, hb2⟩
    go_wp2
    go_ret2
    exact ⟨_, rfl, RSps.nil _ _, rfrom_nil _ _ _, belowA⟩
  · have d1 : (E1 != 0) = true := by rw [bne_iff_ne]; exact z
    clear hc z
    go_enter Tryz.func152, Tryz.ntmps152
    go_wp2_with fail
    refine (chkSp_any a _ _ (HA.out.below (C := w.heap.size) belowA (Nat.le_refl _) (by simp))).mono ?_
    rw [HE1.out]
    rintro e w1 ⟨rfl, hb1⟩
    go_wp2
    go_ret2
    exact ⟨_, rfl, RSps.nil _ _, rfrom_nil _ _ _, belowA⟩
set_option maxRecDepth 100000 in
set_option maxHeartbeats 16000000 in
theorem comb_good (f : Bool → Bool → Bool) (hf : f false false = false) (g : FuncId) (hg : FunB f g) (a b : List Sp) (u v : Value) (w : World) (ha : RSps w w.heap.size u a) (hb : RSps w w.heap.size v b) (h1 : chkSp a = 0) (h2 : chkSp b = 0) :
    Calls Tryz.prog 152 #[u, v, .func (.func g) #[] #[]] w (SpsPostF (combS f a b) w) := by
  have HA := Lib.hid ha
  have HB := Lib.hid hb
  obtain ⟨a1, c1, rfl⟩ : ∃ a1 c1, u = .slice a1 a.length c1 := by obtain ⟨a1, c1, h, _⟩ := ha; exact ⟨a1, c1, h⟩
  obtain ⟨a2, c2, rfl⟩ : ∃ a2 c2, v = .slice a2 b.length c2 := by obtain ⟨a1, c1, h, _⟩ := hb; exact ⟨a1, c1, h⟩
  rw [show combS f a b = limS (cmb f a b) from if_neg (by simp [h1, h2])]
  obtain ⟨la, na, _⟩ := chkSp_zero h1
  obtain ⟨lb, nb, _⟩ := chkSp_zero h2
  have HSP := Lib.hid (cmb_spec f hf a b _ na nb).1
  have H1 := Lib.hid h1
  have H2 := Lib.hid h2
  have HG := Lib.hid hg
  have hgr := hg.1
  obtain ⟨i0, hin, hz0, hz1, hz2⟩ := info_parts infoSpan
  clear ha hb h1 h2 hg na nb
  refine (callsIn_wide (n := 12)).1 ?_
  refine callsIn_of_wp_marks Tryz.func152 rfl trivial ?_ rfl
  simp only [Tryz.ntmps152, List.size_toArray, List.length_cons, List.length_nil, Nat.reduceAdd, Nat.reduceSub, Array.replicate_succ, Array.replicate_zero, List.push_toArray, List.append_toArray, List.nil_append, List.cons_append]
  gi_wp2_with fail
  refine ⟨trivial, callsIn_wide.2 ((chkSp_any a _ _ (HA.out.below (C := w.heap.size) belowA (Nat.le_refl _) (by simp))).mono ?_)⟩
  rw [H1.out]
  rintro e w1 ⟨rfl, hb1⟩
  have hB1 : Below w.heap.size w w1 := btrans0 (balloc0 (Below.refl _ _)) hb1
  have z1 : w.heap.size < w1.heap.size := by have := hb1.size; (try simp at this); omega
  have f1 : w1.heap[w.heap.size]? = some (.cells #[.func (.func g) #[] #[]] 244 (0, 0)) := (hb1.block _ (by simp)).trans heap_new
  have HF1 := Lib.hid f1
  clear hb1 f1
  gi_wp2_with fail
  refine ⟨trivial, callsIn_wide.2 ((chkSp_any b _ _ (HB.out.below hB1 (Nat.le_refl _) hB1.size)).mono ?_)⟩
  rw [H2.out]
  rintro e w2 ⟨rfl, hb2⟩
  have hB2 : Below w.heap.size w w2 := btrans0 hB1 hb2
  have z2 : w.heap.size < w2.heap.size := by have := hb2.size; omega
  have HF2 : Hid (w2.heap[w.heap.size]? = some (.cells #[.func (.func g) #[] #[]] 244 (0, 0))) := Lib.hid ((hb2.block _ z1).trans HF1.out)
  clear hb2 hB1 HF1 z1
  gi_wp2_with fail
  refine ⟨trivial, (points_in Fence.wide _ trivial rfl _ _ _ _ _ _ _).mono ?_⟩
  rintro e w3 ⟨rfl, rfl⟩
  gi_wp2
  obtain ⟨Z, hZ⟩ : ∃ q, w2.heap.size = q := ⟨_, rfl⟩
  obtain ⟨W0, hW0⟩ : ∃ q, (((w2.alloc (.cells #[.slice none 0 0] 79 )).alloc (.cells #[.bool false] 4)).alloc (.cells #[.slice a1 a.length c1] 79 )).alloc (.cells #[.slice a2 b.length c2] 79 ) = q := ⟨_, rfl⟩
  have hs0 : W0.heap.size = Z + 4 := by rw [← hW0, ← hZ]; simp
  have hb0 : Below w2.heap.size w2 W0 := by rw [← hW0]; exact belowA
  have ob : Boxed W0 Z 79 (.slice none 0 0) := by rw [← hW0, ← hZ]; exact (((Boxed.new _ _ _).alloc _).alloc _).alloc _
  have ib : Boxed W0 (Z + 1) 4 (.bool false) := by rw [← hW0, ← hZ]; have h := ((Boxed.new (w2.alloc (.cells #[.slice none 0 0] 79 )) 4 (.bool false)).alloc (.cells #[.slice a1 a.length c1] 79 )).alloc (.cells #[.slice a2 b.length c2] 79 ); simp only [World.size_alloc] at h; exact h
  have ba : W0.heap[Z + 1 + 1]? = some (.cells #[.slice a1 a.length c1] 79 (0, 0)) := by
    rw [← hW0, ← hZ]
    have h := (Boxed.new ((w2.alloc (.cells #[.slice none 0 0] 79 )).alloc (.cells #[.bool false] 4)) 79 (.slice a1 a.length c1)).alloc (.cells #[.slice a2 b.length c2] 79 )
    simp only [World.size_alloc] at h
    exact h
  have bb : W0.heap[Z + 1 + 1 + 1]? = some (.cells #[.slice a2 b.length c2] 79 (0, 0)) := by
    rw [← hW0, ← hZ]
    have h := Boxed.new (((w2.alloc (.cells #[.slice none 0 0] 79 )).alloc (.cells #[.bool false] 4)).alloc (.cells #[.slice a1 a.length c1] 79 )) 79 (.slice a2 b.length c2)
    simp only [World.size_alloc] at h
    exact h
  rw [hZ, hW0]
  rw [hZ] at z2 hb0
  have hB0 : Below w.heap.size w W0 := hB2.trans (hb0.mono (by omega))
  have hle : w.heap.size ≤ W0.heap.size := hB0.size
  have fb : Boxed W0 w.heap.size 244 (.func (.func g) #[] #[]) := (hb0.block _ (by omega)).trans HF2.out
  have hI0 : CmI f w (.func (.func g) #[] #[]) Z [] W0 := ⟨⟨_, ob, World.ownsRow_nil _ _ _ _⟩, ib, fb, hB0⟩
  have ra0 : RSps W0 w.heap.size (.slice a1 a.length c1) a := HA.out.below hB0 (Nat.le_refl _) (Nat.le_refl _)
  have rb0 : RSps W0 w.heap.size (.slice a2 b.length c2) b := HB.out.below hB0 (Nat.le_refl _) (Nat.le_refl _)
  have HI0 := Lib.hid hI0
  clear hW0 hb0 ob ib fb hB2 HF2 hI0
  refine wpIn_range_st rfl (by omega) (gf := 247) (lb := #[.pointer (some ⟨Z + 1 + 1, 0, none⟩), .pointer (some ⟨Z + 1 + 1 + 1, 0, none⟩)]) rfl trivial (enters_of Tryz.func247 (by kernel_rfl) rfl)
    (points1_in w.heap.size (Z + 1 + 1) (Z + 1 + 1 + 1) _ _ a b W0 hle ba bb ra0 rb0 la lb) (Below.refl _ _) (fun _ => rfl) (fun h k => h.trans k) (fun h => KpQ.turned h hle) (fun h => keepsFrom_st h)
    (CmI f w (.func (.func g) #[] #[]) Z) (fun _ => False) ?sI ?tI ?sX ?tX ?h0 ?round ?done ?stop
  case sI => exact fun s A C h k => h.kept (fun q cs e g he hq => (k.1.keep q _ hq (fun cs' f' e' => by injection e' with _ e' _; exact he e')).trans hq.symm) k.below
  case tI =>
    intro s A C h k
    obtain ⟨k1, k2⟩ := turned_keep (w := w) k hle
    exact h.kept (fun q cs e g _ hq => k1 q cs e g hq) k2
  case sX => exact fun A C h _ => h.elim
  case tX => exact fun A C h _ => h.elim
  case h0 => exact fun o1 o2 => HI0.out.low (balloc0 (balloc0 (Below.refl _ _)))
  case stop => exact fun D W _ h => h.elim
  case round =>
    rintro l pre ⟨t, p, q⟩ Wa W hll ⟨r, hr⟩ hia hba hi hpl
    have HI := Lib.hid hi
    have hWs : w.heap.size ≤ W.heap.size := hi.below.size
    clear hia hba hi ra0 rb0 ba bb
    simp only [encQ]
    gi_wp2
    refine ⟨keepsFrom_below (balloc0 (Below.refl _ _)), KpQ.below (balloc0 (Below.refl _ _)) hWs, fun Wb ht => ?_⟩
    obtain ⟨t1, t2⟩ := turned_keep (w := w) ht hle
    have hbA : Below W.heap.size W (W.alloc (.cells #[.bool p, .bool q] 308)) := balloc0 (Below.refl _ _)
    have hi3 := (HI.out.low hbA).kept (fun q cs e g _ hq => t1 q cs e g hq) t2
    have hbox : Wb.heap[W.heap.size]? = some (.cells #[.bool p, .bool q] 308 (0, 0)) := (t1 _ _ _ _ heap_new).trans heap_new
    have HI3 := Lib.hid hi3
    have HBX := Lib.hid hbox
    have cf := hi3.fn.cell
    have cb := fun o => cellB hbox o
    have hzb : W.heap.size < Wb.heap.size := (Array.getElem?_eq_some_iff.1 hbox).1
    have hwz : w.heap.size < Wb.heap.size := by omega
    clear ht t1 t2 hi3 hbox hbA
    obtain ⟨F, hF⟩ : ∃ F, f p q = F := ⟨_, rfl⟩
    have HFF := Lib.hid hF
    gi_wp2_with fail
    refine ⟨trivial, CallsIn.inRound l (callsIn_wide.2 ((HG.out.2 p q _).mono ?_))⟩
    rw [HFF.out]
    rintro e w4 ⟨rfl, hb4⟩
    have HI4 := Lib.hid (HI3.out.low hb4)
    have hle4 : w.heap.size < w4.heap.size := by have := hb4.size; omega
    have K4 : Hid (KeepsFrom W0.heap.size Wb w4 ∧ KpQ w.heap.size Wb w4) := Lib.hid ⟨keepsFrom_below hb4, KpQ.below hb4 (by omega)⟩
    clear cf cb hb4 hF
    obtain ⟨⟨L, s⟩, hS⟩ : ∃ q, foldQ f pre = q := ⟨_, rfl⟩
    have HS := Lib.hid hS
    have HSN : Hid (foldQ f (pre ++ [(t, p, q)]) = stepC f (L, s) (t, p, q)) := Lib.hid (by rw [foldQ_snoc, hS])
    have hLl : (outS (L, s)).length ≤ 10000 := by rw [← hS]; exact Nat.le_trans (foldQ_len f pre) hpl
    clear hS
    obtain ⟨⟨vo, bo, ow⟩, bi, bf, bl⟩ := HI4.out
    rw [HS.out] at ow bi
    have HBO := Lib.hid bo
    have HBI := Lib.hid bi
    have HBF := Lib.hid bf
    have HBL := Lib.hid bl
    have HOW := Lib.hid ow
    have co := bo.cell
    have fo := bo.frozen
    have ci := bi.cell
    have fi := bi.frozen
    have zo := bo.lt
    have zi := bi.lt
    clear bf bl HI3 HBX HI4 HI bo
    cases s with
    | none =>
      simp only [outS, List.append_nil] at ow HOW hLl
      simp only [Option.isSome_none] at ci bi HBI
      obtain ⟨va, vc, rfl⟩ := own_shape ow
      clear ow bi
      cases F with
      | true =>
        have HN : Hid (foldQ f (pre ++ [(t, p, q)]) = (L, some t)) := Lib.hid (by rw [HSN.out]; simp [stepC, HFF.out])
        gi_wp2_with (gi_at_builtin; refine wpListIn_append_lies _ rfl _ _ _ rfl rfl w.heap.size 154 i0 _ 2 16 Tryz.underlying79 hin hz0 hz1 hz2 rfl (by omega) (.slice va L.length vc) L.length (sps L) rfl (own_kept1 HOW.out (fun q hq => Below.heap_alloc _ _ _ (HOW.out.lt q hq).2)) ⟨w4.heap.size, 0, none⟩ 1 1 (spC (t, 0)) rfl rfl (news_one (t := 154 ) (by exact heap_new)) (by simp [spC, Value.oneCell']) (by omega) (by simp only [maxLen]; omega) (by omega) (by simp; omega) (w4.heap.size + 1) (by simp) ?_; intro g' cap w5 hown5 hg5 hat5 hlt5; have hbo5 : Boxed w5 Z 79 (.slice va L.length vc) := (HBO.out.alloc (.cells (spC (t, 0)).toArray 154 )).kept hg5 (HBO.out.not_row (by decide) HOW.out); have hbi5 : Boxed w5 (Z + 1) 4 (.bool false) := (HBI.out.alloc (.cells (spC (t, 0)).toArray 154 )).kept hg5 (HBI.out.not_row (by decide) HOW.out); have hbf5 : Boxed w5 w.heap.size 244 (.func (.func g) #[] #[]) := (HBF.out.alloc (.cells (spC (t, 0)).toArray 154 )).kept hg5 (HBF.out.not_row (by decide) HOW.out); have co := hbo5.cell; have fo := hbo5.frozen; have ci := hbi5.cell; have fi := hbi5.frozen; have zo := hbo5.lt; have zi := hbi5.lt; have H5 := Lib.hid hown5; have G5 := Lib.hid hg5; have A5 := Lib.hid hat5; have BO5 := Lib.hid hbo5; have BI5 := Lib.hid hbi5; have BF5 := Lib.hid hbf5; clear hown5 hg5 hat5 hlt5 hbo5 hbi5 hbf5)
        have hal := (balloc0 (Below.refl _ _) : Below w4.heap.size w4 (w4.alloc (.cells (spC (t, 0)).toArray 154 )))
        have hrow : ∀ q, (Value.slice va L.length vc).ownBlock = some q → w.heap.size ≤ q ∧ ∃ cur, (w4.alloc (.cells (spC (t, 0)).toArray 154 )).heap[q]? = some (.cells cur 154 (0, 0)) := fun q hq => by
          obtain ⟨cur, e⟩ := own_at HOW.out hq
          exact ⟨(HOW.out.lt q hq).1, cur, (hal.block q (HOW.out.lt q hq).2).trans e⟩
        have hbl5 : Below w.heap.size w w5 := (HBL.out.trans (hal.mono (by omega))).grown G5.out (by simp; omega) (fun q hq => (HOW.out.lt q hq).1)
        have k5 : KpQ w.heap.size w4 w5 := (KpQ.below hal (by omega)).trans (KpQ.grown G5.out hrow (by simp; omega))
        have f5 : KeepsFrom W0.heap.size w4 w5 := (keepsFrom_below hal).trans (keepsFrom_grown G5.out fun q hq => (hrow q hq).2)
        have bi6 : Boxed (w5.setCell ⟨Z, 0, none⟩ (.slice (some ⟨g', 0, none⟩) (L.length + 1) cap)) (Z + 1) 4 (.bool false) := (heap_setCell_other w5 ⟨Z, 0, none⟩ (Z + 1) _ (by show Z + 1 ≠ Z; omega)).trans BI5.out
        exact ⟨K4.out.1.trans (f5.trans ((qkeepsFrom_set _ BO5.out).trans (qkeepsFrom_set _ bi6))), rfl, K4.out.2.trans (k5.trans ((KpQ.set _ BO5.out (by decide) (by omega)).trans (KpQ.set _ bi6 (by decide) (by omega)))), CmI.grow HN.out BO5.out H5.out BI5.out BF5.out hbl5 z2⟩
      | false =>
        have HN : Hid (foldQ f (pre ++ [(t, p, q)]) = (L, none)) := Lib.hid (by rw [HSN.out]; simp [stepC, HFF.out])
        gi_wp2
        exact ⟨K4.out.1.trans (qkeepsFrom_set _ HBI.out), rfl, K4.out.2.trans (KpQ.set _ HBI.out (by decide) (by omega)), CmI.same HN.out HBO.out (by simpa [outS] using HOW.out) HBI.out HBF.out HBL.out (by omega)⟩
    | some s =>
      simp only [outS] at ow HOW hLl
      simp only [Option.isSome_some] at ci bi HBI
      obtain ⟨va, vc, rfl⟩ := own_shape ow
      clear ow bi
      cases F with
      | true =>
        have HN : Hid (foldQ f (pre ++ [(t, p, q)]) = (L, some s)) := Lib.hid (by rw [HSN.out]; simp [stepC, HFF.out])
        gi_wp2
        exact ⟨K4.out.1.trans (qkeepsFrom_set _ HBI.out), rfl, K4.out.2.trans (KpQ.set _ HBI.out (by decide) (by omega)), CmI.same HN.out HBO.out (by simpa [outS] using HOW.out) HBI.out HBF.out HBL.out (by omega)⟩
      | false =>
        have HN : Hid (foldQ f (pre ++ [(t, p, q)]) = (L ++ [(s, t)], none)) := Lib.hid (by rw [HSN.out]; simp [stepC, HFF.out])
        have hl1 : (L ++ [(s, (0 : Int))]).length = L.length + 1 := by simp
        rw [hl1] at HOW HBO co hLl
        obtain ⟨gb, vc', he⟩ := own_form HOW.out (by omega)
        injection he with ea _ ec
        subst ea ec
        have fg := HOW.out.frozenAt (L.length * 2 + 1)
        have cg := HOW.out.cells (g := gb) rfl (L.length * 2 + 1) (.int .i64 0) (by
          rw [sps_append, List.getElem?_append_right (by rw [sps_len]; omega), sps_len, show L.length * 2 + 1 - L.length * 2 = 1 by omega]
          rfl)
        rw [addN, Nat.zero_add] at cg
        have w1e : IntKind.i64.wrap (((L.length + 1 : Nat) : Int) - 1) = (L.length : Int) := by rw [IntKind.wrap_i64]; omega
        have k0 : (0 : Int) ≤ (L.length : Int) := by omega
        have k1 : (L.length : Int) < ((L.length + 1 : Nat) : Int) := by omega
        have hne1 : Z + 1 ≠ gb := fun e => HBI.out.not_row (by decide) HOW.out (by rw [e]; rfl)
        have e6 : ∀ (x : Value) (o o' : Nat), (w4.setCell ⟨gb, o, none⟩ x).cell? ⟨Z + 1, o', none⟩ = w4.cell? ⟨Z + 1, o', none⟩ := fun x o o' => World.cell?_of_block (heap_setCell_other w4 ⟨gb, o, none⟩ (Z + 1) x hne1)
        have e6f : ∀ (x : Value) (o o' : Nat), (w4.setCell ⟨gb, o, none⟩ x).frozen? ⟨Z + 1, o', none⟩ = w4.frozen? ⟨Z + 1, o', none⟩ := fun x o o' => World.frozen?_of_block (heap_setCell_other w4 ⟨gb, o, none⟩ (Z + 1) x hne1)
        clear hl1
        gi_wp2
        have hgb := HOW.out.lt gb rfl
        obtain ⟨cur, hcur⟩ := own_at HOW.out (g := gb) rfl
        have bi6 : Boxed (w4.setCell ⟨gb, L.length * 2 + 1, none⟩ (.int .i64 t)) (Z + 1) 4 (.bool true) := (heap_setCell_other w4 ⟨gb, _, none⟩ (Z + 1) _ hne1).trans HBI.out
        exact ⟨K4.out.1.trans ((qkeepsFrom_set _ hcur).trans (qkeepsFrom_set _ bi6)), rfl, K4.out.2.trans ((KpQ.set _ hcur (by decide) hgb.1).trans (KpQ.set _ bi6 (by decide) (by omega))), CmI.close HN.out HBO.out HOW.out HBI.out HBF.out HBL.out z2⟩
  case done =>
    rintro D ys W hD rfl hi hK'
    have hfd : foldQ f (PTS a b) = (cmb f a b, none) := HSP.out
    obtain ⟨⟨vo, bo, ow⟩, bi, bf, bl⟩ := hi
    rw [hfd] at ow bi
    have e : outS (cmb f a b, none) = cmb f a b := by simp [outS]
    rw [e] at ow
    obtain ⟨M, hM⟩ : ∃ q, cmb f a b = q := ⟨_, rfl⟩
    rw [hM] at ow
    have HMM := Lib.hid hM
    obtain ⟨va, vc, rfl⟩ := own_shape ow
    have HRS := Lib.hid (RSps.of_own ow)
    have HRF := Lib.hid (own_from ow)
    have co := bo.cell
    have fo := bo.frozen
    have zo := bo.lt
    have HK' := Lib.hid hK'
    clear bo bi bf ow e hfd hM ra0 rb0 ba bb hK'
    by_cases hm : 1000 < M.length
    · have HLM : Hid (limS (cmb f a b) = ([], 4)) := Lib.hid (by rw [HMM.out]; exact if_pos hm)
      have dm : decide ((M.length : Int) > 1000) = true := decide_eq_true (by omega)
      gi_wp2
      refine ⟨by simp, .inl ⟨_, _, rfl, run_takeDeferred HK'.out, ?_⟩⟩
      have hp := bl.grown (grownBy_putObj' W D (.deferred none)) bl.size (fun q hq => by injection hq with hq; omega)
      refine ⟨.tuple #[.slice none 0 0, .int .i64 4], by simp [results, Tryz.results152, go_sem], ?_⟩
      rw [HLM.out]
      exact ⟨_, rfl, RSps.nil _ _, rfrom_nil _ _ _, hp⟩
    · have HLM : Hid (limS (cmb f a b) = (M, 0)) := Lib.hid (by rw [HMM.out]; exact if_neg hm)
      have dm : decide ((M.length : Int) > 1000) = false := decide_eq_false (by omega)
      gi_wp2
      refine ⟨by simp, .inl ⟨_, _, rfl, run_takeDeferred HK'.out, ?_⟩⟩
      have hp := bl.grown (grownBy_putObj' W D (.deferred none)) bl.size (fun q hq => by injection hq with hq; omega)
      have kq : ∀ (q : Nat) (o : Nat) (u : Value), W.cell? ⟨q, o, none⟩ = some u → (W.putObj D (.deferred none)).cell? ⟨q, o, none⟩ = some u := fun q o u hq => by
        rw [← hq]
        have hnD : q ≠ D := fun e => by
          subst e
          rw [show W.cell? ⟨q, o, none⟩ = none by simp [World.cell?, HK'.out]] at hq; cases hq
        exact World.cell?_of_block (World.putObj_heap_other hnD)
      have hrs : RSps (W.putObj D (.deferred none)) (W.putObj D (.deferred none)).heap.size (.slice va M.length vc) M := by
        obtain ⟨a, c, e1, e2, e3, e4, e5⟩ := HRS.out
        refine ⟨a, c, e1, e2, e3, e4, fun hp => ?_⟩
        obtain ⟨b, o, ea, hb, hc⟩ := e5 hp
        exact ⟨b, o, ea, by have := hp; simpa [World.putObj] using hb, fun j u hu => kq _ _ _ (hc j u hu)⟩
      refine ⟨.tuple #[.slice va M.length vc, .int .i64 0], by simp [results, Tryz.results152, go_sem], ?_⟩
      rw [HLM.out]
      exact ⟨_, rfl, hrs, HRF.out, hp⟩
end Go.Proofs.YtmknchdciblfjaaGreat
