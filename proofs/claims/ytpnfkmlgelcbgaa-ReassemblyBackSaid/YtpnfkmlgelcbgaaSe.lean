/- Chapter 18: the reference of intervals: Union, Minus. -/
import Derived.BigQuiet
import Derived.BigRegion
import Derived.Deep.DeepCutAuto
import Derived.Deep.CutBlock
import Derived.Laws.AppendOwn
import Derived.Test.YtpnfkmlgelcbgaaSd
set_option linter.unusedVariables false
set_option linter.unusedSimpArgs false
namespace Go.Proofs.Ytpnfkmlgelcbgaa
open Go Go.RowKit Iv
attribute [local go_sem] Oper.semAt_some
attribute [local go_sem] B_getElem B_size B_app B_extract B_get B_toList
set_option maxRecDepth 100000 in
set_option maxHeartbeats 16000000 in
theorem rbad_any (a b : List Sp) (u v : Value) (w : World) (ha : RSps w w.heap.size u a) (hb : RSps w w.heap.size v b) :
    Calls Try.prog 83 #[u, v] w fun e w' => e = .returned (.bool (chkSp a != 0 || chkSp b != 0)) ∧ Below w.heap.size w w' := by
  have HA := Lib.hid ha
  have HB := Lib.hid hb
  obtain ⟨aa, ac, rfl, _⟩ := ha
  obtain ⟨ba, bc, rfl, _⟩ := hb
  obtain ⟨E, hE⟩ : ∃ q, chkSp a = q := ⟨_, rfl⟩
  obtain ⟨F, hF⟩ : ∃ q, chkSp b = q := ⟨_, rfl⟩
  have HE := Lib.hid hE
  have HF := Lib.hid hF
  rw [hE, hF]
  clear hE hF
  by_cases z : E = 0
  · subst z
    go_enter Try.func83, Try.ntmps83
    go_wp2_with fail
    refine (rchkSp_any a _ _ HA.out).mono ?_
    rw [HE.out]
    rintro e w1 ⟨rfl, hb1⟩
    go_wp2_with fail
    refine (rchkSp_any b _ _ (HB.out.below' hb1)).mono ?_
    rw [HF.out]
    rintro e w2 ⟨rfl, hb2⟩
    go_wp2
    go_ret
    exact ⟨by simp, belowA⟩
  · have dz : (E != 0) = true := by rw [bne_iff_ne]; exact z
    clear z
    go_enter Try.func83, Try.ntmps83
    go_wp2_with fail
    refine (rchkSp_any a _ _ HA.out).mono ?_
    rw [HE.out]
    rintro e w1 ⟨rfl, hb1⟩
    go_wp2
    go_ret
    exact ⟨by rw [dz]; rfl, belowA⟩
/-- a result, if it is not too long -/
def limS (l : List Sp) : List Sp × Int := if 1000 < l.length then ([], 4) else (l, 0)
def SpsPost (r : List Sp × Int) (w : World) (e : Ending) (w' : World) : Prop := ∃ u, e = .returned (.tuple #[u, .int .i64 r.2]) ∧ RSps w' w'.heap.size u r.1 ∧ Below w.heap.size w w'
def SpsPostF (r : List Sp × Int) (w : World) (e : Ending) (w' : World) : Prop := ∃ u, e = .returned (.tuple #[u, .int .i64 r.2]) ∧ RSps w' w'.heap.size u r.1 ∧ RFrom w.heap.size u ∧ Below w.heap.size w w'
theorem RSps.empty {w : World} {g c : Nat} (h : g < w.heap.size) (hc : c ≤ maxLen) : RSps w w.heap.size (.slice (some ⟨g, 0, none⟩) 0 c) [] := ⟨_, c, rfl, Nat.zero_le _, hc, (fun h => by cases h), fun h => by cases h⟩
theorem RSps.empty0 {w : World} {a : Option Addr} {c : Nat} (h : a = none → c = 0) (hc : c ≤ maxLen) : RSps w w.heap.size (.slice a 0 c) [] := ⟨_, c, rfl, Nat.zero_le _, hc, h, fun h => by cases h⟩
set_option maxRecDepth 100000 in
set_option maxHeartbeats 16000000 in
theorem rlimited_any (l : List Sp) (v : Value) (w : World) (h : RSps w w.heap.size v l) :
    Calls Try.prog 85 #[v] w fun e w' => ∃ u, e = .returned (.tuple #[u, .int .i64 (limS l).2]) ∧ RSps w' w'.heap.size u (limS l).1 ∧ (∀ N, N ≤ w.heap.size → RFrom N v → RFrom N u) ∧ Below w.heap.size w w' := by
  have HR := Lib.hid h
  obtain ⟨a, c, rfl, h1, h2, h3, h4⟩ := h
  unfold maxLen at h2
  have hlen : l.length ≤ 9223372036854775807 := by omega
  have H4 := Lib.hid h4
  clear h3 h4
  by_cases g1 : 1000 < l.length
  · have d1 : decide ((1000 : Int) < (l.length : Int)) = true := by rw [decide_eq_true_eq]; omega
    rw [show limS l = ([], 4) from if_pos g1]
    clear g1
    go_enter Try.func85, Try.ntmps85
    go_wp2
    go_ret2
    exact ⟨_, rfl, RSps.empty0 (fun h => by cases h) (by simp [maxLen]), fun N hN _ a n c h => by (injection h with h _ _; injection h with h; subst h; exact hN), belowA⟩
  · have d1 : decide ((1000 : Int) < (l.length : Int)) = false := by rw [decide_eq_false_iff_not]; omega
    rw [show limS l = (l, 0) from if_neg g1]
    clear g1
    go_enter Try.func85, Try.ntmps85
    go_wp2
    go_ret2
    exact ⟨_, rfl, HR.out, fun N _ h => h, Below.refl _ _⟩
def rUnionS (a b : List Sp) : List Sp × Int := if chkSp a ≠ 0 ∨ chkSp b ≠ 0 then ([], 1) else limS (b.foldl ins2 a)
theorem ins2_len : ∀ (l : List Sp) (x : Sp), 0 < (ins2 l x).length ∧ (ins2 l x).length ≤ l.length + 1
  | [], x => by simp [ins2]
  | y :: r, x => by
    have ih := ins2_len r x
    have hm : ∀ (m : List Sp) (z : Sp), 0 < (mrg m z).length ∧ (mrg m z).length ≤ m.length + 1 := by
      intro m
      induction m with
      | nil => intro z; simp [mrg]
      | cons u s ih => intro z; unfold mrg; split; (have := ih (if u.1 < z.1 then u.1 else z.1, if z.2 < u.2 then u.2 else z.2); simp; omega); simp
    have := hm (y :: r) x
    unfold ins2
    split
    · simp; omega
    · exact this
set_option maxRecDepth 100000 in
set_option maxHeartbeats 16000000 in
theorem runion_any (a : List Sp) (x : Sp) (u v : Value) (w : World) (ha : RSps w w.heap.size u a) (hb : RSps w w.heap.size v [x]) (ha0 : 0 < a.length) (hx : chkSp [x] = 0) (hca : chkSp a = 0) :
    Calls Try.prog 54 #[u, v] w (SpsPostF (limS (ins2 a x)) w) := by
  have HA := Lib.hid ha
  have HB := Lib.hid hb
  obtain ⟨aa, ac, rfl, a1, a2, a3, a4⟩ := ha
  obtain ⟨ba, bc, rfl, b1, b2, b3, b4⟩ := hb
  obtain ⟨bb, o, rfl, hbn, hcell⟩ := a4 ha0
  obtain ⟨b2', o2, rfl, hbn2, hcell2⟩ := b4 (by simp)
  have HC := Lib.hid hcell
  have HX := Lib.hid (sp0 (k := 0) hcell2 rfl)
  have HX1 := Lib.hid (sp1 (k := 0) hcell2 rfl)
  have hl := (chkSp_zero hca).1
  have HXC := Lib.hid hx
  have HCA := Lib.hid hca
  obtain ⟨i0, hin, hz0, hz1, hz2⟩ := info_parts infoSpan
  clear a3 a4 b3 b4 hcell hcell2 hx hca
  go_enter Try.func54, Try.ntmps54
  (try simp only [List.length_cons, List.length_nil, Nat.zero_add])
  go_wp2_with fail
  refine (rbad_any a [x] _ _ _ HA.out HB.out).mono ?_
  rw [HXC.out, HCA.out]
  rintro e w1 ⟨rfl, hb1⟩
  have HB1 := Lib.hid hb1
  have hs1 := hb1.size
  clear hb1
  go_wp2_with (at_builtin; refine wpList_append_own _ rfl _ _ _ rfl w1.heap.size 47 i0 _ 2 16 Try.underlying29 hin hz0 hz1 hz2 rfl (by omega) (.slice (some ⟨w1.heap.size, 0, none⟩) 0 0) 0 [] rfl (World.ownsRow_made w1 #[] 0 (Nat.le_refl _) (by simp) rfl) ⟨bb, o, none⟩ a.length ac (sps a) rfl (by rw [sps_len]) (fun q u hu => by rw [addN]; exact (World.cell?_alloc_lt _ _ _ (by show bb < _; omega)).trans ((HB1.out.cell (p := ⟨bb, o + q, none⟩) hbn).trans (HC.out q u hu))) (sps_one _) (by simp only [maxLen]; omega) (by omega) (by simp) ?_; intro vo w2 ho2 hg2 _)
  have hs2 := hg2.size
  simp at hs2
  have HB2 : Hid (Below w.heap.size w w2) := Lib.hid (Below.grown (by have := HB1.out; exact belowA) hg2 (by simp; omega) (fun q hq => by have : w1.heap.size = q := Option.some.inj hq; omega))
  rw [Nat.zero_add, List.nil_append] at ho2
  have HR2 := Lib.hid (RSps.of_own ho2)
  obtain ⟨va, vc, rfl, _⟩ := id HR2.out
  clear ho2 hg2
  go_wp2
  go_loopw [6, 7] (fun ov iv wr => (iv = .int .i64 0 ∧ ov = .slice va a.length vc ∧ Hid (wr = w2)) ∨ (iv = .int .i64 1 ∧ Hid (RSps wr wr.heap.size ov (ins2 a x)) ∧ Hid (RFrom w.heap.size ov) ∧ Hid (Below w.heap.size w wr))) (fun _ iv _ => 1 - (intOf iv).toNat)
  case atStart => exact .inl ⟨rfl, rfl, Lib.hid rfl⟩
  case round =>
    rcases hrel with ⟨rfl, rfl, hw⟩ | ⟨rfl, HRR, HRF, HBB⟩
    · have hw := hw.out
      subst hw
      have q0 : wr.cell? ⟨b2', o2, none⟩ = some (.int .i64 x.1) := by have := (HB2.out.cell (p := ⟨b2', o2 + 0 * 2, none⟩) hbn2).trans HX.out; simpa using this
      have q1 : wr.cell? ⟨b2', o2 + 1, none⟩ = some (.int .i64 x.2) := by have := (HB2.out.cell (p := ⟨b2', o2 + 0 * 2 + 1, none⟩) hbn2).trans HX1.out; simpa using this
      go_wp2_with fail
      refine (rinsert_any a x _ _ HR2.out ha0 (by omega)).mono ?_
      rintro e w3 ⟨r, rfl, hr, hf3, hb3⟩
      have HR3 := Lib.hid hr
      have HF3 : Hid (RFrom w.heap.size r) := Lib.hid (hf3.le HB2.out.size)
      have HB3 : Hid (Below w.heap.size w w3) := Lib.hid (btrans0 HB2.out hb3)
      clear hr hb3 hf3
      go_wp2
      go_roundw
      case rel => exact .inr ⟨by go_num, HR3, HF3, HB3⟩
      case measure => simp [intOf]
    · obtain ⟨oa, oc, rfl, _⟩ := id HRR.out
      go_wp2_with fail
      refine (rlimited_any _ _ _ HRR.out).mono ?_
      rintro e w3 ⟨r, rfl, hr, hf3, hb3⟩
      have HR3 := Lib.hid hr
      have HF3 : Hid (RFrom w.heap.size r) := Lib.hid (hf3 _ HBB.out.size HRF.out)
      have HB3 : Hid (Below w.heap.size w w3) := Lib.hid (btrans0 HBB.out hb3)
      obtain ⟨ra, rc, rfl, _⟩ := id hr
      clear hr hb3 hf3
      go_wp2
      go_ret2
      exact ⟨_, rfl, HR3.out, HF3.out, HB3.out⟩
end Go.Proofs.Ytpnfkmlgelcbgaa
