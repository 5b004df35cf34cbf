/-
  Proved: mailboatlaw17.FragmentBytes returns true for every input, and leaves its arguments as they were. No condition.
-/
import Derived.Test.YtibfchdhppdccaaRows
import Derived.Test.YtibfchdhppdccaaGo
import Derived.Test.YtibfchdhppdccaaGq
import Derived.Test.YtibfchdhppdccaaFe
import Derived.Test.YtibfchdhppdccaaQd
import Derived.Test.YtibfchdhppdccaaR
import Derived.Test.YtibfchdhppdccaaL
set_option linter.unusedVariables false
set_option linter.unusedSimpArgs false
namespace Go.Proofs.Ytibfchdhppdccaa.fragmentBytes
open Go Go.ChangeShapes Go.WideShapes Go.ChangeAt Go.RowKit Go.Joins Go.Proofs.Ytibfchdhppdccaa
attribute [local go_sem] B_getElem B_size B_app B_extract B_get B_toList
attribute [local go_sem] bunC
attribute [local go_sem ↓] eqBlk eqId eqEnd

theorem own : ownKnob Try.prog.godebug = none := by kernel_rfl

set_option maxRecDepth 100000 in
set_option maxHeartbeats 1600000 in
theorem walk (b : Bun) (u : Value) (n : Int) (p : Bool) (w : World) (h : RBlks w w.heap.size u b.blocks) (hf : Fits b) :
    Calls Try.prog 7 #[.agg (bunC b u).toArray, .int .i64 n, .bool p] w (Says w) := by
  obtain ⟨⟨l, E⟩, hl⟩ : ∃ x, partsR b n p = x := ⟨_, rfl⟩
  have HL := Lib.hid hl
  clear hl
  obtain ⟨ua, uc, rfl, _⟩ := id h
  have HR := Lib.hid h
  have HF := Lib.hid hf
  clear h hf
  go_enter Try.func7, Try.ntmps7
  simp only [bunC]
  go_wp2_with fail
  refine (lawGreat_any b _ _ (HR.out.below (C := w.heap.size) (by repeat' (first | (with_reducible refine bset ?_ ?_) | (with_reducible exact Below.refl _ _) | (with_reducible assumption) | (with_reducible refine bdrewN ?_ _) | (with_reducible refine bdrew ?_) | (with_reducible refine balloc0 ?_) | (with_reducible refine balloc ?_ ?_) | (with_reducible apply btrans0; rotate_left; with_reducible assumption) | (with_reducible apply btrans; rotate_left; with_reducible assumption) | exact Below.refl _ _ | assumption | (apply btrans0; rotate_left; assumption) | (apply btrans; rotate_left; assumption) | (simp; done) | omega | (simp; omega))) (Nat.le_refl _) (by simp)) HF.out).mono ?_
  rintro e w1 ⟨g, rfl, hb1⟩
  obtain ⟨k1, f1⟩ := bcell hb1
  have z1 : w.heap.size < w1.heap.size := by have := hb1.size; simp at this; omega
  cases g
  case true =>
    go_wp2_with fail
    refine (awake_any _).mono ?_
    rintro e w2 ⟨rfl, hb2⟩
    go_wp2
    go_ret
    exact ⟨rfl, (by repeat' (first | (with_reducible refine bset ?_ ?_) | (with_reducible exact Below.refl _ _) | (with_reducible assumption) | (with_reducible refine bdrewN ?_ _) | (with_reducible refine bdrew ?_) | (with_reducible refine balloc0 ?_) | (with_reducible refine balloc ?_ ?_) | (with_reducible apply btrans0; rotate_left; with_reducible assumption) | (with_reducible apply btrans; rotate_left; with_reducible assumption) | exact Below.refl _ _ | assumption | (apply btrans0; rotate_left; assumption) | (apply btrans; rotate_left; assumption) | (simp; done) | omega | (simp; omega)))⟩
  have hB1 : Below w.heap.size w w1 := (by repeat' (first | (with_reducible refine bset ?_ ?_) | (with_reducible exact Below.refl _ _) | (with_reducible assumption) | (with_reducible refine bdrewN ?_ _) | (with_reducible refine bdrew ?_) | (with_reducible refine balloc0 ?_) | (with_reducible refine balloc ?_ ?_) | (with_reducible apply btrans0; rotate_left; with_reducible assumption) | (with_reducible apply btrans; rotate_left; with_reducible assumption) | exact Below.refl _ _ | assumption | (apply btrans0; rotate_left; assumption) | (apply btrans; rotate_left; assumption) | (simp; done) | omega | (simp; omega)))
  have G1 : w1.heap[w.heap.size]? = some (.cells (bunC b (.slice ua b.blocks.length uc)).toArray 28 (0, 0)) := (hb1.block _ (by simp)).trans heap_new
  clear k1 f1
  have ca := fun o => cellB G1 o
  simp only [bunC] at ca
  go_wp2_with fail
  clear ca
  refine (parts_any b _ n p w.heap.size _ (by omega) (HR.out.below (C := w.heap.size) hB1 (Nat.le_refl _) (Nat.le_refl _)) HF.out).mono ?_
  rw [HL.out]
  rintro e w2 ⟨a2, c2, rfl, r2, hb2⟩
  have l2 : w1.heap.size ≤ w2.heap.size := hb2.size
  have z2 : w.heap.size < w2.heap.size := by omega
  have hB2 : Below w.heap.size w w2 := (by repeat' (first | (with_reducible refine bset ?_ ?_) | (with_reducible exact Below.refl _ _) | (with_reducible assumption) | (with_reducible refine bdrewN ?_ _) | (with_reducible refine bdrew ?_) | (with_reducible refine balloc0 ?_) | (with_reducible refine balloc ?_ ?_) | (with_reducible apply btrans0; rotate_left; with_reducible assumption) | (with_reducible apply btrans; rotate_left; with_reducible assumption) | exact Below.refl _ _ | assumption | (apply btrans0; rotate_left; assumption) | (apply btrans; rotate_left; assumption) | (simp; done) | omega | (simp; omega)))
  have G2 := (hb2.block w.heap.size (by omega)).trans G1
  clear hb2 hb1 hB1 G1
  by_cases hE : E = 0
  case neg =>
    have hE' : decide (E = 0) = false := by simpa using hE
    simp only [hE']
    go_wp2_with fail
    refine (awake_any _).mono ?_
    rintro e w3 ⟨rfl, hb3⟩
    go_wp2
    go_ret
    exact ⟨rfl, (by repeat' (first | (with_reducible refine bset ?_ ?_) | (with_reducible exact Below.refl _ _) | (with_reducible assumption) | (with_reducible refine bdrewN ?_ _) | (with_reducible refine bdrew ?_) | (with_reducible refine balloc0 ?_) | (with_reducible refine balloc ?_ ?_) | (with_reducible apply btrans0; rotate_left; with_reducible assumption) | (with_reducible apply btrans; rotate_left; with_reducible assumption) | exact Below.refl _ _ | assumption | (apply btrans0; rotate_left; assumption) | (apply btrans; rotate_left; assumption) | (simp; done) | omega | (simp; omega)))⟩
  subst hE
  simp only [decide_true]
  obtain ⟨hv, hall, heach⟩ := parts_bytes HL.out
  obtain ⟨v1, v2, v3, v4, v5, _⟩ := valid_facts hv
  have hs : spanR b = (b.off, b.off + b.payload.length, 0) := by unfold spanR; rw [if_neg (by simp [hv])]
  have HA := Lib.hid hall
  have HC := Lib.hid heach
  clear hv hall heach
  have ca := fun o => cellB G2 o
  simp only [bunC] at ca
  go_wp2_with fail
  refine (spanr_any b _ _ (HR.out.below (C := w.heap.size) hB2 (Nat.le_refl _) (by omega)) HF.out).mono ?_
  rw [hs]
  rintro e w3 ⟨rfl, hb3⟩
  have l3 : w2.heap.size ≤ w3.heap.size := hb3.size
  have z3 : w.heap.size < w3.heap.size := by omega
  have hB3 : Below w.heap.size w w3 := (by repeat' (first | (with_reducible refine bset ?_ ?_) | (with_reducible exact Below.refl _ _) | (with_reducible assumption) | (with_reducible refine bdrewN ?_ _) | (with_reducible refine bdrew ?_) | (with_reducible refine balloc0 ?_) | (with_reducible refine balloc ?_ ?_) | (with_reducible apply btrans0; rotate_left; with_reducible assumption) | (with_reducible apply btrans; rotate_left; with_reducible assumption) | exact Below.refl _ _ | assumption | (apply btrans0; rotate_left; assumption) | (apply btrans; rotate_left; assumption) | (simp; done) | omega | (simp; omega)))
  have G3 := (hb3.block w.heap.size (by omega)).trans G2
  have r3 := r2.below (w' := w3) (C := w2.heap.size) (M := w3.heap.size) hb3 (Nat.le_refl _) l3
  clear ca hb3 hB2 G2 r2 hs
  have ca := fun o => cellB G3 o
  simp only [bunC] at ca
  obtain ⟨T, hT⟩ : ∃ T : Int, b.off + (b.payload.length : Int) = T := ⟨_, rfl⟩
  have hq : IntKind.i64.wrap (T - b.off) = (b.payload.length : Int) := by rw [show T - b.off = ((b.payload.length : Nat) : Int) by omega]; exact wrap_nat _ (by omega)
  rw [hT]
  go_wp2
  have hB4 : Below w.heap.size w (w3.alloc (.cells #[.int .i64 b.off, .int .i64 T] 46)) := (by repeat' (first | (with_reducible refine bset ?_ ?_) | (with_reducible exact Below.refl _ _) | (with_reducible assumption) | (with_reducible refine bdrewN ?_ _) | (with_reducible refine bdrew ?_) | (with_reducible refine balloc0 ?_) | (with_reducible refine balloc ?_ ?_) | (with_reducible apply btrans0; rotate_left; with_reducible assumption) | (with_reducible apply btrans; rotate_left; with_reducible assumption) | exact Below.refl _ _ | assumption | (apply btrans0; rotate_left; assumption) | (apply btrans; rotate_left; assumption) | (simp; done) | omega | (simp; omega)))
  have N4 := (Below.heap_alloc w3 (.cells #[.int .i64 b.off, .int .i64 T] 46) _ z3).trans G3
  have X4 : (w3.alloc (.cells #[.int .i64 b.off, .int .i64 T] 46)).heap[w3.heap.size]? = _ := heap_new
  have r4 := r3.below (w' := w3.alloc (.cells #[.int .i64 b.off, .int .i64 T] 46)) (C := w3.heap.size) (M := w3.heap.size) (by repeat' (first | (with_reducible refine bset ?_ ?_) | (with_reducible exact Below.refl _ _) | (with_reducible assumption) | (with_reducible refine bdrewN ?_ _) | (with_reducible refine bdrew ?_) | (with_reducible refine balloc0 ?_) | (with_reducible refine balloc ?_ ?_) | (with_reducible apply btrans0; rotate_left; with_reducible assumption) | (with_reducible apply btrans; rotate_left; with_reducible assumption) | exact Below.refl _ _ | assumption | (apply btrans0; rotate_left; assumption) | (apply btrans; rotate_left; assumption) | (simp; done) | omega | (simp; omega))) (Nat.le_refl _) (Nat.le_refl _)
  have S4 : (w3.alloc (.cells #[.int .i64 b.off, .int .i64 T] 46)).heap.size = w3.heap.size + 1 := by simp
  clear ca G3 r3 hB3
  generalize w3.alloc (.cells _ _) = W at *
  obtain ⟨a', c', e', h1, h2, h3, h4⟩ := r4
  injection e' with e1 _ e2
  subst e1 e2
  have H4 := Lib.hid h4
  unfold maxLen at h2
  have hlen : l.length ≤ 9223372036854775807 := by omega
  clear h3 h4
  go_loopw [52, 11, 12] (fun i s at_ wr => ∃ (k : Nat) (pre : List UInt8) (A : Int), k ≤ l.length ∧ i = .int .i64 k ∧ s = .string (B pre) ∧ at_ = .int .i64 A ∧ Hid (pre = (l.take k).flatMap (·.payload)) ∧ Hid (A = b.off + (pre.length : Int)) ∧ 0 ≤ A ∧ Below W.heap.size W wr) (fun i _ _ _ => l.length - (intOf i).toNat)
  case atStart => exact ⟨0, [], b.off, Nat.zero_le _, rfl, rfl, rfl, Lib.hid (by simp), Lib.hid (by simp), v1, Below.refl _ _⟩
  case round =>
    obtain ⟨k, pre, A, hk, rfl, rfl, rfl, HP, HQ, hA0, hB⟩ := hrel
    have NW := (hB.block w.heap.size (by omega)).trans N4
    have XW := (hB.block w3.heap.size (by omega)).trans X4
    have bW : w3.heap.size < wr.heap.size := by have := hB.size; omega
    by_cases hlt : k < l.length
    · obtain ⟨bb, o, rfl, hbn, hcell⟩ := H4.out (by omega)
      obtain ⟨x, hx⟩ : ∃ x, l[k]? = some x := ⟨_, List.getElem?_eq_getElem hlt⟩
      obtain ⟨u1, c1, r1⟩ := (hcell k x hx).keep (M := wr.heap.size) hbn (fun b o hb => hB.cell (p := ⟨b, o, none⟩) (by show b < _; omega)) (by omega)
      obtain ⟨ua1, uc1, rfl, _⟩ := id r1
      obtain ⟨xv, xo⟩ := HC.out k x hx
      obtain ⟨x1, x2, x3, x4, x5, _⟩ := valid_facts xv
      have hxs : spanR x = (x.off, x.off + x.payload.length, 0) := by unfold spanR; rw [if_neg (by simp [xv])]
      have hxA : x.off = A := by rw [xo, HQ.out, HP.out]
      subst hxA
      have HTK : Hid (l.take (k + 1) = l.take k ++ [x]) := Lib.hid (by rw [List.take_add_one, hx]; rfl)
      have k0 : (0 : Int) ≤ (k : Int) := by omega
      have k1' : (k : Int) < (l.length : Int) := by omega
      have XF := Lib.hid (chk_fits xv)
      have RX := Lib.hid r1
      have q0 : wr.cell? ⟨bb, o + k * 12, none⟩ = some (.int .i64 x.src) := c1 0 _ rfl
      have q1 : wr.cell? ⟨bb, o + k * 12 + 1, none⟩ = some (.int .i64 x.crt) := c1 1 _ rfl
      have q2 : wr.cell? ⟨bb, o + k * 12 + 2, none⟩ = some (.int .i64 x.seq) := c1 2 _ rfl
      have q3 : wr.cell? ⟨bb, o + k * 12 + 3, none⟩ = some (.int .i64 x.off) := c1 3 _ rfl
      have q4 : wr.cell? ⟨bb, o + k * 12 + 4, none⟩ = some (.int .i64 x.tot) := c1 4 _ rfl
      have q5 : wr.cell? ⟨bb, o + k * 12 + 5, none⟩ = some (.int .i64 x.dk) := c1 5 _ rfl
      have q6 : wr.cell? ⟨bb, o + k * 12 + 6, none⟩ = some (.int .i64 x.dn) := c1 6 _ rfl
      have q7 : wr.cell? ⟨bb, o + k * 12 + 7, none⟩ = some (.int .i64 x.life) := c1 7 _ rfl
      have q8 : wr.cell? ⟨bb, o + k * 12 + 8, none⟩ = some (.int .i64 x.prio) := c1 8 _ rfl
      have q9 : wr.cell? ⟨bb, o + k * 12 + 9, none⟩ = some (.int .i64 x.flags) := c1 9 _ rfl
      have q10 : wr.cell? ⟨bb, o + k * 12 + 10, none⟩ = some (.slice ua1 x.blocks.length uc1) := c1 10 _ rfl
      have q11 : wr.cell? ⟨bb, o + k * 12 + 11, none⟩ = some (.string (B x.payload)) := c1 11 _ rfl
      clear hcell hx c1 r1 xv xo
      go_wp2_with fail
      refine (spanr_any x _ _ (RX.out.below (C := wr.heap.size) (by repeat' (first | (with_reducible refine bset ?_ ?_) | (with_reducible exact Below.refl _ _) | (with_reducible assumption) | (with_reducible refine bdrewN ?_ _) | (with_reducible refine bdrew ?_) | (with_reducible refine balloc0 ?_) | (with_reducible refine balloc ?_ ?_) | (with_reducible apply btrans0; rotate_left; with_reducible assumption) | (with_reducible apply btrans; rotate_left; with_reducible assumption) | exact Below.refl _ _ | assumption | (apply btrans0; rotate_left; assumption) | (apply btrans; rotate_left; assumption) | (simp; done) | omega | (simp; omega))) (Nat.le_refl _) (by simp)) XF.out).mono ?_
      rw [hxs]
      rintro e w5 ⟨rfl, hb5⟩
      have XB : w5.heap[wr.heap.size]? = some (.cells (bunC x (.slice ua1 x.blocks.length uc1)).toArray 28 (0, 0)) := (hb5.block _ (by simp)).trans heap_new
      have l5 : wr.heap.size < w5.heap.size := by have := hb5.size; simp at this; omega
      have hB5 : Below W.heap.size W w5 := (by repeat' (first | (with_reducible refine bset ?_ ?_) | (with_reducible exact Below.refl _ _) | (with_reducible assumption) | (with_reducible refine bdrewN ?_ _) | (with_reducible refine bdrew ?_) | (with_reducible refine balloc0 ?_) | (with_reducible refine balloc ?_ ?_) | (with_reducible apply btrans0; rotate_left; with_reducible assumption) | (with_reducible apply btrans; rotate_left; with_reducible assumption) | exact Below.refl _ _ | assumption | (apply btrans0; rotate_left; assumption) | (apply btrans; rotate_left; assumption) | (simp; done) | omega | (simp; omega)))
      clear q0 q1 q2 q3 q4 q5 q6 q7 q8 q9 q10 q11 hb5 hxs
      have ca := fun o => cellB XB o
      simp only [bunC] at ca
      obtain ⟨TX, hTX⟩ : ∃ T : Int, x.off + (x.payload.length : Int) = T := ⟨_, rfl⟩
      have hq2 : IntKind.i64.wrap (x.off + (x.payload.length : Int)) = TX := by rw [← hTX, IntKind.wrap_i64]; omega
      rw [hTX]
      have hml : ¬ 9223372036854775807 < pre.length + x.payload.length := by have := HQ.out; omega
      have hT0 : 0 ≤ TX := by omega
      have HTX := Lib.hid hTX
      have Hq := Lib.hid hq
      have QN := Lib.hid NW
      have QX := Lib.hid XW
      clear hTX hq NW XW N4 X4 hT x1 x2 x3 x4 x5 v2 v3 v4 v5 h1 h2 hA0
      go_wp2
      go_roundw
      case rel => exact ⟨k + 1, pre ++ x.payload, TX, by omega, by go_num, rfl, rfl, Lib.hid (by rw [HTK.out, List.flatMap_append, ← HP.out]; simp), Lib.hid (by have := HTX.out; have := HQ.out; rw [List.length_append]; omega), hT0, (by repeat' (first | (with_reducible refine bset ?_ ?_) | (with_reducible exact Below.refl _ _) | (with_reducible assumption) | (with_reducible refine bdrewN ?_ _) | (with_reducible refine bdrew ?_) | (with_reducible refine balloc0 ?_) | (with_reducible refine balloc ?_ ?_) | (with_reducible apply btrans0; rotate_left; with_reducible assumption) | (with_reducible apply btrans; rotate_left; with_reducible assumption) | exact Below.refl _ _ | assumption | (apply btrans0; rotate_left; assumption) | (apply btrans; rotate_left; assumption) | (simp; done) | omega | (simp; omega)))⟩
      case measure => simp [intOf]; omega
    · obtain rfl : k = l.length := by omega
      have hpre : pre = b.payload := by rw [HP.out, List.take_length]; exact HA.out
      subst hpre
      have hAT : A = T := by rw [HQ.out]; exact hT
      subst hAT
      have cb := fun o => cellB NW o
      have cx := fun o => cellB XW o
      simp only [bunC] at cb
      clear hT hq NW XW N4 X4
      go_wp2_with fail
      refine (awake_any _).mono ?_
      rintro e w5 ⟨rfl, hb5⟩
      go_wp2
      go_ret
      exact ⟨rfl, (by repeat' (first | (with_reducible refine bset ?_ ?_) | (with_reducible exact Below.refl _ _) | (with_reducible assumption) | (with_reducible refine bdrewN ?_ _) | (with_reducible refine bdrew ?_) | (with_reducible refine balloc0 ?_) | (with_reducible refine balloc ?_ ?_) | (with_reducible apply btrans0; rotate_left; with_reducible assumption) | (with_reducible apply btrans; rotate_left; with_reducible assumption) | exact Below.refl _ _ | assumption | (apply btrans0; rotate_left; assumption) | (apply btrans; rotate_left; assumption) | (simp; done) | omega | (simp; omega)))⟩

set_option maxRecDepth 100000 in
theorem lifted (os : Os) (started : os.Started) (H : Type) (enc : TypeId × Value → H) :
    ReturnsInHanded {} Try.checked os 7 .any (Rows.fragmentBytesSpec.pre6 enc Try.prog Try.f7 Rows.fragmentBytesRow.domain false) (Rows.fragmentBytesSpec.post enc Try.prog Try.f7 false true false false) := by
  refine returnsInHanded_of_change (C := Try.checked) own started (by kernel_rfl) Try.func7
    (ChangeSpec.witness6 (enc := enc) (C := Try.checked) false ⟨#[], #[.agg bun0, .int .i64 0, .bool false], []⟩ 8 (by kernel_rfl) (by kernel_rfl) (by kernel_rfl) (by kernel_rfl)) ?_
  intro W base args ds gs before hval0 hW hcnd _
  have hval : ∀ (j : Nat) t v, Try.f7.params[j]? = some t → args[j]? = some v → Value.okWide Try.prog W .any base t v := hval0
  have hW' := hW
  obtain ⟨p, q, hA0, hV, rfl, hfz, hnd⟩ := hW
  have hA : DataW.TrodAll enc Try.prog W 0 (fun _ => true) true Try.f7.params.toList args.toList ds p := hA0
  rw [Try.params7] at hA hval
  obtain ⟨v0, vs0, d0, ds0, p0, q0, hargs, rfl, rfl, h0, r0⟩ := trodAll_cons hA
  obtain ⟨v1, vs1, d1, ds1, p1, q1, rfl, rfl, rfl, h1, r1⟩ := trodAll_cons r0
  obtain ⟨v2, vs2, d2, ds2, p2, q2, rfl, rfl, rfl, h2, r2⟩ := trodAll_cons r1
  obtain ⟨rfl, rfl, rfl⟩ := trodAll_nil r2
  obtain rfl : args = #[v0, v1, v2] := by cases args; simp_all
  obtain ⟨b, u, rfl, hr, hf⟩ := open_bun (hval 0 28 v0 rfl rfl) h0
  obtain ⟨x1, rfl, _, _, wx1⟩ := open_int Try.underlying3 (hval 1 3 v1 rfl rfl) h1
  obtain ⟨x2, rfl⟩ := okWide_bool Try.underlying4 (hval 2 4 v2 rfl rfl)
  refine (walk b u x1 x2 W hr hf).mono fun e W' ⟨he, hB⟩ => ?_
  subst he
  refine ⟨_, rfl, law_post (by kernel_rfl) (by kernel_rfl) rfl Try.underlying4 rfl ?_ hW' hB⟩
  intro es hes
  match es, hes with
  | [_, _, _], _ => rfl

theorem proved : Rows.FragmentBytesSaid :=
  OpenClaim.holds_of_wide 7 Try.f7 rfl rfl rfl rfl rfl rfl rfl ⟨rfl, rfl, rfl, rfl, rfl⟩ rfl rfl rfl rfl rfl (by kernel_rfl) Try.func7 (by kernel_rfl)
    (of_decide_eq_true (by kernel_rfl)) (by unfold Func.isWrapper; first | (rw [if_pos (by decide +kernel)]; kernel_rfl) | (rw [if_neg (by decide +kernel)]; exact ⟨rfl, rfl⟩))
    (fun os started H enc _ => lifted os started H enc)
#print axioms proved
end Go.Proofs.Ytibfchdhppdccaa.fragmentBytes
