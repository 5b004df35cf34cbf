/-
  Proved: mailboatlaw12.BlockSingle returns true for every input, and leaves its arguments as they were. No condition.
-/
import Derived.Test.YtdnbegcebloodaaRows
import Derived.Test.YtdnbegcebloodaaGj
import Derived.Test.YtdnbegcebloodaaEg
import Derived.Test.YtdnbegcebloodaaGm
import Derived.Test.YtdnbegcebloodaaDn
import Derived.Test.YtdnbegcebloodaaR
import Derived.Test.YtdnbegcebloodaaL
set_option linter.unusedVariables false
set_option linter.unusedSimpArgs false
namespace Go.Proofs.Ytdnbegcebloodaa.blockSingle
open Go Go.ChangeShapes Go.WideShapes Go.ChangeAt Go.RowKit Go.Joins Go.Proofs.Ytdnbegcebloodaa
attribute [local go_sem] B_getElem B_size B_app B_extract B_get B_toList
attribute [local go_sem ↓] eqBlk

theorem own : ownKnob Try.prog.godebug = none := by kernel_rfl

attribute [local go_sem ↓] eqBlkE
set_option maxRecDepth 100000 in
set_option maxHeartbeats 3000000 in
theorem walk (b : Blk) (s : List UInt8) (w : World) (hdb : b.data.length ≤ maxLen) (hs : s.length ≤ maxLen) :
    Calls Try.prog 7 #[.agg #[.int .i64 b.kind, .int .i64 b.flags, .string (B b.data)], .string (B s)] w (Says w) := by
  have HDB := Lib.hid hdb
  have HS := Lib.hid hs
  have hbl : b.data.length ≤ 9223372036854775807 := by unfold maxLen at hdb; omega
  clear hdb hs
  go_enter Try.func7, Try.ntmps7
  go_wp2_with fail
  refine (lawGreat_s [b] _ s _ (RBlks.lit1 (x := b) (t := 29) (by exact heap_new' (by simp)) (by simp)) (fun x hx => by simp at hx; subst hx; exact HDB.out) HS.out).mono ?_
  rintro e w2 ⟨g, rfl, hg, hb2⟩
  have z2 : w.heap.size < w2.heap.size := by have := hb2.size; simp at this; omega
  have hB2 : Below w.heap.size w w2 := (by repeat' (first | (with_reducible refine bset ?_ ?_) | (with_reducible exact Below.refl _ _) | (with_reducible assumption) | (with_reducible refine bdrewN ?_ _) | (with_reducible refine bdrew ?_) | (with_reducible refine balloc0 ?_) | (with_reducible refine balloc ?_ ?_) | (with_reducible apply btrans0; rotate_left; with_reducible assumption) | (with_reducible apply btrans; rotate_left; with_reducible assumption) | exact Below.refl _ _ | assumption | (apply btrans0; rotate_left; assumption) | (apply btrans; rotate_left; assumption) | (simp; done) | omega | (simp; omega)))
  have B2 := (hb2.block w.heap.size (by simp; omega)).trans ((Below.heap_alloc _ _ _ (by simp)).trans heap_new)
  clear hb2
  cases g
  case true =>
    go_wp2_with fail
    refine (awake_any _).mono ?_
    rintro e w9 ⟨rfl, hb9⟩
    go_wp2
    go_ret
    exact ⟨rfl, (by repeat' (first | (with_reducible refine bset ?_ ?_) | (with_reducible exact Below.refl _ _) | (with_reducible assumption) | (with_reducible refine bdrewN ?_ _) | (with_reducible refine bdrew ?_) | (with_reducible refine balloc0 ?_) | (with_reducible refine balloc ?_ ?_) | (with_reducible apply btrans0; rotate_left; with_reducible assumption) | (with_reducible apply btrans; rotate_left; with_reducible assumption) | exact Below.refl _ _ | assumption | (apply btrans0; rotate_left; assumption) | (apply btrans; rotate_left; assumption) | (simp; done) | omega | (simp; omega)))⟩
  obtain ⟨_, hs15⟩ := hg rfl
  have hs9 : s.length ≤ 1000000000 := by omega
  obtain ⟨⟨x, n, de⟩, hdx⟩ : ∃ q, decS s = q := ⟨_, rfl⟩
  have HX := Lib.hid hdx
  obtain ⟨C, hC⟩ : ∃ q, blkE b = q := ⟨_, rfl⟩
  have HC := Lib.hid hC
  obtain ⟨R, hR⟩ : ∃ q, encR b = q := ⟨_, rfl⟩
  have HR := Lib.hid hR
  have cb := fun o => cellB B2 o
  clear hg hs15 hdx hC hR
  go_wp2_with fail
  refine (bencode_any b _ hbl).mono ?_
  rw [HC.out, HR.out]
  rintro e w3 ⟨rfl, hb3⟩
  have z3 : w.heap.size < w3.heap.size := by have := hb3.size; omega
  have hB3 : Below w.heap.size w w3 := (by repeat' (first | (with_reducible refine bset ?_ ?_) | (with_reducible exact Below.refl _ _) | (with_reducible assumption) | (with_reducible refine bdrewN ?_ _) | (with_reducible refine bdrew ?_) | (with_reducible refine balloc0 ?_) | (with_reducible refine balloc ?_ ?_) | (with_reducible apply btrans0; rotate_left; with_reducible assumption) | (with_reducible apply btrans; rotate_left; with_reducible assumption) | exact Below.refl _ _ | assumption | (apply btrans0; rotate_left; assumption) | (apply btrans; rotate_left; assumption) | (simp; done) | omega | (simp; omega)))
  have B3 := (hb3.block w.heap.size z2).trans B2
  have cb := fun o => cellB B3 o
  clear hb3 B2 hB2
  go_wp2_with fail
  refine (rencode_any b _ hbl).mono ?_
  rw [HC.out, HR.out]
  rintro e w4 ⟨rfl, hb4⟩
  have z4 : w.heap.size < w4.heap.size := by have := hb4.size; omega
  have hB4 : Below w.heap.size w w4 := (by repeat' (first | (with_reducible refine bset ?_ ?_) | (with_reducible exact Below.refl _ _) | (with_reducible assumption) | (with_reducible refine bdrewN ?_ _) | (with_reducible refine bdrew ?_) | (with_reducible refine balloc0 ?_) | (with_reducible refine balloc ?_ ?_) | (with_reducible apply btrans0; rotate_left; with_reducible assumption) | (with_reducible apply btrans; rotate_left; with_reducible assumption) | exact Below.refl _ _ | assumption | (apply btrans0; rotate_left; assumption) | (apply btrans; rotate_left; assumption) | (simp; done) | omega | (simp; omega)))
  have B4 := (hb4.block w.heap.size z3).trans B3
  have cb := fun o => cellB B4 o
  clear hb4 B3 hB3
  go_wp2_with fail
  refine (decode_any s x n de _ hs9 HX.out).mono ?_
  rintro e w5 ⟨rfl, hb5⟩
  have z5 : w.heap.size < w5.heap.size := by have := hb5.size; omega
  have hB5 : Below w.heap.size w w5 := (by repeat' (first | (with_reducible refine bset ?_ ?_) | (with_reducible exact Below.refl _ _) | (with_reducible assumption) | (with_reducible refine bdrewN ?_ _) | (with_reducible refine bdrew ?_) | (with_reducible refine balloc0 ?_) | (with_reducible refine balloc ?_ ?_) | (with_reducible apply btrans0; rotate_left; with_reducible assumption) | (with_reducible apply btrans; rotate_left; with_reducible assumption) | exact Below.refl _ _ | assumption | (apply btrans0; rotate_left; assumption) | (apply btrans; rotate_left; assumption) | (simp; done) | omega | (simp; omega)))
  have B5 := (hb5.block w.heap.size z4).trans B4
  clear hb5 B4 hB4 cb
  go_wp2_with fail
  refine (rdecode_any s x n de _ hs9 HX.out).mono ?_
  rintro e w6 ⟨rfl, hb6⟩
  have z6 : w5.heap.size < w6.heap.size := by have := hb6.size; simp at this; omega
  have hB6 : Below w.heap.size w w6 := (by repeat' (first | (with_reducible refine bset ?_ ?_) | (with_reducible exact Below.refl _ _) | (with_reducible assumption) | (with_reducible refine bdrewN ?_ _) | (with_reducible refine bdrew ?_) | (with_reducible refine balloc0 ?_) | (with_reducible refine balloc ?_ ?_) | (with_reducible apply btrans0; rotate_left; with_reducible assumption) | (with_reducible apply btrans; rotate_left; with_reducible assumption) | exact Below.refl _ _ | assumption | (apply btrans0; rotate_left; assumption) | (apply btrans; rotate_left; assumption) | (simp; done) | omega | (simp; omega)))
  have B6 := (hb6.block w.heap.size (by simp; omega)).trans ((Below.heap_alloc _ _ _ z5).trans B5)
  have X6 : w6.heap[w5.heap.size]? = some (.cells #[.int .i64 x.kind, .int .i64 x.flags, .string (B x.data)] 29 (0, 0)) := (hb6.block _ (by simp)).trans heap_new
  clear hb6 B5 hB5
  go_wp2
  have hB7 : Below w.heap.size w (w6.alloc (.cells #[.int .i64 x.kind, .int .i64 x.flags, .string (B x.data)] 29)) := (by repeat' (first | (with_reducible refine bset ?_ ?_) | (with_reducible exact Below.refl _ _) | (with_reducible assumption) | (with_reducible refine bdrewN ?_ _) | (with_reducible refine bdrew ?_) | (with_reducible refine balloc0 ?_) | (with_reducible refine balloc ?_ ?_) | (with_reducible apply btrans0; rotate_left; with_reducible assumption) | (with_reducible apply btrans; rotate_left; with_reducible assumption) | exact Below.refl _ _ | assumption | (apply btrans0; rotate_left; assumption) | (apply btrans; rotate_left; assumption) | (simp; done) | omega | (simp; omega)))
  have B7 := (Below.heap_alloc w6 (.cells #[.int .i64 x.kind, .int .i64 x.flags, .string (B x.data)] 29) _ (by omega : w.heap.size < w6.heap.size)).trans B6
  have X7 := (Below.heap_alloc w6 (.cells #[.int .i64 x.kind, .int .i64 x.flags, .string (B x.data)] 29) _ z6).trans X6
  have Y7 : (w6.alloc (.cells #[.int .i64 x.kind, .int .i64 x.flags, .string (B x.data)] 29)).heap[w6.heap.size]? = some (.cells #[.int .i64 x.kind, .int .i64 x.flags, .string (B x.data)] 29 (0, 0)) := heap_new
  have s7 : (w6.alloc (.cells #[.int .i64 x.kind, .int .i64 x.flags, .string (B x.data)] 29)).heap.size = w6.heap.size + 1 := by simp
  generalize w6.alloc (.cells #[.int .i64 x.kind, .int .i64 x.flags, .string (B x.data)] 29) = W at *
  have cb := fun o => cellB B7 o
  have cx := fun o => cellB X7 o
  have cy := fun o => cellB Y7 o
  clear B6 X6 B7 X7 Y7
  refine wp_region_plan (fun V => (∀ o, V.cell? ⟨w.heap.size, o, none⟩ = (#[.int .i64 b.kind, .int .i64 b.flags, .string (B b.data)] : Array Value)[o]?) ∧ (∀ o, V.cell? ⟨w5.heap.size, o, none⟩ = (#[.int .i64 x.kind, .int .i64 x.flags, .string (B x.data)] : Array Value)[o]?) ∧ (∀ o, V.cell? ⟨w6.heap.size, o, none⟩ = (#[.int .i64 x.kind, .int .i64 x.flags, .string (B x.data)] : Array Value)[o]?)) [1, 2, 1, 2, 0, 0, 0, 0, 0, 0, 0, 0, 0, 0, 0, 0, 1, 1, 0, 0, 0, 0, 0, 0, 0, 0, 0, 0, 0, 0, 0, 3, 0, 0] [0, 2, 1, 3, 4, 5, 6, 7, 8, 9, 10, 11, 12, 13, 14, 15, 16, 17, 18, 19, 20, 21, 22, 23, 24, 25, 26, 27, 28, 29, 30, 31, 32, 33] (by kernel_rfl) (by kernel_rfl) ?_ ?_
  case refine_1 => exact ⟨cb, cx, cy⟩
  (iterate 2 (refine plan_held rfl (by decide) (by rfl) (fun w1 hS => by (try (have hS := hS rfl; obtain hS := hS; repeat (obtain ⟨_, hS⟩ := hS))); go_simp; rfl) ?_; simp only [Act.put, List.setIfInBounds_toArray, List.set_cons_zero, List.set_cons_succ]))
  (refine plan_keep rfl rfl (by rfl) (fun K hK => ?_); go_simp)
  refine (bcheck_any b _ hbl).mono ?_
  rw [HC.out]
  rintro e w7 ⟨rfl, hb7⟩
  have l7 : W.heap.size ≤ w7.heap.size := by have := hb7.size; simpa using this
  have k7 : ∀ g o, g < W.heap.size → w7.cell? ⟨g, o, none⟩ = W.cell? ⟨g, o, none⟩ := fun g o hg => hb7.cell (p := ⟨g, o, none⟩) (by simpa using hg)
  (refine hK _ _ (by exact ⟨fun o => (k7 _ _ (by omega)).trans (cb o), fun o => (k7 _ _ (by omega)).trans (cx o), fun o => (k7 _ _ (by omega)).trans (cy o)⟩) ?_; clear hK K; (try simp only [Act.put, List.setIfInBounds_toArray, List.set_cons_zero, List.set_cons_succ]))
  (refine plan_keep rfl rfl (by rfl) (fun K hK => ?_); go_simp)
  refine (rbcheck_any b _ hbl).mono ?_
  rw [HC.out]
  rintro e w8 ⟨rfl, hb8⟩
  have l8 : w7.heap.size ≤ w8.heap.size := hb8.size
  have k8 : ∀ g o, g < W.heap.size → w8.cell? ⟨g, o, none⟩ = W.cell? ⟨g, o, none⟩ := fun g o hg => (hb8.cell (p := ⟨g, o, none⟩) (by show g < _; omega)).trans (k7 g o hg)
  (refine hK _ _ (by exact ⟨fun o => (k8 _ _ (by omega)).trans (cb o), fun o => (k8 _ _ (by omega)).trans (cx o), fun o => (k8 _ _ (by omega)).trans (cy o)⟩) ?_; clear hK K; (try simp only [Act.put, List.setIfInBounds_toArray, List.set_cons_zero, List.set_cons_succ]))
  have hB8 : Below w.heap.size w w8 := (by repeat' (first | (with_reducible refine bset ?_ ?_) | (with_reducible exact Below.refl _ _) | (with_reducible assumption) | (with_reducible refine bdrewN ?_ _) | (with_reducible refine bdrew ?_) | (with_reducible refine balloc0 ?_) | (with_reducible refine balloc ?_ ?_) | (with_reducible apply btrans0; rotate_left; with_reducible assumption) | (with_reducible apply btrans; rotate_left; with_reducible assumption) | exact Below.refl _ _ | assumption | (apply btrans0; rotate_left; assumption) | (apply btrans; rotate_left; assumption) | (simp; done) | omega | (simp; omega)))
  clear k7 k8 cb cx cy
  (iterate 27 (refine plan_held rfl (by decide) (by rfl) (fun w1 hS => by (try (have hS := hS rfl; obtain hS := hS; repeat (obtain ⟨_, hS⟩ := hS))); go_simp; rfl) ?_; simp only [Act.put, List.setIfInBounds_toArray, List.set_cons_zero, List.set_cons_succ]))
  (refine plan_late rfl rfl (by rfl) (fun K hK => ?_); go_simp)
  refine (awake_any _).mono ?_
  rintro e w9 ⟨rfl, hb9⟩
  (refine hK _ _ ?_; clear hK K; (try simp only [Act.put, List.setIfInBounds_toArray, List.set_cons_zero, List.set_cons_succ]))
  (iterate 2 (refine plan_held rfl (by decide) (by rfl) (fun w1 hS => by (try (have hS := hS rfl; obtain hS := hS; repeat (obtain ⟨_, hS⟩ := hS))); go_simp; rfl) ?_; simp only [Act.put, List.setIfInBounds_toArray, List.set_cons_zero, List.set_cons_succ]))
  refine plan_done ?_
  go_wp2
  go_ret
  exact ⟨rfl, (by repeat' (first | (with_reducible refine bset ?_ ?_) | (with_reducible exact Below.refl _ _) | (with_reducible assumption) | (with_reducible refine bdrewN ?_ _) | (with_reducible refine bdrew ?_) | (with_reducible refine balloc0 ?_) | (with_reducible refine balloc ?_ ?_) | (with_reducible apply btrans0; rotate_left; with_reducible assumption) | (with_reducible apply btrans; rotate_left; with_reducible assumption) | exact Below.refl _ _ | assumption | (apply btrans0; rotate_left; assumption) | (apply btrans; rotate_left; assumption) | (simp; done) | omega | (simp; omega)))⟩

set_option maxRecDepth 100000 in
theorem lifted (os : Os) (started : os.Started) (H : Type) (enc : TypeId × Value → H) :
    ReturnsInHanded {} Try.checked os 7 .any (Rows.blockSingleSpec.pre6 enc Try.prog Try.f7 Rows.blockSingleRow.domain false) (Rows.blockSingleSpec.post enc Try.prog Try.f7 false true false false) := by
  refine returnsInHanded_of_change (C := Try.checked) own started (by kernel_rfl) Try.func7
    (ChangeSpec.witness6 (enc := enc) (C := Try.checked) false ⟨#[], #[.agg #[.int .i64 0, .int .i64 0, .string (B [])], .string (B [])], []⟩ 8 (by kernel_rfl) (by kernel_rfl) (by kernel_rfl) (by kernel_rfl)) ?_
  intro W base args ds gs before hval0 hW hcnd _
  have hval : ∀ (j : Nat) t v, Try.f7.params[j]? = some t → args[j]? = some v → Value.okWide Try.prog W .any base t v := hval0
  have hW' := hW
  obtain ⟨p, q, hA0, hV, rfl, hfz, hnd⟩ := hW
  have hA : DataW.TrodAll enc Try.prog W 0 (fun _ => true) true Try.f7.params.toList args.toList ds p := hA0
  rw [Try.params7] at hA hval
  obtain ⟨v0, vs0, d0, ds0, p0, q0, hargs, rfl, rfl, h0, r0⟩ := trodAll_cons hA
  obtain ⟨v1, vs1, d1, ds1, p1, q1, rfl, rfl, rfl, h1, r1⟩ := trodAll_cons r0
  obtain ⟨rfl, rfl, rfl⟩ := trodAll_nil r1
  obtain rfl : args = #[v0, v1] := by cases args; simp_all
  obtain ⟨x0, rfl, hd0⟩ := open_blk_arg (hval 0 29 v0 rfl rfl) h0
  obtain ⟨x1, rfl, hs1⟩ := open_str_arg (hval 1 9 v1 rfl rfl) h1
  refine (walk x0 x1 W hd0 hs1).mono fun e W' ⟨he, hB⟩ => ?_
  subst he
  refine ⟨_, rfl, law_post (by kernel_rfl) (by kernel_rfl) rfl Try.underlying4 rfl ?_ hW' hB⟩
  intro es hes
  match es, hes with
  | [_, _], _ => rfl

theorem proved : Rows.BlockSingleSaid :=
  OpenClaim.holds_of_wide 7 Try.f7 rfl rfl rfl rfl rfl rfl rfl ⟨rfl, rfl, rfl, rfl, rfl⟩ rfl rfl rfl rfl rfl (by kernel_rfl) Try.func7 (by kernel_rfl)
    (of_decide_eq_true (by kernel_rfl)) (by unfold Func.isWrapper; first | (rw [if_pos (by decide +kernel)]; kernel_rfl) | (rw [if_neg (by decide +kernel)]; exact ⟨rfl, rfl⟩))
    (fun os started H enc _ => lifted os started H enc)
#print axioms proved
end Go.Proofs.Ytdnbegcebloodaa.blockSingle
