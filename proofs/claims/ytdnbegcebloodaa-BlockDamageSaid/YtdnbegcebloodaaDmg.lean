/-
  Proved: mailboatlaw12.BlockDamage returns true for every input, and leaves its arguments as they were. No condition.
-/
import Derived.Test.YtdnbegcebloodaaRows
import Derived.Test.YtdnbegcebloodaaGj
import Derived.Test.YtdnbegcebloodaaEg
import Derived.Test.YtdnbegcebloodaaGm
import Derived.Test.YtdnbegcebloodaaPg
import Derived.Test.YtdnbegcebloodaaR
import Derived.Test.YtdnbegcebloodaaL
set_option linter.unusedVariables false
set_option linter.unusedSimpArgs false
namespace Go.Proofs.Ytdnbegcebloodaa.blockDamage
open Go Go.ChangeShapes Go.WideShapes Go.ChangeAt Go.RowKit Go.Joins Go.Proofs.Ytdnbegcebloodaa
attribute [local go_sem] B_getElem B_size B_app B_extract B_get B_toList
attribute [local go_sem ↓] eqBlk

theorem own : ownKnob Try.prog.godebug = none := by kernel_rfl

attribute [local go_sem ↓] str_bytes
set_option maxRecDepth 100000 in
set_option maxHeartbeats 4000000 in
theorem walk (b : Blk) (at' ch : Int) (w : World) (hdb : b.data.length ≤ maxLen) (hat : 0 ≤ at' ∧ at' < 65536) (hch : 0 ≤ ch ∧ ch < 256) :
    Calls Try.prog 8 #[.agg #[.int .i64 b.kind, .int .i64 b.flags, .string (B b.data)], .int .u16 at', .int .u8 ch] w (Says w) := by
  have HDB := Lib.hid hdb
  have hbl : b.data.length ≤ 9223372036854775807 := by unfold maxLen at hdb; omega
  obtain ⟨ha0, ha1⟩ := hat
  obtain ⟨hc0, hc1⟩ := hch
  clear hdb
  go_enter Try.func8, Try.ntmps8
  go_wp2_with fail
  refine (lawGreat_s [b] _ [] _ (RBlks.lit1 (x := b) (t := 29) (by exact heap_new' (by simp)) (by simp)) (fun x hx => by simp at hx; subst hx; exact HDB.out) (by simp [maxLen])).mono ?_
  rintro e w2 ⟨g, rfl, hg, hb2⟩
  have z2 : w.heap.size < w2.heap.size := by have := hb2.size; simp at this; omega
  have hB2 : Below w.heap.size w w2 := (by repeat' (first | (with_reducible refine bset ?_ ?_) | (with_reducible exact Below.refl _ _) | (with_reducible assumption) | (with_reducible refine bdrewN ?_ _) | (with_reducible refine bdrew ?_) | (with_reducible refine balloc0 ?_) | (with_reducible refine balloc ?_ ?_) | (with_reducible apply btrans0; rotate_left; with_reducible assumption) | (with_reducible apply btrans; rotate_left; with_reducible assumption) | exact Below.refl _ _ | assumption | (apply btrans0; rotate_left; assumption) | (apply btrans; rotate_left; assumption) | (simp; done) | omega | (simp; omega)))
  have B2 := (hb2.block w.heap.size (by simp; omega)).trans ((Below.heap_alloc _ _ _ (by simp)).trans heap_new)
  clear hb2 hg
  cases g
  case true =>
    go_wp2_with fail
    refine (awake_any _).mono ?_
    rintro e w9 ⟨rfl, hb9⟩
    go_wp2
    go_ret
    exact ⟨rfl, (by repeat' (first | (with_reducible refine bset ?_ ?_) | (with_reducible exact Below.refl _ _) | (with_reducible assumption) | (with_reducible refine bdrewN ?_ _) | (with_reducible refine bdrew ?_) | (with_reducible refine balloc0 ?_) | (with_reducible refine balloc ?_ ?_) | (with_reducible apply btrans0; rotate_left; with_reducible assumption) | (with_reducible apply btrans; rotate_left; with_reducible assumption) | exact Below.refl _ _ | assumption | (apply btrans0; rotate_left; assumption) | (apply btrans; rotate_left; assumption) | (simp; done) | omega | (simp; omega)))⟩
  by_cases hc : ch = 0
  · have hc' : (ch == 0) = true := beq_iff_eq.2 hc
    go_wp2_with fail
    refine (awake_any _).mono ?_
    rintro e w9 ⟨rfl, hb9⟩
    go_wp2
    go_ret
    exact ⟨rfl, (by repeat' (first | (with_reducible refine bset ?_ ?_) | (with_reducible exact Below.refl _ _) | (with_reducible assumption) | (with_reducible refine bdrewN ?_ _) | (with_reducible refine bdrew ?_) | (with_reducible refine balloc0 ?_) | (with_reducible refine balloc ?_ ?_) | (with_reducible apply btrans0; rotate_left; with_reducible assumption) | (with_reducible apply btrans; rotate_left; with_reducible assumption) | exact Below.refl _ _ | assumption | (apply btrans0; rotate_left; assumption) | (apply btrans; rotate_left; assumption) | (simp; done) | omega | (simp; omega)))⟩
  have hc' : (ch == 0) = false := beq_eq_false_iff_ne.2 hc
  have cb := fun o => cellB B2 o
  obtain ⟨E, hE⟩ : ∃ q, blkE b = q := ⟨_, rfl⟩
  have HE := Lib.hid hE
  obtain ⟨R, hR⟩ : ∃ q, encR b = q := ⟨_, rfl⟩
  have HR := Lib.hid hR
  clear hE hR
  go_wp2_with fail
  refine (bencode_any b _ hbl).mono ?_
  rw [HE.out, HR.out]
  rintro e w3 ⟨rfl, hb3⟩
  have hB3 : Below w.heap.size w w3 := (by repeat' (first | (with_reducible refine bset ?_ ?_) | (with_reducible exact Below.refl _ _) | (with_reducible assumption) | (with_reducible refine bdrewN ?_ _) | (with_reducible refine bdrew ?_) | (with_reducible refine balloc0 ?_) | (with_reducible refine balloc ?_ ?_) | (with_reducible apply btrans0; rotate_left; with_reducible assumption) | (with_reducible apply btrans; rotate_left; with_reducible assumption) | exact Below.refl _ _ | assumption | (apply btrans0; rotate_left; assumption) | (apply btrans; rotate_left; assumption) | (simp; done) | omega | (simp; omega)))
  clear hb3 B2 hB2 cb
  by_cases hz : E = 0
  case neg =>
    have hz' : (E == 0) = false := beq_eq_false_iff_ne.2 hz
    have hz2 : (E != 0) = true := by simp [hz]
    go_wp2_with fail
    refine (awake_any _).mono ?_
    rintro e w9 ⟨rfl, hb9⟩
    go_wp2
    go_ret
    exact ⟨rfl, (by repeat' (first | (with_reducible refine bset ?_ ?_) | (with_reducible exact Below.refl _ _) | (with_reducible assumption) | (with_reducible refine bdrewN ?_ _) | (with_reducible refine bdrew ?_) | (with_reducible refine balloc0 ?_) | (with_reducible refine balloc ?_ ?_) | (with_reducible apply btrans0; rotate_left; with_reducible assumption) | (with_reducible apply btrans; rotate_left; with_reducible assumption) | exact Below.refl _ _ | assumption | (apply btrans0; rotate_left; assumption) | (apply btrans; rotate_left; assumption) | (simp; done) | omega | (simp; omega)))⟩
  subst hz
  have hRE : R = encB b := by rw [← HR.out]; unfold encR; rw [if_pos HE.out]
  have hRl : 0 < R.length ∧ R.length ≤ 1100 := by
    rw [hRE]
    refine ⟨?_, encB_len b (blkE_zero HE.out).2.2.2.2⟩
    rw [show (encB b).length = _ from sealE_len _]; omega
  obtain ⟨hR0, hR1⟩ := hRl
  obtain ⟨n, hn⟩ : ∃ n, R.length = n := ⟨_, rfl⟩
  have HN := Lib.hid hn
  obtain ⟨i, hi⟩ : ∃ i : Nat, at'.tmod (n : Int) = i := ⟨(at'.tmod n).toNat, by
    have := Int.tmod_nonneg (n : Int) ha0
    omega⟩
  have hin : i < n := by
    have h1 := Int.tmod_lt_of_pos at' (show (0 : Int) < (n : Int) by omega)
    rw [hi] at h1; omega
  have hmod : at' % (n : Int) = (i : Int) := by rw [← hi, Int.tmod_eq_emod_of_nonneg ha0]
  obtain ⟨x, hx⟩ : ∃ x, R[i]? = some x := ⟨_, List.getElem?_eq_getElem (by omega)⟩
  obtain ⟨c, hcc⟩ : ∃ c : UInt8, ch = (c.toNat : Int) := ⟨UInt8.ofNat ch.toNat, by rw [ofNat_toNat' (by omega)]; omega⟩
  subst hcc
  have hxy : x ≠ x ^^^ c := by
    intro h
    have h2 : c = 0 := by
      have : x ^^^ x = x ^^^ (x ^^^ c) := by rw [← h]
      rw [← UInt8.xor_assoc, UInt8.xor_self, UInt8.zero_xor] at this
      exact this.symm
    exact hc (by rw [h2]; rfl)
  obtain ⟨y, hy⟩ : ∃ y, x ^^^ c = y := ⟨_, rfl⟩
  have hxor : bits .xor .u8 (x.toNat : Int) (c.toNat : Int) = (y.toNat : Int) := by rw [← hy]; exact u8_xor x c
  rw [hy] at hxy
  obtain ⟨⟨z, sz, de⟩, hd⟩ : ∃ q, decS (R.set i y) = q := ⟨_, rfl⟩
  have HX := Lib.hid hd
  have hbad : ¬ (de = 0 ∧ sz = (n : Int)) := by
    rintro ⟨rfl, rfl⟩
    rw [← hn] at hd
    rw [hRE] at hd hx
    exact damage hx hxy hd
  have i0 : (0 : Int) ≤ (i : Int) := by omega
  have i1 : (i : Int) < (n : Int) := by omega
  have n0 : ¬ (n : Int) = 0 := by omega
  have n1 : ((n : Int) == 0) = false := beq_eq_false_iff_ne.2 n0
  have hl9 : (R.set i y).length ≤ 1000000000 := by rw [List.length_set]; omega
  obtain ⟨V, hV⟩ : ∃ V, Lib.bytesWorld w3 5 (B R) = V := ⟨_, rfl⟩
  have HVB : Below w.heap.size w V := by rw [← hV]; exact btrans0 hB3 bytes_below
  have hVc : V.cell? ⟨w3.heap.size, i, none⟩ = some (.int .u8 (x.toNat : Int)) := by rw [← hV]; exact bytes_cell _ _ _ _ _ hx
  have hVf : V.frozen? ⟨w3.heap.size, i, none⟩ = false := by rw [← hV]; exact bytes_thaw _ _ _ _ (by omega)
  have z3 : w.heap.size ≤ w3.heap.size := hB3.size
  have hVs : w3.heap.size < V.heap.size := by rw [← hV, Lib.bytesWorld_size]; omega
  have hback := fun cap => bytes_str V w3.heap.size n cap i R y hn hin (fun j x' h => by rw [← hV]; exact bytes_cell _ _ _ _ _ h)
  clear hRE hx hd hxy hy hi
  go_wp2_with fail
  refine (decode_any (R.set i y) z sz de _ hl9 HX.out).mono ?_
  rintro e w4 ⟨rfl, hb4⟩
  have hB4 : Below w.heap.size w w4 := btrans (bset HVB z3) hb4 (by simp; omega)
  clear hb4
  by_cases hde : de = 0
  case neg =>
    have hde' : (de == 0) = false := beq_eq_false_iff_ne.2 hde
    have hde2 : (de != 0) = true := by simp [hde]
    go_wp2_with fail
    refine (awake_any _).mono ?_
    rintro e w9 ⟨rfl, hb9⟩
    go_wp2
    go_ret
    exact ⟨rfl, (by repeat' (first | (with_reducible refine bset ?_ ?_) | (with_reducible exact Below.refl _ _) | (with_reducible assumption) | (with_reducible refine bdrewN ?_ _) | (with_reducible refine bdrew ?_) | (with_reducible refine balloc0 ?_) | (with_reducible refine balloc ?_ ?_) | (with_reducible apply btrans0; rotate_left; with_reducible assumption) | (with_reducible apply btrans; rotate_left; with_reducible assumption) | exact Below.refl _ _ | assumption | (apply btrans0; rotate_left; assumption) | (apply btrans; rotate_left; assumption) | (simp; done) | omega | (simp; omega)))⟩
  subst hde
  have hsz : ¬ sz = (n : Int) := fun h => hbad ⟨rfl, h⟩
  have hsz' : (sz == (n : Int)) = false := beq_eq_false_iff_ne.2 hsz
  have hsz2 : (sz != (n : Int)) = true := by simp [hsz]
  clear hbad
  go_wp2_with fail
  refine (awake_any _).mono ?_
  rintro e w9 ⟨rfl, hb9⟩
  go_wp2
  go_ret
  exact ⟨rfl, (by repeat' (first | (with_reducible refine bset ?_ ?_) | (with_reducible exact Below.refl _ _) | (with_reducible assumption) | (with_reducible refine bdrewN ?_ _) | (with_reducible refine bdrew ?_) | (with_reducible refine balloc0 ?_) | (with_reducible refine balloc ?_ ?_) | (with_reducible apply btrans0; rotate_left; with_reducible assumption) | (with_reducible apply btrans; rotate_left; with_reducible assumption) | exact Below.refl _ _ | assumption | (apply btrans0; rotate_left; assumption) | (apply btrans; rotate_left; assumption) | (simp; done) | omega | (simp; omega)))⟩

set_option maxRecDepth 100000 in
theorem lifted (os : Os) (started : os.Started) (H : Type) (enc : TypeId × Value → H) :
    ReturnsInHanded {} Try.checked os 8 .any (Rows.blockDamageSpec.pre6 enc Try.prog Try.f8 Rows.blockDamageRow.domain false) (Rows.blockDamageSpec.post enc Try.prog Try.f8 false true false false) := by
  refine returnsInHanded_of_change (C := Try.checked) own started (by kernel_rfl) Try.func8
    (ChangeSpec.witness6 (enc := enc) (C := Try.checked) false ⟨#[], #[.agg #[.int .i64 0, .int .i64 0, .string (B [])], .int .u16 0, .int .u8 0], []⟩ 8 (by kernel_rfl) (by kernel_rfl) (by kernel_rfl) (by kernel_rfl)) ?_
  intro W base args ds gs before hval0 hW hcnd _
  have hval : ∀ (j : Nat) t v, Try.f8.params[j]? = some t → args[j]? = some v → Value.okWide Try.prog W .any base t v := hval0
  have hW' := hW
  obtain ⟨p, q, hA0, hV, rfl, hfz, hnd⟩ := hW
  have hA : DataW.TrodAll enc Try.prog W 0 (fun _ => true) true Try.f8.params.toList args.toList ds p := hA0
  rw [Try.params8] at hA hval
  obtain ⟨v0, vs0, d0, ds0, p0, q0, hargs, rfl, rfl, h0, r0⟩ := trodAll_cons hA
  obtain ⟨v1, vs1, d1, ds1, p1, q1, rfl, rfl, rfl, h1, r1⟩ := trodAll_cons r0
  obtain ⟨v2, vs2, d2, ds2, p2, q2, rfl, rfl, rfl, h2, r2⟩ := trodAll_cons r1
  obtain ⟨rfl, rfl, rfl⟩ := trodAll_nil r2
  obtain rfl : args = #[v0, v1, v2] := by cases args; simp_all
  obtain ⟨x0, rfl, hd0⟩ := open_blk_arg (hval 0 29 v0 rfl rfl) h0
  obtain ⟨x1, rfl, _, _, wx1⟩ := open_int Try.underlying55 (hval 1 55 v1 rfl rfl) h1
  obtain ⟨x2, rfl, _, _, wx2⟩ := open_int Try.underlying5 (hval 2 5 v2 rfl rfl) h2
  refine (walk x0 x1 x2 W hd0 (by have := wx1; simp [Lit.wf, IntKind.min, IntKind.max, IntKind.signed, IntKind.bits] at this; omega) (by have := wx2; simp [Lit.wf, IntKind.min, IntKind.max, IntKind.signed, IntKind.bits] at this; omega)).mono fun e W' ⟨he, hB⟩ => ?_
  subst he
  refine ⟨_, rfl, law_post (by kernel_rfl) (by kernel_rfl) rfl Try.underlying4 rfl ?_ hW' hB⟩
  intro es hes
  match es, hes with
  | [_, _, _], _ => rfl

theorem proved : Rows.BlockDamageSaid :=
  OpenClaim.holds_of_wide 8 Try.f8 rfl rfl rfl rfl rfl rfl rfl ⟨rfl, rfl, rfl, rfl, rfl⟩ rfl rfl rfl rfl rfl (by kernel_rfl) Try.func8 (by kernel_rfl)
    (of_decide_eq_true (by kernel_rfl)) (by unfold Func.isWrapper; first | (rw [if_pos (by decide +kernel)]; kernel_rfl) | (rw [if_neg (by decide +kernel)]; exact ⟨rfl, rfl⟩))
    (fun os started H enc _ => lifted os started H enc)
#print axioms proved
end Go.Proofs.Ytdnbegcebloodaa.blockDamage
