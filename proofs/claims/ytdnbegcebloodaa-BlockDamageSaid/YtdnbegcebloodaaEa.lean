/- Layer 12 (block), the program: Check, Encode, EncodeAll, valid. -/
import Derived.Test.YtdnbegcebloodaaDe
import Derived.Test.YtdnbegcebloodaaR
set_option linter.unusedVariables false
set_option linter.unusedSimpArgs false
namespace Go.Proofs.Ytdnbegcebloodaa
open Go Go.RowKit
attribute [local go_sem] B_getElem B_size B_app B_extract B_get B_toList

def blkV (x : Blk) : Value := .agg (blkC x).toArray
set_option maxHeartbeats 1000000 in
theorem bcheck_any (x : Blk) (w : World) (hx : x.data.length ≤ 9223372036854775807) :
    Calls Try.prog 37 #[.agg #[.int .i64 x.kind, .int .i64 x.flags, .string (B x.data)]] w fun e w' => e = .returned (.int .i64 (blkE x)) ∧ Below w.heap.size w w' := by
  obtain ⟨E, hE⟩ : ∃ E, blkE x = E := ⟨_, rfl⟩
  have HE := Lib.hid hE
  rw [hE]
  clear hE
  go_enter Try.func37, Try.ntmps37
  go_wp2
  all_goals (go_ret; refine ⟨ret_int ?_, (by repeat' (first | (with_reducible refine bset ?_ ?_) | (with_reducible exact Below.refl _ _) | (with_reducible assumption) | (with_reducible refine bdrewN ?_ _) | (with_reducible refine bdrew ?_) | (with_reducible refine balloc0 ?_) | (with_reducible refine balloc ?_ ?_) | (with_reducible apply btrans0; rotate_left; with_reducible assumption) | (with_reducible apply btrans; rotate_left; with_reducible assumption) | exact Below.refl _ _ | assumption | (apply btrans0; rotate_left; assumption) | (apply btrans; rotate_left; assumption) | (simp; done) | omega | (simp; omega)))⟩; rw [← HE.out]; unfold blkE; (try simp only [Bool.not_eq_true', Bool.not_eq_false', decide_eq_true_eq, decide_eq_false_iff_not, beq_iff_eq, beq_eq_false_iff_ne, bne_iff_ne, bne_eq_false_iff_eq, ne_eq, Bool.and_eq_true, Bool.or_eq_true, Bool.and_eq_false_imp, Bool.or_eq_false_iff] at *); repeat' (first | omega | split))

/-- the bytes of a block -/
def encB (x : Blk) : List UInt8 := sealE (intE x.kind ++ intE x.flags ++ textE x.data)
def encR (x : Blk) : List UInt8 := if blkE x = 0 then encB x else []
theorem encB_len (x : Blk) (h : x.data.length ≤ 1024) : (encB x).length ≤ 1100 := by
  have a := intE_len x.kind
  have b := intE_len x.flags
  have c := textE_len x.data
  have d := textE_len (intE x.kind ++ intE x.flags ++ textE x.data)
  unfold encB sealE
  rw [List.length_append]
  have : (tailB (textE (intE x.kind ++ intE x.flags ++ textE x.data))).length = 4 := rfl
  simp only [List.length_append] at *
  omega
set_option maxHeartbeats 1000000 in
theorem bencode_bad (x : Blk) (w : World) (hx : x.data.length ≤ 9223372036854775807) (hE : blkE x ≠ 0) :
    Calls Try.prog 33 #[.agg #[.int .i64 x.kind, .int .i64 x.flags, .string (B x.data)]] w fun e w' => e = .returned (.tuple #[.string (B []), .int .i64 (blkE x)]) ∧ Below w.heap.size w w' := by
  have hE' : (blkE x == 0) = false := beq_eq_false_iff_ne.2 hE
  obtain ⟨E, hE2⟩ : ∃ E, blkE x = E := ⟨_, rfl⟩
  rw [hE2] at hE'
  have HE := Lib.hid hE2
  rw [hE2]
  clear hE hE2
  go_enter Try.func33, Try.ntmps33
  go_wp2_with fail
  refine (bcheck_any x _ hx).mono ?_
  rw [HE.out]
  rintro e w1 ⟨rfl, hb1⟩
  go_wp2
  go_ret2
  exact ⟨rfl, (by repeat' (first | (with_reducible refine bset ?_ ?_) | (with_reducible exact Below.refl _ _) | (with_reducible assumption) | (with_reducible refine bdrewN ?_ _) | (with_reducible refine bdrew ?_) | (with_reducible refine balloc0 ?_) | (with_reducible refine balloc ?_ ?_) | (with_reducible apply btrans0; rotate_left; with_reducible assumption) | (with_reducible apply btrans; rotate_left; with_reducible assumption) | exact Below.refl _ _ | assumption | (apply btrans0; rotate_left; assumption) | (apply btrans; rotate_left; assumption) | (simp; done) | omega | (simp; omega)))⟩
set_option maxHeartbeats 1000000 in
theorem bencode_ok (x : Blk) (w : World) (hE : blkE x = 0) :
    Calls Try.prog 33 #[.agg #[.int .i64 x.kind, .int .i64 x.flags, .string (B x.data)]] w fun e w' => e = .returned (.tuple #[.string (B (encB x)), .int .i64 0]) ∧ Below w.heap.size w w' := by
  rw [show encB x = sealE (intE x.kind ++ intE x.flags ++ textE x.data) from rfl]
  obtain ⟨v1, v2, v3, v4, v5⟩ := blkE_zero hE
  have HE := Lib.hid hE
  have a1 := intE_len x.kind
  have a2 := intE_len x.flags
  have a3 := textE_len x.data
  obtain ⟨ik, hik⟩ : ∃ M, intE x.kind = M := ⟨_, rfl⟩
  obtain ⟨fk, hfk⟩ : ∃ M, intE x.flags = M := ⟨_, rfl⟩
  obtain ⟨tk, htk⟩ : ∃ M, textE x.data = M := ⟨_, rfl⟩
  rw [hik] at a1 ⊢
  rw [hfk] at a2 ⊢
  rw [htk] at a3 ⊢
  have HI := Lib.hid hik
  have HF := Lib.hid hfk
  have HT := Lib.hid htk
  obtain ⟨M, hM⟩ : ∃ M, sealE (ik ++ fk ++ tk) = M := ⟨_, rfl⟩
  have HM := Lib.hid hM
  rw [hM]
  have j1 : ¬ 9223372036854775807 < ik.length + fk.length := by omega
  have j2 : ¬ 9223372036854775807 < ik.length + fk.length + tk.length := by omega
  have j3 : ¬ 9223372036854775807 < (ik ++ fk).length + tk.length := by rw [List.length_append]; omega
  clear hE hik hfk htk hM
  go_enter Try.func33, Try.ntmps33
  go_wp2_with fail
  refine (bcheck_any x _ (by omega)).mono ?_
  rw [HE.out]
  rintro e w1 ⟨rfl, hb1⟩
  obtain ⟨k1, f1⟩ := bcell hb1
  have z1 : w.heap.size < w1.heap.size := by have := hb1.size; simp at this; omega
  go_wp2_with fail
  refine (int_any x.kind _ (by omega) (by omega)).mono ?_
  rw [HI.out]
  rintro e w2 ⟨rfl, hb2⟩
  obtain ⟨k2, f2⟩ := bcell hb2
  have z2 : w.heap.size < w2.heap.size := by have := hb2.size; omega
  go_wp2_with fail
  refine (int_any x.flags _ (by omega) (by omega)).mono ?_
  rw [HF.out]
  rintro e w3 ⟨rfl, hb3⟩
  obtain ⟨k3, f3⟩ := bcell hb3
  have z3 : w.heap.size < w3.heap.size := by have := hb3.size; omega
  go_wp2_with fail
  refine (text_ok x.data _ (by omega)).mono ?_
  rw [HT.out]
  rintro e w4 ⟨rfl, hb4⟩
  go_wp2_with fail
  refine (seal_ok _ _ (by simp only [List.length_append]; omega)).mono ?_
  first | rw [HM.out] | rw [← List.append_assoc, HM.out]
  rintro e w5 ⟨rfl, hb5⟩
  go_wp2
  go_ret2
  exact ⟨rfl, (by repeat' (first | (with_reducible refine bset ?_ ?_) | (with_reducible exact Below.refl _ _) | (with_reducible assumption) | (with_reducible refine bdrewN ?_ _) | (with_reducible refine bdrew ?_) | (with_reducible refine balloc0 ?_) | (with_reducible refine balloc ?_ ?_) | (with_reducible apply btrans0; rotate_left; with_reducible assumption) | (with_reducible apply btrans; rotate_left; with_reducible assumption) | exact Below.refl _ _ | assumption | (apply btrans0; rotate_left; assumption) | (apply btrans; rotate_left; assumption) | (simp; done) | omega | (simp; omega)))⟩
end Go.Proofs.Ytdnbegcebloodaa
