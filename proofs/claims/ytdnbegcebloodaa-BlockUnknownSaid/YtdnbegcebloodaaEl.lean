/- The closures of BlockUnknown. -/
import Derived.Test.YtdnbegcebloodaaEk
import Derived.Test.YtdnbegcebloodaaEe
set_option linter.unusedVariables false
set_option linter.unusedSimpArgs false
namespace Go.Proofs.Ytdnbegcebloodaa
open Go Go.RowKit
attribute [local go_sem] B_getElem B_size B_app B_extract B_get B_toList

set_option maxHeartbeats 1000000 in
theorem unk1_any (x : Blk) (known : List Int) (v : Value) (kb : Nat) (w : World) (c1 : w.cell? ⟨kb, 0, none⟩ = some v) (hkb : kb < w.heap.size) (hv : RInts w w.heap.size v known) :
    Calls Try.prog 25 #[.agg #[.int .i64 x.kind, .int .i64 x.flags, .string (B x.data)], .pointer (some ⟨kb, 0, none⟩)] w fun e w' => e = .returned (.bool (!known.contains x.kind)) ∧ Below w.heap.size w w' := by
  have HV := Lib.hid hv
  obtain ⟨p, hp⟩ : ∃ p, known.contains x.kind = p := ⟨_, rfl⟩
  have HP := Lib.hid hp
  rw [hp]
  clear hv hp
  go_enter Try.func25, Try.ntmps25
  go_wp2_with fail
  refine (contains_any known v x.kind _ (HV.out.below (C := w.heap.size) (by repeat' (first | (with_reducible refine bset ?_ ?_) | (with_reducible exact Below.refl _ _) | (with_reducible assumption) | (with_reducible refine bdrewN ?_ _) | (with_reducible refine bdrew ?_) | (with_reducible refine balloc0 ?_) | (with_reducible refine balloc ?_ ?_) | (with_reducible apply btrans0; rotate_left; with_reducible assumption) | (with_reducible apply btrans; rotate_left; with_reducible assumption) | exact Below.refl _ _ | assumption | (apply btrans0; rotate_left; assumption) | (apply btrans; rotate_left; assumption) | (simp; done) | omega | (simp; omega))) (Nat.le_refl _) (by simp))).mono ?_
  rw [HP.out]
  rintro e w1 ⟨rfl, rfl⟩
  go_wp2
  go_ret
  exact ⟨by simp, (by repeat' (first | (with_reducible refine bset ?_ ?_) | (with_reducible exact Below.refl _ _) | (with_reducible assumption) | (with_reducible refine bdrewN ?_ _) | (with_reducible refine bdrew ?_) | (with_reducible refine balloc0 ?_) | (with_reducible refine balloc ?_ ?_) | (with_reducible apply btrans0; rotate_left; with_reducible assumption) | (with_reducible apply btrans; rotate_left; with_reducible assumption) | exact Below.refl _ _ | assumption | (apply btrans0; rotate_left; assumption) | (apply btrans; rotate_left; assumption) | (simp; done) | omega | (simp; omega)))⟩
/-- the kind is not known, and the flag is there -/
def unk (known : List Int) (flag : Int) (x : Blk) : Bool := !known.contains x.kind && hasF x.flags flag
theorem unk_wit (known : List Int) (flag : Int) : unk known flag = wit known flag := by
  funext x; unfold unk wit; exact Bool.and_comm _ _
set_option maxHeartbeats 1000000 in
theorem unk2_pred (l : List Blk) (known : List Int) (v : Value) (ub kb N : Nat) (w : World) (hl : ∀ x ∈ l, 0 ≤ x.flags ∧ x.flags ≤ 15) (cu : w.cell? ⟨ub, 0, none⟩ = some (.func (.func 25) #[] #[.pointer (some ⟨kb, 0, none⟩)])) (ck : w.cell? ⟨kb, 0, none⟩ = some v) (hu : ub < N) (hk : kb < N) (hN : N ≤ w.heap.size) (hv : RInts w N v known) :
    PredN 28 #[.pointer (some ⟨ub, 0, none⟩)] (unk known 8) N w l := by
  refine ⟨fun _ _ => by kernel_rfl, fun x W hx hW => ?_⟩
  show Calls Try.prog 28 #[.agg #[.int .i64 x.kind, .int .i64 x.flags, .string (B x.data)], .pointer (some ⟨ub, 0, none⟩)] W fun e W' => e = .returned (.bool (unk known 8 x)) ∧ Below W.heap.size W W'
  have hz := hW.size
  have cu' : W.cell? ⟨ub, 0, none⟩ = some (.func (.func 25) #[] #[.pointer (some ⟨kb, 0, none⟩)]) := (hW.cell (p := ⟨ub, 0, none⟩) hu).trans cu
  have hub : ub < W.heap.size := by omega
  have hcall : ∀ args W, (callFunc 25 args).run Try.prog W = .ok (.enter 25 args) W := fun _ _ => by kernel_rfl
  have H1 := Lib.hid (unk1_any x known v kb (W.alloc (.cells #[.int .i64 x.kind, .int .i64 x.flags, .string (B x.data)] 29)) ((World.cell?_alloc_lt _ _ _ (by show kb < W.heap.size; omega)).trans ((hW.cell (p := ⟨kb, 0, none⟩) hk).trans ck)) (by simp; omega) (hv.below (w' := W.alloc (.cells #[.int .i64 x.kind, .int .i64 x.flags, .string (B x.data)] 29)) (balloc hW (by omega)) (Nat.le_refl _) (by simp; omega)))
  have hb := bit_flag x.flags 8 (hl x hx).1 (hl x hx).2 (by decide)
  have HU : Hid (unk known 8 x = (!known.contains x.kind && hasF x.flags 8)) := Lib.hid rfl
  rw [HU.out]
  obtain ⟨p, hp⟩ : ∃ p, known.contains x.kind = p := ⟨_, rfl⟩
  obtain ⟨q, hq⟩ : ∃ q, hasF x.flags 8 = q := ⟨_, rfl⟩
  have HP := Lib.hid hp
  rw [hq] at hb
  rw [hp, hq]
  clear hp hq cu ck hW hv hl HU
  go_enter Try.func28, Try.ntmps28
  cases p
  all_goals
    go_wp2_with fail
    refine H1.out.mono ?_
    rw [HP.out]
    rintro e w1 ⟨rfl, hb1⟩
    obtain ⟨k1, f1⟩ := bcell hb1
    have z1 : W.heap.size < w1.heap.size := by have := hb1.size; simp at this; omega
    go_wp2
    go_ret
    exact ⟨by simp, (by repeat' (first | (with_reducible refine bset ?_ ?_) | (with_reducible exact Below.refl _ _) | (with_reducible assumption) | (with_reducible refine bdrewN ?_ _) | (with_reducible refine bdrew ?_) | (with_reducible refine balloc0 ?_) | (with_reducible refine balloc ?_ ?_) | (with_reducible apply btrans0; rotate_left; with_reducible assumption) | (with_reducible apply btrans; rotate_left; with_reducible assumption) | exact Below.refl _ _ | assumption | (apply btrans0; rotate_left; assumption) | (apply btrans; rotate_left; assumption) | (simp; done) | omega | (simp; omega)))⟩
set_option maxHeartbeats 1000000 in
theorem unk3_pred (l : List Blk) (known : List Int) (v : Value) (ub kb N : Nat) (w : World) (hl : ∀ x ∈ l, 0 ≤ x.flags ∧ x.flags ≤ 15) (cu : w.cell? ⟨ub, 0, none⟩ = some (.func (.func 25) #[] #[.pointer (some ⟨kb, 0, none⟩)])) (ck : w.cell? ⟨kb, 0, none⟩ = some v) (hu : ub < N) (hk : kb < N) (hN : N ≤ w.heap.size) (hv : RInts w N v known) :
    PredN 29 #[.pointer (some ⟨ub, 0, none⟩)] (unk known 2) N w l := by
  refine ⟨fun _ _ => by kernel_rfl, fun x W hx hW => ?_⟩
  show Calls Try.prog 29 #[.agg #[.int .i64 x.kind, .int .i64 x.flags, .string (B x.data)], .pointer (some ⟨ub, 0, none⟩)] W fun e W' => e = .returned (.bool (unk known 2 x)) ∧ Below W.heap.size W W'
  have hz := hW.size
  have cu' : W.cell? ⟨ub, 0, none⟩ = some (.func (.func 25) #[] #[.pointer (some ⟨kb, 0, none⟩)]) := (hW.cell (p := ⟨ub, 0, none⟩) hu).trans cu
  have hub : ub < W.heap.size := by omega
  have hcall : ∀ args W, (callFunc 25 args).run Try.prog W = .ok (.enter 25 args) W := fun _ _ => by kernel_rfl
  have H1 := Lib.hid (unk1_any x known v kb (W.alloc (.cells #[.int .i64 x.kind, .int .i64 x.flags, .string (B x.data)] 29)) ((World.cell?_alloc_lt _ _ _ (by show kb < W.heap.size; omega)).trans ((hW.cell (p := ⟨kb, 0, none⟩) hk).trans ck)) (by simp; omega) (hv.below (w' := W.alloc (.cells #[.int .i64 x.kind, .int .i64 x.flags, .string (B x.data)] 29)) (balloc hW (by omega)) (Nat.le_refl _) (by simp; omega)))
  have hb := bit_flag x.flags 2 (hl x hx).1 (hl x hx).2 (by decide)
  have HU : Hid (unk known 2 x = (!known.contains x.kind && hasF x.flags 2)) := Lib.hid rfl
  rw [HU.out]
  obtain ⟨p, hp⟩ : ∃ p, known.contains x.kind = p := ⟨_, rfl⟩
  obtain ⟨q, hq⟩ : ∃ q, hasF x.flags 2 = q := ⟨_, rfl⟩
  have HP := Lib.hid hp
  rw [hq] at hb
  rw [hp, hq]
  clear hp hq cu ck hW hv hl HU
  go_enter Try.func29, Try.ntmps29
  cases p
  all_goals
    go_wp2_with fail
    refine H1.out.mono ?_
    rw [HP.out]
    rintro e w1 ⟨rfl, hb1⟩
    obtain ⟨k1, f1⟩ := bcell hb1
    have z1 : W.heap.size < w1.heap.size := by have := hb1.size; simp at this; omega
    go_wp2
    go_ret
    exact ⟨by simp, (by repeat' (first | (with_reducible refine bset ?_ ?_) | (with_reducible exact Below.refl _ _) | (with_reducible assumption) | (with_reducible refine bdrewN ?_ _) | (with_reducible refine bdrew ?_) | (with_reducible refine balloc0 ?_) | (with_reducible refine balloc ?_ ?_) | (with_reducible apply btrans0; rotate_left; with_reducible assumption) | (with_reducible apply btrans; rotate_left; with_reducible assumption) | exact Below.refl _ _ | assumption | (apply btrans0; rotate_left; assumption) | (apply btrans; rotate_left; assumption) | (simp; done) | omega | (simp; omega)))⟩
set_option maxHeartbeats 1000000 in
theorem unk4_pred (l : List Blk) (known : List Int) (v : Value) (ub kb N : Nat) (w : World) (hl : ∀ x ∈ l, 0 ≤ x.flags ∧ x.flags ≤ 15) (cu : w.cell? ⟨ub, 0, none⟩ = some (.func (.func 25) #[] #[.pointer (some ⟨kb, 0, none⟩)])) (ck : w.cell? ⟨kb, 0, none⟩ = some v) (hu : ub < N) (hk : kb < N) (hN : N ≤ w.heap.size) (hv : RInts w N v known) :
    PredN 32 #[.pointer (some ⟨ub, 0, none⟩)] (unk known 4) N w l := by
  refine ⟨fun _ _ => by kernel_rfl, fun x W hx hW => ?_⟩
  show Calls Try.prog 32 #[.agg #[.int .i64 x.kind, .int .i64 x.flags, .string (B x.data)], .pointer (some ⟨ub, 0, none⟩)] W fun e W' => e = .returned (.bool (unk known 4 x)) ∧ Below W.heap.size W W'
  have hz := hW.size
  have cu' : W.cell? ⟨ub, 0, none⟩ = some (.func (.func 25) #[] #[.pointer (some ⟨kb, 0, none⟩)]) := (hW.cell (p := ⟨ub, 0, none⟩) hu).trans cu
  have hub : ub < W.heap.size := by omega
  have hcall : ∀ args W, (callFunc 25 args).run Try.prog W = .ok (.enter 25 args) W := fun _ _ => by kernel_rfl
  have H1 := Lib.hid (unk1_any x known v kb (W.alloc (.cells #[.int .i64 x.kind, .int .i64 x.flags, .string (B x.data)] 29)) ((World.cell?_alloc_lt _ _ _ (by show kb < W.heap.size; omega)).trans ((hW.cell (p := ⟨kb, 0, none⟩) hk).trans ck)) (by simp; omega) (hv.below (w' := W.alloc (.cells #[.int .i64 x.kind, .int .i64 x.flags, .string (B x.data)] 29)) (balloc hW (by omega)) (Nat.le_refl _) (by simp; omega)))
  have hb := bit_flag x.flags 4 (hl x hx).1 (hl x hx).2 (by decide)
  have HU : Hid (unk known 4 x = (!known.contains x.kind && hasF x.flags 4)) := Lib.hid rfl
  rw [HU.out]
  obtain ⟨p, hp⟩ : ∃ p, known.contains x.kind = p := ⟨_, rfl⟩
  obtain ⟨q, hq⟩ : ∃ q, hasF x.flags 4 = q := ⟨_, rfl⟩
  have HP := Lib.hid hp
  rw [hq] at hb
  rw [hp, hq]
  clear hp hq cu ck hW hv hl HU
  go_enter Try.func32, Try.ntmps32
  cases p
  all_goals
    go_wp2_with fail
    refine H1.out.mono ?_
    rw [HP.out]
    rintro e w1 ⟨rfl, hb1⟩
    obtain ⟨k1, f1⟩ := bcell hb1
    have z1 : W.heap.size < w1.heap.size := by have := hb1.size; simp at this; omega
    go_wp2
    go_ret
    exact ⟨by simp, (by repeat' (first | (with_reducible refine bset ?_ ?_) | (with_reducible exact Below.refl _ _) | (with_reducible assumption) | (with_reducible refine bdrewN ?_ _) | (with_reducible refine bdrew ?_) | (with_reducible refine balloc0 ?_) | (with_reducible refine balloc ?_ ?_) | (with_reducible apply btrans0; rotate_left; with_reducible assumption) | (with_reducible apply btrans; rotate_left; with_reducible assumption) | exact Below.refl _ _ | assumption | (apply btrans0; rotate_left; assumption) | (apply btrans; rotate_left; assumption) | (simp; done) | omega | (simp; omega)))⟩
end Go.Proofs.Ytdnbegcebloodaa
