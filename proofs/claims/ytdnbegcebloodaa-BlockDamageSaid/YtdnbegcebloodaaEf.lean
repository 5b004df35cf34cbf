/- Layer 12's reference: Check, CheckAll, Same, Great; the law's great. -/
import Derived.Test.YtdnbegcebloodaaEe
set_option linter.unusedVariables false
set_option linter.unusedSimpArgs false
namespace Go.Proofs.Ytdnbegcebloodaa
open Go Go.RowKit
attribute [local go_sem] B_getElem B_size B_app B_extract B_get B_toList

theorem eqBlk (k f : Int) (d : List UInt8) (w : World) : Sem.run Try.prog (Go.binOp .neq 29 (.agg #[.int .i64 k, .int .i64 f, .string (B d)]) (.agg #[.int .i64 k, .int .i64 f, .string (B d)])) w = .ok (.bool false) w := by
  go_simp
attribute [local go_sem ↓] eqBlk
def AnyBool (w : World) (e : Ending) (w' : World) : Prop := ∃ g, e = .returned (.bool g) ∧ Below w.heap.size w w'
/-- it says true -/
def Says (w : World) (e : Ending) (w' : World) : Prop := e = .returned (.bool true) ∧ Below w.heap.size w w'

set_option maxHeartbeats 1000000 in
theorem rbcheck_any (x : Blk) (w : World) (hx : x.data.length ≤ 9223372036854775807) :
    Calls Try.prog 38 #[.agg #[.int .i64 x.kind, .int .i64 x.flags, .string (B x.data)]] w fun e w' => e = .returned (.int .i64 (blkE x)) ∧ Below w.heap.size w w' := by
  obtain ⟨E, hE⟩ : ∃ E, blkE x = E := ⟨_, rfl⟩
  have HE := Lib.hid hE
  rw [hE]
  clear hE
  go_enter Try.func38, Try.ntmps38
  go_wp2
  all_goals (go_ret; refine ⟨ret_int ?_, (by repeat' (first | (with_reducible refine bset ?_ ?_) | (with_reducible exact Below.refl _ _) | (with_reducible assumption) | (with_reducible refine bdrewN ?_ _) | (with_reducible refine bdrew ?_) | (with_reducible refine balloc0 ?_) | (with_reducible refine balloc ?_ ?_) | (with_reducible apply btrans0; rotate_left; with_reducible assumption) | (with_reducible apply btrans; rotate_left; with_reducible assumption) | exact Below.refl _ _ | assumption | (apply btrans0; rotate_left; assumption) | (apply btrans; rotate_left; assumption) | (simp; done) | omega | (simp; omega)))⟩; rw [← HE.out]; unfold blkE; (try simp only [Bool.not_eq_true', Bool.not_eq_false', decide_eq_true_eq, decide_eq_false_iff_not, beq_iff_eq, beq_eq_false_iff_ne, bne_iff_ne, bne_eq_false_iff_eq, ne_eq, Bool.and_eq_true, Bool.or_eq_true, Bool.and_eq_false_imp, Bool.or_eq_false_iff] at *); repeat' (first | omega | split))

set_option maxRecDepth 100000 in
set_option maxHeartbeats 1000000 in
theorem checkAll_any (l : List Blk) (u : Value) (w : World) (h : RBlks w w.heap.size u l) (hd : ∀ x ∈ l, x.data.length ≤ maxLen) :
    Calls Try.prog 12 #[u] w fun e w' => e = .returned (.int .i64 (chkAll l)) ∧ Below w.heap.size w w' := by
  obtain ⟨a, c, rfl, h1, h2, h3, h4⟩ := h
  unfold maxLen at h2 hd
  have hlen : l.length ≤ 9223372036854775807 := by omega
  have H4 := Lib.hid h4
  have HD := Lib.hid hd
  clear h3 h4 hd
  by_cases h8 : 8 < l.length
  · have e1 : chkAll l = 4 := by unfold chkAll; rw [if_pos h8]
    have h8' : (8 : Int) < (l.length : Int) := by omega
    rw [e1]
    clear e1
    go_enter Try.func12, Try.ntmps12
    go_wp2
    go_ret
    exact ⟨rfl, (by repeat' (first | (with_reducible refine bset ?_ ?_) | (with_reducible exact Below.refl _ _) | (with_reducible assumption) | (with_reducible refine bdrewN ?_ _) | (with_reducible refine bdrew ?_) | (with_reducible refine balloc0 ?_) | (with_reducible refine balloc ?_ ?_) | (with_reducible apply btrans0; rotate_left; with_reducible assumption) | (with_reducible apply btrans; rotate_left; with_reducible assumption) | exact Below.refl _ _ | assumption | (apply btrans0; rotate_left; assumption) | (apply btrans; rotate_left; assumption) | (simp; done) | omega | (simp; omega)))⟩
  have h8' : ¬ (8 : Int) < (l.length : Int) := by omega
  obtain ⟨E, hE⟩ : ∃ E, chkAll l = E := ⟨_, rfl⟩
  have HC : Hid (caE none l = E) := Lib.hid (by rw [← hE]; unfold chkAll; rw [if_neg h8])
  rw [hE]
  clear hE
  go_enter Try.func12, Try.ntmps12
  go_wp2
  go_loopw [3] (fun i wr => ∃ (k : Nat), k ≤ l.length ∧ i = .int .i64 k ∧ Hid (caE (pv l k) (l.drop k) = E) ∧ Below w.heap.size w wr) (fun i _ => l.length - (intOf i).toNat)
  case atStart => exact ⟨0, Nat.zero_le _, rfl, HC, Below.refl _ _⟩
  case round =>
    obtain ⟨k, hk, rfl, HK, hB⟩ := hrel
    by_cases hlt : k < l.length
    · obtain ⟨bb, o, rfl, hbn, hcell⟩ := H4.out (by omega)
      obtain ⟨x, hx⟩ : ∃ x, l[k]? = some x := ⟨_, List.getElem?_eq_getElem hlt⟩
      have hxd := HD.out x (List.mem_of_getElem? hx)
      obtain ⟨c1, c2, c3⟩ := (hcell k x hx).keep (fun o => hB.cell (p := ⟨bb, o, none⟩) hbn)
      have hbr : bb < wr.heap.size := by have := hB.size; omega
      have k0 : (0 : Int) ≤ (k : Int) := by omega
      have k1 : (k : Int) < (l.length : Int) := by omega
      have hdrop : l.drop k = x :: l.drop (k + 1) := by
        rw [List.drop_eq_getElem_cons hlt]
        rw [List.getElem?_eq_getElem hlt] at hx
        injection hx with hx
        rw [hx]
      have HPV : Hid (pv l (k + 1) = some x.kind) := Lib.hid (by simp [pv, hx])
      have hK := HK.out
      rw [hdrop, caE] at hK
      by_cases hE : blkE x = 0
      case neg =>
        rw [if_pos hE] at hK
        have hE2 : (E == 0) = false := beq_eq_false_iff_ne.2 (by rw [← hK]; exact hE)
        have HK2 := Lib.hid hK
        clear hcell hx hK hE hdrop
        go_wp2_with fail
        refine (rbcheck_any x _ hxd).mono ?_
        rw [HK2.out]
        rintro e w5 ⟨rfl, hb5⟩
        go_wp2
        go_ret
        exact ⟨rfl, (by repeat' (first | (with_reducible refine bset ?_ ?_) | (with_reducible exact Below.refl _ _) | (with_reducible assumption) | (with_reducible refine bdrewN ?_ _) | (with_reducible refine bdrew ?_) | (with_reducible refine balloc0 ?_) | (with_reducible refine balloc ?_ ?_) | (with_reducible apply btrans0; rotate_left; with_reducible assumption) | (with_reducible apply btrans; rotate_left; with_reducible assumption) | exact Below.refl _ _ | assumption | (apply btrans0; rotate_left; assumption) | (apply btrans; rotate_left; assumption) | (simp; done) | omega | (simp; omega)))⟩
      rw [if_neg (by simp [hE])] at hK
      have HEx := Lib.hid hE
      clear hE hdrop
      by_cases hkz : k = 0
      · have hkn : decide ((0 : Int) < (k : Int)) = false := decide_eq_false (by omega)
        have hkn2 : decide (0 < k) = false := decide_eq_false (by omega)
        have HK2 : Hid (caE (some x.kind) (l.drop (k + 1)) = E) := Lib.hid (by rw [if_neg (by subst hkz; simp [pv])] at hK; exact hK)
        clear hcell hx hK hkz
        go_wp2_with fail
        refine (rbcheck_any x _ hxd).mono ?_
        rw [HEx.out]
        rintro e w5 ⟨rfl, hb5⟩
        have hB5 : Below w.heap.size w w5 := (by repeat' (first | (with_reducible refine bset ?_ ?_) | (with_reducible exact Below.refl _ _) | (with_reducible assumption) | (with_reducible refine bdrewN ?_ _) | (with_reducible refine bdrew ?_) | (with_reducible refine balloc0 ?_) | (with_reducible refine balloc ?_ ?_) | (with_reducible apply btrans0; rotate_left; with_reducible assumption) | (with_reducible apply btrans; rotate_left; with_reducible assumption) | exact Below.refl _ _ | assumption | (apply btrans0; rotate_left; assumption) | (apply btrans; rotate_left; assumption) | (simp; done) | omega | (simp; omega)))
        clear hb5 c1 c2 c3
        go_wp2
        refine wp_region_plan (fun V => True) [0, 0, 0, 0, 0, 0, 0, 1, 0, 0, 0, 0, 0, 1, 0, 0] [0, 1, 2, 3, 4, 5, 6, 7, 8, 9, 10, 11, 12, 13, 14, 15] (by kernel_rfl) (by kernel_rfl) ?_ ?_
        case refine_1 => exact trivial
        (iterate 3 (refine plan_held rfl (by decide) (by rfl) (fun w1 hS => by (try (have hS := hS rfl; obtain hS := hS; repeat (obtain ⟨_, hS⟩ := hS))); go_simp; rfl) ?_; simp only [Act.put, List.setIfInBounds_toArray, List.set_cons_zero, List.set_cons_succ]))
        iterate 12 (refine plan_skip rfl (by decide) (by rfl) ?_; simp only [Act.put, List.setIfInBounds_toArray, List.set_cons_zero, List.set_cons_succ])
        (iterate 1 (refine plan_held rfl (by decide) (by rfl) (fun w1 hS => by (try (have hS := hS rfl; obtain hS := hS; repeat (obtain ⟨_, hS⟩ := hS))); go_simp; rfl) ?_; simp only [Act.put, List.setIfInBounds_toArray, List.set_cons_zero, List.set_cons_succ]))
        refine plan_done ?_
        go_wp2
        go_roundw
        case rel => exact ⟨k + 1, by omega, by go_num, by rw [HPV.out]; exact HK2, (by repeat' (first | (with_reducible refine bset ?_ ?_) | (with_reducible exact Below.refl _ _) | (with_reducible assumption) | (with_reducible refine bdrewN ?_ _) | (with_reducible refine bdrew ?_) | (with_reducible refine balloc0 ?_) | (with_reducible refine balloc ?_ ?_) | (with_reducible apply btrans0; rotate_left; with_reducible assumption) | (with_reducible apply btrans; rotate_left; with_reducible assumption) | exact Below.refl _ _ | assumption | (apply btrans0; rotate_left; assumption) | (apply btrans; rotate_left; assumption) | (simp; done) | omega | (simp; omega)))⟩
        case measure => simp [intOf]; omega
      · obtain ⟨j, hj⟩ : ∃ j, k = j + 1 := ⟨k - 1, by omega⟩
        have hkp : decide ((0 : Int) < (k : Int)) = true := decide_eq_true (by omega)
        have hkp2 : decide (0 < k) = true := decide_eq_true (by omega)
        obtain ⟨z, hz⟩ : ∃ z, l[j]? = some z := ⟨_, List.getElem?_eq_getElem (by omega)⟩
        obtain ⟨d1, _, _⟩ := (hcell j z hz).keep (fun o => hB.cell (p := ⟨bb, o, none⟩) hbn)
        have hwj : IntKind.i64.wrap ((k : Int) - 1) = (j : Int) := by rw [IntKind.wrap_i64]; omega
        have hj0 : (0 : Int) ≤ (j : Int) := by omega
        have hj1 : (j : Int) < (l.length : Int) := by omega
        have hpk : pv l k = some z.kind := by rw [hj]; simp [pv, hz]
        rw [hpk] at hK
        by_cases hle : x.kind ≤ z.kind
        · have hE9 : E = 9 := by rw [if_pos ⟨_, rfl, hle⟩] at hK; exact hK.symm
          have hle2 : decide (x.kind ≤ z.kind) = true := decide_eq_true hle
          subst hE9
          clear hcell hx hK hkz hj hz hpk
          go_wp2_with fail
          refine (rbcheck_any x _ hxd).mono ?_
          rw [HEx.out]
          rintro e w5 ⟨rfl, hb5⟩
          have hB5 : Below w.heap.size w w5 := (by repeat' (first | (with_reducible refine bset ?_ ?_) | (with_reducible exact Below.refl _ _) | (with_reducible assumption) | (with_reducible refine bdrewN ?_ _) | (with_reducible refine bdrew ?_) | (with_reducible refine balloc0 ?_) | (with_reducible refine balloc ?_ ?_) | (with_reducible apply btrans0; rotate_left; with_reducible assumption) | (with_reducible apply btrans; rotate_left; with_reducible assumption) | exact Below.refl _ _ | assumption | (apply btrans0; rotate_left; assumption) | (apply btrans; rotate_left; assumption) | (simp; done) | omega | (simp; omega)))
          have dj : w5.cell? ⟨bb, o + j * 3, none⟩ = some (.int .i64 z.kind) := (hb5.cell (p := ⟨bb, _, none⟩) hbr).trans d1
          have cx : w5.cell? ⟨bb, o + k * 3, none⟩ = some (.int .i64 x.kind) := (hb5.cell (p := ⟨bb, _, none⟩) hbr).trans c1
          clear hb5 c1 c2 c3 d1
          go_wp2
          refine wp_region_plan (fun V => V.cell? ⟨bb, o + k * 3, none⟩ = some (.int .i64 x.kind) ∧ V.cell? ⟨bb, o + j * 3, none⟩ = some (.int .i64 z.kind)) [0, 0, 0, 0, 0, 0, 0, 1, 0, 0, 0, 0, 0, 1, 0, 0] [0, 1, 2, 3, 4, 5, 6, 7, 8, 9, 10, 11, 12, 13, 14, 15] (by kernel_rfl) (by kernel_rfl) ?_ ?_
          case refine_1 => exact ⟨cx, dj⟩
          (iterate 16 (refine plan_held rfl (by decide) (by rfl) (fun w1 hS => by (try (have hS := hS rfl; obtain hS := hS; repeat (obtain ⟨_, hS⟩ := hS))); go_simp; rfl) ?_; simp only [Act.put, List.setIfInBounds_toArray, List.set_cons_zero, List.set_cons_succ]))
          refine plan_done ?_
          go_wp2
          go_ret
          exact ⟨rfl, (by repeat' (first | (with_reducible refine bset ?_ ?_) | (with_reducible exact Below.refl _ _) | (with_reducible assumption) | (with_reducible refine bdrewN ?_ _) | (with_reducible refine bdrew ?_) | (with_reducible refine balloc0 ?_) | (with_reducible refine balloc ?_ ?_) | (with_reducible apply btrans0; rotate_left; with_reducible assumption) | (with_reducible apply btrans; rotate_left; with_reducible assumption) | exact Below.refl _ _ | assumption | (apply btrans0; rotate_left; assumption) | (apply btrans; rotate_left; assumption) | (simp; done) | omega | (simp; omega)))⟩
        · have HK2 : Hid (caE (some x.kind) (l.drop (k + 1)) = E) := Lib.hid (by rw [if_neg (by rintro ⟨q, hq, hq2⟩; injection hq with hq; omega)] at hK; exact hK)
          have hle2 : decide (x.kind ≤ z.kind) = false := decide_eq_false hle
          clear hcell hx hK hkz hj hz hpk
          go_wp2_with fail
          refine (rbcheck_any x _ hxd).mono ?_
          rw [HEx.out]
          rintro e w5 ⟨rfl, hb5⟩
          have hB5 : Below w.heap.size w w5 := (by repeat' (first | (with_reducible refine bset ?_ ?_) | (with_reducible exact Below.refl _ _) | (with_reducible assumption) | (with_reducible refine bdrewN ?_ _) | (with_reducible refine bdrew ?_) | (with_reducible refine balloc0 ?_) | (with_reducible refine balloc ?_ ?_) | (with_reducible apply btrans0; rotate_left; with_reducible assumption) | (with_reducible apply btrans; rotate_left; with_reducible assumption) | exact Below.refl _ _ | assumption | (apply btrans0; rotate_left; assumption) | (apply btrans; rotate_left; assumption) | (simp; done) | omega | (simp; omega)))
          have dj : w5.cell? ⟨bb, o + j * 3, none⟩ = some (.int .i64 z.kind) := (hb5.cell (p := ⟨bb, _, none⟩) hbr).trans d1
          have cx : w5.cell? ⟨bb, o + k * 3, none⟩ = some (.int .i64 x.kind) := (hb5.cell (p := ⟨bb, _, none⟩) hbr).trans c1
          clear hb5 c1 c2 c3 d1
          go_wp2
          refine wp_region_plan (fun V => V.cell? ⟨bb, o + k * 3, none⟩ = some (.int .i64 x.kind) ∧ V.cell? ⟨bb, o + j * 3, none⟩ = some (.int .i64 z.kind)) [0, 0, 0, 0, 0, 0, 0, 1, 0, 0, 0, 0, 0, 1, 0, 0] [0, 1, 2, 3, 4, 5, 6, 7, 8, 9, 10, 11, 12, 13, 14, 15] (by kernel_rfl) (by kernel_rfl) ?_ ?_
          case refine_1 => exact ⟨cx, dj⟩
          (iterate 16 (refine plan_held rfl (by decide) (by rfl) (fun w1 hS => by (try (have hS := hS rfl; obtain hS := hS; repeat (obtain ⟨_, hS⟩ := hS))); go_simp; rfl) ?_; simp only [Act.put, List.setIfInBounds_toArray, List.set_cons_zero, List.set_cons_succ]))
          refine plan_done ?_
          go_wp2
          go_roundw
          case rel => exact ⟨k + 1, by omega, by go_num, by rw [HPV.out]; exact HK2, (by repeat' (first | (with_reducible refine bset ?_ ?_) | (with_reducible exact Below.refl _ _) | (with_reducible assumption) | (with_reducible refine bdrewN ?_ _) | (with_reducible refine bdrew ?_) | (with_reducible refine balloc0 ?_) | (with_reducible refine balloc ?_ ?_) | (with_reducible apply btrans0; rotate_left; with_reducible assumption) | (with_reducible apply btrans; rotate_left; with_reducible assumption) | exact Below.refl _ _ | assumption | (apply btrans0; rotate_left; assumption) | (apply btrans; rotate_left; assumption) | (simp; done) | omega | (simp; omega)))⟩
          case measure => simp [intOf]; omega
    · obtain rfl : k = l.length := by omega
      have hE0 : E = 0 := by have := HK.out; rw [List.drop_length, caE] at this; exact this.symm
      subst hE0
      go_wp2
      go_ret
      exact ⟨rfl, hB⟩

set_option maxRecDepth 100000 in
set_option maxHeartbeats 1000000 in
theorem same_any (l : List Blk) (u v : Value) (w : World) (h : RBlks w w.heap.size u l) (k : RBlks w w.heap.size v l) :
    Calls Try.prog 15 #[u, v] w (Says w) := by
  obtain ⟨a, c, rfl, h1, h2, h3, h4⟩ := h
  obtain ⟨a', c', rfl, k1, k2, k3, k4⟩ := k
  unfold maxLen at h2
  have hlen : l.length ≤ 9223372036854775807 := by omega
  have H4 := Lib.hid h4
  have K4 := Lib.hid k4
  clear h3 h4 k3 k4
  go_enter Try.func15, Try.ntmps15
  go_wp2
  go_loopw [5] (fun i wr => ∃ k : Nat, k ≤ l.length ∧ i = .int .i64 k ∧ Below w.heap.size w wr) (fun i _ => l.length - (intOf i).toNat)
  case atStart => exact ⟨0, Nat.zero_le _, rfl, Below.refl _ _⟩
  case round =>
    obtain ⟨k, hk, rfl, hB⟩ := hrel
    by_cases hlt : k < l.length
    · obtain ⟨b, o, rfl, hbn, hcell⟩ := H4.out (by omega)
      obtain ⟨b', o', rfl, hbn', hcell'⟩ := K4.out (by omega)
      obtain ⟨x, hx⟩ : ∃ x, l[k]? = some x := ⟨_, List.getElem?_eq_getElem hlt⟩
      obtain ⟨c1, c2, c3⟩ := (hcell k x hx).keep (fun o => hB.cell (p := ⟨b, o, none⟩) hbn)
      obtain ⟨d1, d2, d3⟩ := (hcell' k x hx).keep (fun o => hB.cell (p := ⟨b', o, none⟩) hbn')
      have k0 : (0 : Int) ≤ (k : Int) := by omega
      have k1' : (k : Int) < (l.length : Int) := by omega
      clear hcell hcell' hx
      go_wp2
      go_quiet (fail)
      go_wp2
      go_roundw
      case rel => exact ⟨k + 1, by omega, by go_num, (by repeat' (first | (with_reducible refine bset ?_ ?_) | (with_reducible exact Below.refl _ _) | (with_reducible assumption) | (with_reducible refine bdrewN ?_ _) | (with_reducible refine bdrew ?_) | (with_reducible refine balloc0 ?_) | (with_reducible refine balloc ?_ ?_) | (with_reducible apply btrans0; rotate_left; with_reducible assumption) | (with_reducible apply btrans; rotate_left; with_reducible assumption) | exact Below.refl _ _ | assumption | (apply btrans0; rotate_left; assumption) | (apply btrans; rotate_left; assumption) | (simp; done) | omega | (simp; omega)))⟩
      case measure => simp [intOf]; omega
    · obtain rfl : k = l.length := by omega
      go_wp2
      go_ret
      exact ⟨rfl, hB⟩

set_option maxRecDepth 100000 in
set_option maxHeartbeats 1000000 in
theorem great_any (l : List Blk) (u : Value) (w : World) (h : RBlks w w.heap.size u l) (hd : ∀ x ∈ l, x.data.length ≤ maxLen) :
    Calls Try.prog 42 #[u] w (AnyBool w) := by
  obtain ⟨a, c, rfl, h1, h2, h3, h4⟩ := h
  have HFd := Lib.hid hd
  unfold maxLen at h2
  have hlen : l.length ≤ 9223372036854775807 := by omega
  have H4 := Lib.hid h4
  clear h3 h4 hd
  go_enter Try.func42, Try.ntmps42
  go_wp2
  all_goals first
    | (go_ret; exact ⟨true, rfl, (by repeat' (first | (with_reducible refine bset ?_ ?_) | (with_reducible exact Below.refl _ _) | (with_reducible assumption) | (with_reducible refine bdrewN ?_ _) | (with_reducible refine bdrew ?_) | (with_reducible refine balloc0 ?_) | (with_reducible refine balloc ?_ ?_) | (with_reducible apply btrans0; rotate_left; with_reducible assumption) | (with_reducible apply btrans; rotate_left; with_reducible assumption) | exact Below.refl _ _ | assumption | (apply btrans0; rotate_left; assumption) | (apply btrans; rotate_left; assumption) | (simp; done) | omega | (simp; omega)))⟩)
    | skip
  all_goals
    go_loop [3] (fun i => ∃ k : Nat, k ≤ l.length ∧ i = .int .i64 k) (fun i => l.length - (intOf i).toNat)
    case atStart => exact ⟨0, Nat.zero_le _, rfl⟩
    case round =>
      obtain ⟨k, hk, rfl⟩ := hrel
      by_cases hlt : k < l.length
      · obtain ⟨bb, o, rfl, hbn, hcell⟩ := H4.out (by omega)
        obtain ⟨x, hx⟩ : ∃ x, l[k]? = some x := ⟨_, List.getElem?_eq_getElem hlt⟩
        obtain ⟨c1, c2, c3⟩ := hcell k x hx
        have hxd := HFd.out x (List.mem_of_getElem? hx)
        unfold maxLen at hxd
        have k1' : (k : Int) < (l.length : Int) := by omega
        clear hcell hx c1 c2
        go_wp2
        all_goals first
          | (go_ret; exact ⟨true, rfl, (by repeat' (first | (with_reducible refine bset ?_ ?_) | (with_reducible exact Below.refl _ _) | (with_reducible assumption) | (with_reducible refine bdrewN ?_ _) | (with_reducible refine bdrew ?_) | (with_reducible refine balloc0 ?_) | (with_reducible refine balloc ?_ ?_) | (with_reducible apply btrans0; rotate_left; with_reducible assumption) | (with_reducible apply btrans; rotate_left; with_reducible assumption) | exact Below.refl _ _ | assumption | (apply btrans0; rotate_left; assumption) | (apply btrans; rotate_left; assumption) | (simp; done) | omega | (simp; omega)))⟩)
          | (go_round
             case rel => exact ⟨k + 1, by omega, by go_num⟩
             case measure => simp [intOf]; omega)
      · obtain rfl : k = l.length := by omega
        go_wp2
        go_ret
        exact ⟨false, rfl, (by repeat' (first | (with_reducible refine bset ?_ ?_) | (with_reducible exact Below.refl _ _) | (with_reducible assumption) | (with_reducible refine bdrewN ?_ _) | (with_reducible refine bdrew ?_) | (with_reducible refine balloc0 ?_) | (with_reducible refine balloc ?_ ?_) | (with_reducible apply btrans0; rotate_left; with_reducible assumption) | (with_reducible apply btrans; rotate_left; with_reducible assumption) | exact Below.refl _ _ | assumption | (apply btrans0; rotate_left; assumption) | (apply btrans; rotate_left; assumption) | (simp; done) | omega | (simp; omega)))⟩
set_option maxHeartbeats 1000000 in
theorem lawGreat_any (l : List Blk) (u : Value) (s : List UInt8) (w : World) (h : RBlks w w.heap.size u l) (hd : ∀ x ∈ l, x.data.length ≤ maxLen) (hs : s.length ≤ maxLen) :
    Calls Try.prog 11 #[u, .string (B s)] w (AnyBool w) := by
  have HR := Lib.hid h
  have HD := Lib.hid hd
  unfold maxLen at hs
  clear h hd
  go_enter Try.func11, Try.ntmps11
  go_wp2_with fail
  refine (great_any l u _ HR.out HD.out).mono ?_
  rintro e w1 ⟨g, rfl, hb1⟩
  cases g
  all_goals
    go_wp2
    all_goals
      go_ret
      exact ⟨_, rfl, (by repeat' (first | (with_reducible refine bset ?_ ?_) | (with_reducible exact Below.refl _ _) | (with_reducible assumption) | (with_reducible refine bdrewN ?_ _) | (with_reducible refine bdrew ?_) | (with_reducible refine balloc0 ?_) | (with_reducible refine balloc ?_ ?_) | (with_reducible apply btrans0; rotate_left; with_reducible assumption) | (with_reducible apply btrans; rotate_left; with_reducible assumption) | exact Below.refl _ _ | assumption | (apply btrans0; rotate_left; assumption) | (apply btrans; rotate_left; assumption) | (simp; done) | omega | (simp; omega)))⟩
end Go.Proofs.Ytdnbegcebloodaa
