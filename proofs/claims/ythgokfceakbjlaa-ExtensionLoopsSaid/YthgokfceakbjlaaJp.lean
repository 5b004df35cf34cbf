/- Joined by port.py: XEe XEf XEm XEn -/
import Derived.Test.YthgokfceakbjlaaJo
import Derived.Laws.EntriesVeiled
import Derived.Test.YthgokfceakbjlaaJh
import Derived.Test.YthgokfceakbjlaaJg
import Derived.Test.YthgokfceakbjlaaJa
import Derived.Test.YthgokfceakbjlaaJb
import Derived.Test.YthgokfceakbjlaaJe
set_option linter.unusedVariables false
set_option linter.unusedSimpArgs false
/-! XEe -/
namespace Go.Proofs.Ythgokfceakbjlaa
open Go Go.RowKit
attribute [local go_sem] B_getElem B_size B_app B_extract B_get B_toList
theorem caE_zero : ∀ {l : List Blk} {p : Option Int}, caE p l = 0 → ∀ x ∈ l, blkE x = 0
  | [], _, _, _, h => by simp at h
  | y :: l, p, h, x, hx => by
    rw [caE] at h
    split at h
    · exact absurd h ‹_›
    · split at h
      · cases h
      · rcases List.mem_cons.1 hx with rfl | hx
        · rename_i h1 _; exact Decidable.not_not.1 h1
        · exact caE_zero h x hx
theorem chkAll_zero {l : List Blk} (h : chkAll l = 0) : l.length ≤ 8 ∧ ∀ x ∈ l, blkE x = 0 := by
  unfold chkAll at h
  split at h
  · cases h
  · exact ⟨by omega, caE_zero h⟩
theorem chkAll_flags {l : List Blk} (h : chkAll l = 0) : ∀ x ∈ l, 0 ≤ x.flags ∧ x.flags ≤ 15 := fun x hx => by
  obtain ⟨_, _, h3, h4, _⟩ := blkE_zero ((chkAll_zero h).2 x hx)
  exact ⟨h3, h4⟩
/-- what Process answers -/
def prS (l : List Blk) (known : List Int) : List Blk × Bool × Int :=
  if chkAll l ≠ 0 then ([], false, 1) else if l.any (wit known 2) = true then ([], l.any (wit known 8), 28) else (l.filter (fun x => !wit known 4 x), l.any (wit known 8), 0)
def ProPost (r : List Blk × Bool × Int) (w : World) (e : Ending) (w' : World) : Prop := ∃ v, e = .returned (.tuple #[v, .bool r.2.1, .int .i64 r.2.2]) ∧ RBlks w' w'.heap.size v r.1 ∧ Below w.heap.size w w'
end Go.Proofs.Ythgokfceakbjlaa
/-! XEf -/
namespace Go.Proofs.Ythgokfceakbjlaa
open Go Go.RowKit
attribute [local go_sem] B_getElem B_size B_app B_extract B_get B_toList
theorem eqBlk (k f : Int) (d : List UInt8) (w : World) : Sem.run Try.prog (Go.binOp .neq 56 (.agg #[.int .i64 k, .int .i64 f, .string (B d)]) (.agg #[.int .i64 k, .int .i64 f, .string (B d)])) w = .ok (.bool false) w := by
  go_simp
attribute [local go_sem ↓] eqBlk
def AnyBool (w : World) (e : Ending) (w' : World) : Prop := ∃ g, e = .returned (.bool g) ∧ Below w.heap.size w w'
/-- it says true -/
def Says (w : World) (e : Ending) (w' : World) : Prop := e = .returned (.bool true) ∧ Below w.heap.size w w'
set_option maxHeartbeats 1000000 in
theorem rbcheck_any (x : Blk) (w : World) (hx : x.data.length ≤ 9223372036854775807) :
    Calls Try.prog 84 #[.agg #[.int .i64 x.kind, .int .i64 x.flags, .string (B x.data)]] w fun e w' => e = .returned (.int .i64 (blkE x)) ∧ Below w.heap.size w w' := by
  obtain ⟨E, hE⟩ : ∃ E, blkE x = E := ⟨_, rfl⟩
  have HE := Lib.hid hE
  rw [hE]
  clear hE
  go_enter Try.func84, Try.ntmps84
  go_wp2
  all_goals (go_ret; refine ⟨ret_int ?_, (by repeat' (first | with_reducible (first | refine bset ?_ ?_ | exact Below.refl _ _ | assumption | refine bdrewN ?_ _ | refine bdrew ?_ | refine balloc0 ?_ | refine balloc ?_ ?_ | (apply btrans0; rotate_left; assumption) | (apply btrans; rotate_left; assumption)) | exact Below.refl _ _ | assumption | (apply btrans0; rotate_left; assumption) | (apply btrans; rotate_left; assumption) | (simp; done) | omega | (simp; omega)))⟩; rw [← HE.out]; unfold blkE; (try simp only [Bool.not_eq_true', Bool.not_eq_false', decide_eq_true_eq, decide_eq_false_iff_not, beq_iff_eq, beq_eq_false_iff_ne, bne_iff_ne, bne_eq_false_iff_eq, ne_eq, Bool.and_eq_true, Bool.or_eq_true, Bool.and_eq_false_imp, Bool.or_eq_false_iff] at *); repeat' (first | omega | split))
set_option maxRecDepth 100000 in
set_option maxHeartbeats 1000000 in
theorem checkAll_any (l : List Blk) (u : Value) (w : World) (h : RBlks w w.heap.size u l) (hd : ∀ x ∈ l, x.data.length ≤ maxLen) :
    Calls Try.prog 92 #[u] w fun e w' => e = .returned (.int .i64 (chkAll l)) ∧ Below w.heap.size w w' := by
  obtain ⟨a, c, rfl, h1, h2, h3, h4⟩ := h
  unfold maxLen at h2 hd
  have hlen : l.length ≤ 9223372036854775807 := by omega
  have H4 := Lib.hid h4
  have HD := Lib.hid hd
  clear h3 h4 hd
  by_cases h8 : 8 < l.length
  · have e1 : chkAll l = 4 := by unfold chkAll; rw [if_pos h8]
    have h8' : (8 : Int) < (l.length : Int) := by omega
    rw [e1]
    clear e1
    go_enter Try.func92, Try.ntmps92
    go_wp2
    go_ret
    exact ⟨rfl, (by repeat' (first | with_reducible (first | refine bset ?_ ?_ | exact Below.refl _ _ | assumption | refine bdrewN ?_ _ | refine bdrew ?_ | refine balloc0 ?_ | refine balloc ?_ ?_ | (apply btrans0; rotate_left; assumption) | (apply btrans; rotate_left; assumption)) | exact Below.refl _ _ | assumption | (apply btrans0; rotate_left; assumption) | (apply btrans; rotate_left; assumption) | (simp; done) | omega | (simp; omega)))⟩
  have h8' : ¬ (8 : Int) < (l.length : Int) := by omega
  obtain ⟨E, hE⟩ : ∃ E, chkAll l = E := ⟨_, rfl⟩
  have HC : Hid (caE none l = E) := Lib.hid (by rw [← hE]; unfold chkAll; rw [if_neg h8])
  rw [hE]
  clear hE
  go_enter Try.func92, Try.ntmps92
  go_wp2
  go_loopw [3] (fun i wr => ∃ (k : Nat), k ≤ l.length ∧ i = .int .i64 k ∧ Hid (caE (pv l k) (l.drop k) = E) ∧ Below w.heap.size w wr) (fun i _ => l.length - (intOf i).toNat)
  case atStart => exact ⟨0, Nat.zero_le _, rfl, HC, Below.refl _ _⟩
  case round =>
    obtain ⟨k, hk, rfl, HK, hB⟩ := hrel
    by_cases hlt : k < l.length
    · obtain ⟨bb, o, rfl, hbn, hcell⟩ := H4.out (by omega)
      obtain ⟨x, hx⟩ : ∃ x, l[k]? = some x := ⟨_, List.getElem?_eq_getElem hlt⟩
      have hxd := HD.out x (List.mem_of_getElem? hx)
      obtain ⟨c1, c2, c3⟩ := (hcell k x hx).keep (fun o => hB.cell (p := ⟨bb, o, none⟩) hbn)
      have hbr : bb < wr.heap.size := by have := hB.size; omega
      have k0 : (0 : Int) ≤ (k : Int) := by omega
      have k1 : (k : Int) < (l.length : Int) := by omega
      have hdrop : l.drop k = x :: l.drop (k + 1) := by
        rw [List.drop_eq_getElem_cons hlt]
        rw [List.getElem?_eq_getElem hlt] at hx
        injection hx with hx
        rw [hx]
      have HPV : Hid (pv l (k + 1) = some x.kind) := Lib.hid (by simp [pv, hx])
      have hK := HK.out
      rw [hdrop, caE] at hK
      by_cases hE : blkE x = 0
      case neg =>
        rw [if_pos hE] at hK
        have hE2 : (E == 0) = false := beq_eq_false_iff_ne.2 (by rw [← hK]; exact hE)
        have HK2 := Lib.hid hK
        clear hcell hx hK hE hdrop
        go_wp2_with fail
        refine (rbcheck_any x _ hxd).mono ?_
        rw [HK2.out]
        rintro e w5 ⟨rfl, hb5⟩
        go_wp2
        go_ret
        exact ⟨rfl, (by repeat' (first | with_reducible (first | refine bset ?_ ?_ | exact Below.refl _ _ | assumption | refine bdrewN ?_ _ | refine bdrew ?_ | refine balloc0 ?_ | refine balloc ?_ ?_ | (apply btrans0; rotate_left; assumption) | (apply btrans; rotate_left; assumption)) | exact Below.refl _ _ | assumption | (apply btrans0; rotate_left; assumption) | (apply btrans; rotate_left; assumption) | (simp; done) | omega | (simp; omega)))⟩
      rw [if_neg (by simp [hE])] at hK
      have HEx := Lib.hid hE
      clear hE hdrop
      by_cases hkz : k = 0
      · have hkn : decide ((0 : Int) < (k : Int)) = false := decide_eq_false (by omega)
        have hkn2 : decide (0 < k) = false := decide_eq_false (by omega)
        have HK2 : Hid (caE (some x.kind) (l.drop (k + 1)) = E) := Lib.hid (by rw [if_neg (by subst hkz; simp [pv])] at hK; exact hK)
        clear hcell hx hK hkz
        go_wp2_with fail
        refine (rbcheck_any x _ hxd).mono ?_
        rw [HEx.out]
        rintro e w5 ⟨rfl, hb5⟩
        have hB5 : Below w.heap.size w w5 := (by repeat' (first | with_reducible (first | refine bset ?_ ?_ | exact Below.refl _ _ | assumption | refine bdrewN ?_ _ | refine bdrew ?_ | refine balloc0 ?_ | refine balloc ?_ ?_ | (apply btrans0; rotate_left; assumption) | (apply btrans; rotate_left; assumption)) | exact Below.refl _ _ | assumption | (apply btrans0; rotate_left; assumption) | (apply btrans; rotate_left; assumption) | (simp; done) | omega | (simp; omega)))
        clear hb5 c1 c2 c3
        go_wp2
        refine wp_region_plan (fun V => True) [0, 0, 0, 0, 0, 0, 0, 1, 0, 0, 0, 0, 0, 1, 0, 0] [0, 1, 2, 3, 4, 5, 6, 7, 8, 9, 10, 11, 12, 13, 14, 15] (by kernel_rfl) (by kernel_rfl) ?_ ?_
        case refine_1 => exact trivial
        (iterate 3 (refine plan_held rfl (by decide) (by rfl) (fun w1 hS => by (try (have hS := hS rfl; obtain hS := hS; repeat (obtain ⟨_, hS⟩ := hS))); go_simp; rfl) ?_; simp only [Act.put, List.setIfInBounds_toArray, List.set_cons_zero, List.set_cons_succ]))
        iterate 12 (refine plan_skip rfl (by decide) (by rfl) ?_; simp only [Act.put, List.setIfInBounds_toArray, List.set_cons_zero, List.set_cons_succ])
        (iterate 1 (refine plan_held rfl (by decide) (by rfl) (fun w1 hS => by (try (have hS := hS rfl; obtain hS := hS; repeat (obtain ⟨_, hS⟩ := hS))); go_simp; rfl) ?_; simp only [Act.put, List.setIfInBounds_toArray, List.set_cons_zero, List.set_cons_succ]))
        refine plan_done ?_
        go_wp2
        go_roundw
        case rel => exact ⟨k + 1, by omega, by go_num, by rw [HPV.out]; exact HK2, (by repeat' (first | with_reducible (first | refine bset ?_ ?_ | exact Below.refl _ _ | assumption | refine bdrewN ?_ _ | refine bdrew ?_ | refine balloc0 ?_ | refine balloc ?_ ?_ | (apply btrans0; rotate_left; assumption) | (apply btrans; rotate_left; assumption)) | exact Below.refl _ _ | assumption | (apply btrans0; rotate_left; assumption) | (apply btrans; rotate_left; assumption) | (simp; done) | omega | (simp; omega)))⟩
        case measure => simp [intOf]; omega
      · obtain ⟨j, hj⟩ : ∃ j, k = j + 1 := ⟨k - 1, by omega⟩
        have hkp : decide ((0 : Int) < (k : Int)) = true := decide_eq_true (by omega)
        have hkp2 : decide (0 < k) = true := decide_eq_true (by omega)
        obtain ⟨z, hz⟩ : ∃ z, l[j]? = some z := ⟨_, List.getElem?_eq_getElem (by omega)⟩
        obtain ⟨d1, _, _⟩ := (hcell j z hz).keep (fun o => hB.cell (p := ⟨bb, o, none⟩) hbn)
        have hwj : IntKind.i64.wrap ((k : Int) - 1) = (j : Int) := by rw [IntKind.wrap_i64]; omega
        have hj0 : (0 : Int) ≤ (j : Int) := by omega
        have hj1 : (j : Int) < (l.length : Int) := by omega
        have hpk : pv l k = some z.kind := by rw [hj]; simp [pv, hz]
        rw [hpk] at hK
        by_cases hle : x.kind ≤ z.kind
        · have hE9 : E = 9 := by rw [if_pos ⟨_, rfl, hle⟩] at hK; exact hK.symm
          have hle2 : decide (x.kind ≤ z.kind) = true := decide_eq_true hle
          subst hE9
          clear hcell hx hK hkz hj hz hpk
          go_wp2_with fail
          refine (rbcheck_any x _ hxd).mono ?_
          rw [HEx.out]
          rintro e w5 ⟨rfl, hb5⟩
          have hB5 : Below w.heap.size w w5 := (by repeat' (first | with_reducible (first | refine bset ?_ ?_ | exact Below.refl _ _ | assumption | refine bdrewN ?_ _ | refine bdrew ?_ | refine balloc0 ?_ | refine balloc ?_ ?_ | (apply btrans0; rotate_left; assumption) | (apply btrans; rotate_left; assumption)) | exact Below.refl _ _ | assumption | (apply btrans0; rotate_left; assumption) | (apply btrans; rotate_left; assumption) | (simp; done) | omega | (simp; omega)))
          have dj : w5.cell? ⟨bb, o + j * 3, none⟩ = some (.int .i64 z.kind) := (hb5.cell (p := ⟨bb, _, none⟩) hbr).trans d1
          have cx : w5.cell? ⟨bb, o + k * 3, none⟩ = some (.int .i64 x.kind) := (hb5.cell (p := ⟨bb, _, none⟩) hbr).trans c1
          clear hb5 c1 c2 c3 d1
          go_wp2
          refine wp_region_plan (fun V => V.cell? ⟨bb, o + k * 3, none⟩ = some (.int .i64 x.kind) ∧ V.cell? ⟨bb, o + j * 3, none⟩ = some (.int .i64 z.kind)) [0, 0, 0, 0, 0, 0, 0, 1, 0, 0, 0, 0, 0, 1, 0, 0] [0, 1, 2, 3, 4, 5, 6, 7, 8, 9, 10, 11, 12, 13, 14, 15] (by kernel_rfl) (by kernel_rfl) ?_ ?_
          case refine_1 => exact ⟨cx, dj⟩
          (iterate 16 (refine plan_held rfl (by decide) (by rfl) (fun w1 hS => by (try (have hS := hS rfl; obtain hS := hS; repeat (obtain ⟨_, hS⟩ := hS))); go_simp; rfl) ?_; simp only [Act.put, List.setIfInBounds_toArray, List.set_cons_zero, List.set_cons_succ]))
          refine plan_done ?_
          go_wp2
          go_ret
          exact ⟨rfl, (by repeat' (first | with_reducible (first | refine bset ?_ ?_ | exact Below.refl _ _ | assumption | refine bdrewN ?_ _ | refine bdrew ?_ | refine balloc0 ?_ | refine balloc ?_ ?_ | (apply btrans0; rotate_left; assumption) | (apply btrans; rotate_left; assumption)) | exact Below.refl _ _ | assumption | (apply btrans0; rotate_left; assumption) | (apply btrans; rotate_left; assumption) | (simp; done) | omega | (simp; omega)))⟩
        · have HK2 : Hid (caE (some x.kind) (l.drop (k + 1)) = E) := Lib.hid (by rw [if_neg (by rintro ⟨q, hq, hq2⟩; injection hq with hq; omega)] at hK; exact hK)
          have hle2 : decide (x.kind ≤ z.kind) = false := decide_eq_false hle
          clear hcell hx hK hkz hj hz hpk
          go_wp2_with fail
          refine (rbcheck_any x _ hxd).mono ?_
          rw [HEx.out]
          rintro e w5 ⟨rfl, hb5⟩
          have hB5 : Below w.heap.size w w5 := (by repeat' (first | with_reducible (first | refine bset ?_ ?_ | exact Below.refl _ _ | assumption | refine bdrewN ?_ _ | refine bdrew ?_ | refine balloc0 ?_ | refine balloc ?_ ?_ | (apply btrans0; rotate_left; assumption) | (apply btrans; rotate_left; assumption)) | exact Below.refl _ _ | assumption | (apply btrans0; rotate_left; assumption) | (apply btrans; rotate_left; assumption) | (simp; done) | omega | (simp; omega)))
          have dj : w5.cell? ⟨bb, o + j * 3, none⟩ = some (.int .i64 z.kind) := (hb5.cell (p := ⟨bb, _, none⟩) hbr).trans d1
          have cx : w5.cell? ⟨bb, o + k * 3, none⟩ = some (.int .i64 x.kind) := (hb5.cell (p := ⟨bb, _, none⟩) hbr).trans c1
          clear hb5 c1 c2 c3 d1
          go_wp2
          refine wp_region_plan (fun V => V.cell? ⟨bb, o + k * 3, none⟩ = some (.int .i64 x.kind) ∧ V.cell? ⟨bb, o + j * 3, none⟩ = some (.int .i64 z.kind)) [0, 0, 0, 0, 0, 0, 0, 1, 0, 0, 0, 0, 0, 1, 0, 0] [0, 1, 2, 3, 4, 5, 6, 7, 8, 9, 10, 11, 12, 13, 14, 15] (by kernel_rfl) (by kernel_rfl) ?_ ?_
          case refine_1 => exact ⟨cx, dj⟩
          (iterate 16 (refine plan_held rfl (by decide) (by rfl) (fun w1 hS => by (try (have hS := hS rfl; obtain hS := hS; repeat (obtain ⟨_, hS⟩ := hS))); go_simp; rfl) ?_; simp only [Act.put, List.setIfInBounds_toArray, List.set_cons_zero, List.set_cons_succ]))
          refine plan_done ?_
          go_wp2
          go_roundw
          case rel => exact ⟨k + 1, by omega, by go_num, by rw [HPV.out]; exact HK2, (by repeat' (first | with_reducible (first | refine bset ?_ ?_ | exact Below.refl _ _ | assumption | refine bdrewN ?_ _ | refine bdrew ?_ | refine balloc0 ?_ | refine balloc ?_ ?_ | (apply btrans0; rotate_left; assumption) | (apply btrans; rotate_left; assumption)) | exact Below.refl _ _ | assumption | (apply btrans0; rotate_left; assumption) | (apply btrans; rotate_left; assumption) | (simp; done) | omega | (simp; omega)))⟩
          case measure => simp [intOf]; omega
    · obtain rfl : k = l.length := by omega
      have hE0 : E = 0 := by have := HK.out; rw [List.drop_length, caE] at this; exact this.symm
      subst hE0
      go_wp2
      go_ret
      exact ⟨rfl, hB⟩
end Go.Proofs.Ythgokfceakbjlaa
/-! XEm -/
namespace Go.Proofs.Ythgokfceakbjlaa
open Go Go.RowKit
attribute [local go_sem] B_getElem B_size B_app B_extract B_get B_toList
def zBlk : Blk := ⟨0, 0, []⟩
def findS (l : List Blk) (k : Int) : Blk × Bool := match l.find? (fun x => x.kind == k) with | some x => (x, true) | none => (zBlk, false)
theorem findS_none {l : List Blk} {k : Int} (h : ∀ x ∈ l, (x.kind == k) = false) : findS l k = (zBlk, false) := by
  unfold findS
  rw [List.find?_eq_none.2 (fun x hx => by simp only [h x hx]; simp)]
theorem findS_some {l : List Blk} {k : Int} {q : Nat} {x : Blk} (hx : l[q]? = some x) (h : ∀ y ∈ l.take q, (y.kind == k) = false) (h2 : (x.kind == k) = true) : findS l k = (x, true) := by
  unfold findS
  have hq : q < l.length := (List.getElem?_eq_some_iff.1 hx).1
  have hsp : l = l.take q ++ x :: l.drop (q + 1) := by
    rw [List.getElem?_eq_getElem hq] at hx
    injection hx with hx
    rw [← hx, List.getElem_cons_drop, List.take_append_drop]
  rw [hsp, List.find?_append, List.find?_eq_none.2 (fun y hy => by simp only [h y hy]; simp), List.find?_cons_of_pos (p := fun x : Blk => x.kind == k) h2]
  rfl
set_option maxHeartbeats 1000000 in
theorem find1_pred (l : List Blk) (k : Int) (kb N : Nat) (w : World) (hkb : kb < N) (hN : N ≤ w.heap.size) (hc : w.cell? ⟨kb, 0, none⟩ = some (.int .i64 k)) :
    PredN 76 #[.pointer (some ⟨kb, 0, none⟩)] (fun x => x.kind == k) N w l := by
  refine ⟨fun _ _ => by kernel_rfl, fun x W _ hW => ?_⟩
  have c1 : W.cell? ⟨kb, 0, none⟩ = some (.int .i64 k) := (hW.cell (p := ⟨kb, 0, none⟩) hkb).trans hc
  have z : kb < W.heap.size := by have := hW.size; omega
  clear hc hW
  show Calls Try.prog 76 #[.agg #[.int .i64 x.kind, .int .i64 x.flags, .string (B x.data)], .pointer (some ⟨kb, 0, none⟩)] W fun e W' => e = .returned (.bool (x.kind == k)) ∧ Below W.heap.size W W'
  go_enter Try.func76, Try.ntmps76
  go_wp2
  go_ret
  exact ⟨rfl, (by repeat' (first | with_reducible (first | refine bset ?_ ?_ | exact Below.refl _ _ | assumption | refine bdrewN ?_ _ | refine bdrew ?_ | refine balloc0 ?_ | refine balloc ?_ ?_ | (apply btrans0; rotate_left; assumption) | (apply btrans; rotate_left; assumption)) | exact Below.refl _ _ | assumption | (apply btrans0; rotate_left; assumption) | (apply btrans; rotate_left; assumption) | (simp; done) | omega | (simp; omega)))⟩
set_option maxHeartbeats 1000000 in
theorem remove1_pred (l : List Blk) (k : Int) (kb N : Nat) (w : World) (hkb : kb < N) (hN : N ≤ w.heap.size) (hc : w.cell? ⟨kb, 0, none⟩ = some (.int .i64 k)) :
    PredN 74 #[.pointer (some ⟨kb, 0, none⟩)] (fun x => x.kind != k) N w l := by
  refine ⟨fun _ _ => by kernel_rfl, fun x W _ hW => ?_⟩
  have c1 : W.cell? ⟨kb, 0, none⟩ = some (.int .i64 k) := (hW.cell (p := ⟨kb, 0, none⟩) hkb).trans hc
  have z : kb < W.heap.size := by have := hW.size; omega
  clear hc hW
  show Calls Try.prog 74 #[.agg #[.int .i64 x.kind, .int .i64 x.flags, .string (B x.data)], .pointer (some ⟨kb, 0, none⟩)] W fun e W' => e = .returned (.bool (x.kind != k)) ∧ Below W.heap.size W W'
  go_enter Try.func74, Try.ntmps74
  go_wp2
  go_ret
  exact ⟨rfl, (by repeat' (first | with_reducible (first | refine bset ?_ ?_ | exact Below.refl _ _ | assumption | refine bdrewN ?_ _ | refine bdrew ?_ | refine balloc0 ?_ | refine balloc ?_ ?_ | (apply btrans0; rotate_left; assumption) | (apply btrans; rotate_left; assumption)) | exact Below.refl _ _ | assumption | (apply btrans0; rotate_left; assumption) | (apply btrans; rotate_left; assumption) | (simp; done) | omega | (simp; omega)))⟩
set_option maxHeartbeats 1000000 in
theorem put1_pred (l : List Blk) (k : Int) (kb N : Nat) (w : World) (hkb : kb < N) (hN : N ≤ w.heap.size) (hc : w.cell? ⟨kb, 0, none⟩ = some (.int .i64 k)) :
    PredN 87 #[.pointer (some ⟨kb, 0, none⟩)] (fun x => decide (x.kind < k)) N w l := by
  refine ⟨fun _ _ => by kernel_rfl, fun x W _ hW => ?_⟩
  have c1 : W.cell? ⟨kb, 0, none⟩ = some (.int .i64 k) := (hW.cell (p := ⟨kb, 0, none⟩) hkb).trans hc
  have z : kb < W.heap.size := by have := hW.size; omega
  clear hc hW
  show Calls Try.prog 87 #[.agg #[.int .i64 x.kind, .int .i64 x.flags, .string (B x.data)], .pointer (some ⟨kb, 0, none⟩)] W fun e W' => e = .returned (.bool (decide (x.kind < k))) ∧ Below W.heap.size W W'
  go_enter Try.func87, Try.ntmps87
  go_wp2
  go_ret
  exact ⟨rfl, (by repeat' (first | with_reducible (first | refine bset ?_ ?_ | exact Below.refl _ _ | assumption | refine bdrewN ?_ _ | refine bdrew ?_ | refine balloc0 ?_ | refine balloc ?_ ?_ | (apply btrans0; rotate_left; assumption) | (apply btrans; rotate_left; assumption)) | exact Below.refl _ _ | assumption | (apply btrans0; rotate_left; assumption) | (apply btrans; rotate_left; assumption) | (simp; done) | omega | (simp; omega)))⟩
set_option maxHeartbeats 1000000 in
theorem put2_pred (l : List Blk) (k : Int) (kb N : Nat) (w : World) (hkb : kb < N) (hN : N ≤ w.heap.size) (hc : w.cell? ⟨kb, 0, none⟩ = some (.int .i64 k)) :
    PredN 88 #[.pointer (some ⟨kb, 0, none⟩)] (fun x => decide (k < x.kind)) N w l := by
  refine ⟨fun _ _ => by kernel_rfl, fun x W _ hW => ?_⟩
  have c1 : W.cell? ⟨kb, 0, none⟩ = some (.int .i64 k) := (hW.cell (p := ⟨kb, 0, none⟩) hkb).trans hc
  have z : kb < W.heap.size := by have := hW.size; omega
  clear hc hW
  show Calls Try.prog 88 #[.agg #[.int .i64 x.kind, .int .i64 x.flags, .string (B x.data)], .pointer (some ⟨kb, 0, none⟩)] W fun e W' => e = .returned (.bool (decide (k < x.kind))) ∧ Below W.heap.size W W'
  go_enter Try.func88, Try.ntmps88
  go_wp2
  go_ret
  exact ⟨rfl, (by repeat' (first | with_reducible (first | refine bset ?_ ?_ | exact Below.refl _ _ | assumption | refine bdrewN ?_ _ | refine bdrew ?_ | refine balloc0 ?_ | refine balloc ?_ ?_ | (apply btrans0; rotate_left; assumption) | (apply btrans; rotate_left; assumption)) | exact Below.refl _ _ | assumption | (apply btrans0; rotate_left; assumption) | (apply btrans; rotate_left; assumption) | (simp; done) | omega | (simp; omega)))⟩
set_option maxHeartbeats 1000000 in
theorem remove_any (l : List Blk) (u : Value) (k : Int) (w : World) (h : RBlks w w.heap.size u l) (hl : l.length ≤ 1000) :
    Calls Try.prog 53 #[u, .int .i64 k] w (BlksPost (l.filter (fun x => x.kind != k)) w) := by
  have HR := Lib.hid h
  clear h
  go_enter Try.func53, Try.ntmps53
  go_wp2_with fail
  refine (filter_pred l u _ _ (fun x => x.kind != k) _ (HR.out.below (C := w.heap.size) (by repeat' (first | with_reducible (first | refine bset ?_ ?_ | exact Below.refl _ _ | assumption | refine bdrewN ?_ _ | refine bdrew ?_ | refine balloc0 ?_ | refine balloc ?_ ?_ | (apply btrans0; rotate_left; assumption) | (apply btrans; rotate_left; assumption)) | exact Below.refl _ _ | assumption | (apply btrans0; rotate_left; assumption) | (apply btrans; rotate_left; assumption) | (simp; done) | omega | (simp; omega))) (Nat.le_refl _) (by simp)) ((remove1_pred l k w.heap.size (w.heap.size + 1) _ (by omega) (by simp) (cellB heap_new 0)).at (by simp)) hl).mono ?_
  rintro e w1 ⟨v, rfl, hr1, hb1, ho1⟩
  go_wp2
  go_ret
  refine ⟨_, rfl, hr1, (by repeat' (first | with_reducible (first | refine bset ?_ ?_ | exact Below.refl _ _ | assumption | refine bdrewN ?_ _ | refine bdrew ?_ | refine balloc0 ?_ | refine balloc ?_ ?_ | (apply btrans0; rotate_left; assumption) | (apply btrans; rotate_left; assumption)) | exact Below.refl _ _ | assumption | (apply btrans0; rotate_left; assumption) | (apply btrans; rotate_left; assumption) | (simp; done) | omega | (simp; omega))), ?_⟩
  exact ⟨ho1.1, ho1.2.imp id fun ⟨g, cap, cur, h1, h2, h3⟩ => ⟨g, cap, cur, h1, by simp at h2; omega, h3⟩⟩
set_option maxRecDepth 100000 in
set_option maxHeartbeats 1000000 in
theorem find_any (l : List Blk) (u : Value) (k : Int) (w : World) (h : RBlks w w.heap.size u l) :
    Calls Try.prog 56 #[u, .int .i64 k] w fun e w' => e = .returned (.tuple #[.agg #[.int .i64 (findS l k).1.kind, .int .i64 (findS l k).1.flags, .string (B (findS l k).1.data)], .bool (findS l k).2]) ∧ Below w.heap.size w w' := by
  obtain ⟨a, c, rfl, h1, h2, h3, h4⟩ := id h
  unfold maxLen at h2
  have HR := Lib.hid h
  have H4 := Lib.hid h4
  clear h h3 h4
  go_enter Try.func56, Try.ntmps56
  go_wp2_with fail
  refine (index_pred l _ _ _ (fun x => x.kind == k) _ (HR.out.below (C := w.heap.size) (by repeat' (first | with_reducible (first | refine bset ?_ ?_ | exact Below.refl _ _ | assumption | refine bdrewN ?_ _ | refine bdrew ?_ | refine balloc0 ?_ | refine balloc ?_ ?_ | (apply btrans0; rotate_left; assumption) | (apply btrans; rotate_left; assumption)) | exact Below.refl _ _ | assumption | (apply btrans0; rotate_left; assumption) | (apply btrans; rotate_left; assumption) | (simp; done) | omega | (simp; omega))) (Nat.le_refl _) (by simp; omega)) ((find1_pred l k w.heap.size (w.heap.size + 1) _ (by omega) (by simp) (cellB ((Below.heap_alloc _ _ _ (by simp)).trans heap_new) 0)).at (by simp))).mono ?_
  rintro e w1 ⟨hb1, hcs⟩
  have z1 : w.heap.size + 1 < w1.heap.size := by have := hb1.size; simp at this; omega
  have hB1 : Below w.heap.size w w1 := (by repeat' (first | with_reducible (first | refine bset ?_ ?_ | exact Below.refl _ _ | assumption | refine bdrewN ?_ _ | refine bdrew ?_ | refine balloc0 ?_ | refine balloc ?_ ?_ | (apply btrans0; rotate_left; assumption) | (apply btrans; rotate_left; assumption)) | exact Below.refl _ _ | assumption | (apply btrans0; rotate_left; assumption) | (apply btrans; rotate_left; assumption) | (simp; done) | omega | (simp; omega)))
  have Z1 : w1.heap[w.heap.size + 1]? = some (.cells #[.int .i64 0, .int .i64 0, .string (B [])] 56 (0, 0)) := (hb1.block _ (by simp)).trans (by exact heap_new' (by simp))
  have ca := fun o => cellB Z1 o
  have fa := fun o => frozenB Z1 o
  clear hb1
  rcases hcs with ⟨rfl, hF⟩ | ⟨q, rfl, hq, hF, hT⟩
  · have HS := Lib.hid (findS_none hF)
    clear hF
    go_wp2
    rw [HS.out]
    refine bodyPost_ret (v := .tuple #[.agg #[.int .i64 0, .int .i64 0, .string { data := #[] }], .bool false]) (by simp [results, Try.results56, go_sem, World.cell?_setCell_same', ca]) rfl ?_
    exact ⟨rfl, (by repeat' (first | with_reducible (first | refine bset ?_ ?_ | exact Below.refl _ _ | assumption | refine bdrewN ?_ _ | refine bdrew ?_ | refine balloc0 ?_ | refine balloc ?_ ?_ | (apply btrans0; rotate_left; assumption) | (apply btrans; rotate_left; assumption)) | exact Below.refl _ _ | assumption | (apply btrans0; rotate_left; assumption) | (apply btrans; rotate_left; assumption) | (simp; done) | omega | (simp; omega)))⟩
  · obtain ⟨x, hx⟩ : ∃ x, l[q]? = some x := ⟨_, List.getElem?_eq_getElem hq⟩
    have HS := Lib.hid (findS_some hx hF (hT x hx))
    obtain ⟨bb, o, rfl, hbn, hcell⟩ := H4.out (by omega)
    obtain ⟨c1, c2, c3⟩ := (hcell q x hx).keep (fun o => hB1.cell (p := ⟨bb, o, none⟩) hbn)
    have k0 : (0 : Int) ≤ (q : Int) := by omega
    have k1 : (q : Int) < (l.length : Int) := by omega
    clear hF hT hx hcell
    go_wp2
    rw [HS.out]
    refine bodyPost_ret (v := .tuple #[.agg #[.int .i64 x.kind, .int .i64 x.flags, .string (B x.data)], .bool true]) (by simp [results, Try.results56, go_sem, World.cell?_setCell_same', ca]) rfl ?_
    exact ⟨rfl, (by repeat' (first | with_reducible (first | refine bset ?_ ?_ | exact Below.refl _ _ | assumption | refine bdrewN ?_ _ | refine bdrew ?_ | refine balloc0 ?_ | refine balloc ?_ ?_ | (apply btrans0; rotate_left; assumption) | (apply btrans; rotate_left; assumption)) | exact Below.refl _ _ | assumption | (apply btrans0; rotate_left; assumption) | (apply btrans; rotate_left; assumption) | (simp; done) | omega | (simp; omega)))⟩
end Go.Proofs.Ythgokfceakbjlaa
/-! XEn -/
namespace Go.Proofs.Ythgokfceakbjlaa
open Go Go.RowKit
attribute [local go_sem] B_getElem B_size B_app B_extract B_get B_toList
def putL (l : List Blk) (b : Blk) : List Blk := l.filter (fun x => decide (x.kind < b.kind)) ++ [b] ++ l.filter (fun x => decide (b.kind < x.kind))
/-- what Put answers -/
def putS (l : List Blk) (b : Blk) : List Blk × Int := if chkAll l ≠ 0 then ([], 1) else if blkE b ≠ 0 then ([], blkE b) else if 8 < (putL l b).length then ([], 4) else (putL l b, 0)
def PutPost (r : List Blk × Int) (w : World) (e : Ending) (w' : World) : Prop := ∃ v, e = .returned (.tuple #[v, .int .i64 r.2]) ∧ RBlks w' w'.heap.size v r.1 ∧ Below w.heap.size w w' ∧ RFrom w.heap.size v
/-- append(v, nil...) -/
theorem wpList_append_skip {P : Program} {ops : Array Oper} {rest : List Oper} {o : Oper} {a : Act} {Q : Exit → Act → World → Prop} (w : World) (hgd : o.guard = none) (s x : Operand) (t : TypeId)
    (ho : o.op = .call { callee := .builtin .append, args := #[s, x], argTypes := #[t, t] }) (v : Value) (hs : a.eval s = v) (hx : a.eval x = .slice none 0 0)
    (hr : (Builtin.append_ #[t, t] t #[v, .slice none 0 0]).run P w = .ok v w) (h : wpList P ops Q rest (a.put o.dst v) w) (ht : o.type = t := by rfl) : wpList P ops Q (o :: rest) a w := by
  refine wpList_plain hgd fun K hK => ?_
  unfold Oper.wp execOp
  simp only [ho, resolve, invoke, builtin, Sem.run_bind, Sem.run_pure, Result.andThen_ok, List.map_toArray, List.map_cons, List.map_nil, hs, hx, ht, hr]
  exact hK _ _ h
set_option maxRecDepth 100000 in
set_option maxHeartbeats 3000000 in
theorem put_any (l : List Blk) (u : Value) (b : Blk) (w : World) (h : RBlks w w.heap.size u l) (hd : ∀ x ∈ l, x.data.length ≤ maxLen) (hb : b.data.length ≤ maxLen) :
    Calls Try.prog 66 #[u, .agg #[.int .i64 b.kind, .int .i64 b.flags, .string (B b.data)]] w (PutPost (putS l b) w) := by
  obtain ⟨ua, uc, rfl, _⟩ := id h
  have HR := Lib.hid h
  have HD := Lib.hid hd
  unfold maxLen at hb
  clear h hd
  by_cases hc : chkAll l = 0
  case neg =>
    have hp : putS l b = ([], 1) := by unfold putS; rw [if_pos hc]
    have hd2 : Hid (decide (chkAll l = 0) = false) := Lib.hid (decide_eq_false hc)
    rw [hp]
    clear hc hp
    go_enter Try.func66, Try.ntmps66
    go_wp2_with fail
    refine (valid_any l _ _ (HR.out.below (C := w.heap.size) (by repeat' (first | with_reducible (first | refine bset ?_ ?_ | exact Below.refl _ _ | assumption | refine bdrewN ?_ _ | refine bdrew ?_ | refine balloc0 ?_ | refine balloc ?_ ?_ | (apply btrans0; rotate_left; assumption) | (apply btrans; rotate_left; assumption)) | exact Below.refl _ _ | assumption | (apply btrans0; rotate_left; assumption) | (apply btrans; rotate_left; assumption) | (simp; done) | omega | (simp; omega))) (Nat.le_refl _) (by simp)) HD.out).mono ?_
    rw [hd2.out]
    rintro e w1 ⟨rfl, hb1⟩
    go_wp2
    go_ret2
    exact ⟨_, rfl, RBlks.nil _ _, (by repeat' (first | with_reducible (first | refine bset ?_ ?_ | exact Below.refl _ _ | assumption | refine bdrewN ?_ _ | refine bdrew ?_ | refine balloc0 ?_ | refine balloc ?_ ?_ | (apply btrans0; rotate_left; assumption) | (apply btrans; rotate_left; assumption)) | exact Below.refl _ _ | assumption | (apply btrans0; rotate_left; assumption) | (apply btrans; rotate_left; assumption) | (simp; done) | omega | (simp; omega))), RFrom.nil _⟩
  have hd2 : Hid (decide (chkAll l = 0) = true) := Lib.hid (decide_eq_true hc)
  obtain ⟨hl8, _⟩ := chkAll_zero hc
  have HC := Lib.hid hc
  have hl' : l.length ≤ 1000 := by omega
  clear hc
  by_cases hE : blkE b = 0
  case neg =>
    have hp : putS l b = ([], blkE b) := by unfold putS; rw [if_neg (by simp [HC.out]), if_pos hE]
    have hE2 : (blkE b == 0) = false := beq_eq_false_iff_ne.2 hE
    rw [hp]
    obtain ⟨E, hEE⟩ : ∃ E, blkE b = E := ⟨_, rfl⟩
    have HEE := Lib.hid hEE
    rw [hEE] at hE2 ⊢
    clear hp hE hEE
    go_enter Try.func66, Try.ntmps66
    go_wp2_with fail
    refine (valid_any l _ _ (HR.out.below (C := w.heap.size) (by repeat' (first | with_reducible (first | refine bset ?_ ?_ | exact Below.refl _ _ | assumption | refine bdrewN ?_ _ | refine bdrew ?_ | refine balloc0 ?_ | refine balloc ?_ ?_ | (apply btrans0; rotate_left; assumption) | (apply btrans; rotate_left; assumption)) | exact Below.refl _ _ | assumption | (apply btrans0; rotate_left; assumption) | (apply btrans; rotate_left; assumption) | (simp; done) | omega | (simp; omega))) (Nat.le_refl _) (by simp)) HD.out).mono ?_
    rw [hd2.out]
    rintro e w1 ⟨rfl, hb1⟩
    obtain ⟨k1, f1⟩ := bcell hb1
    have z1 : w.heap.size < w1.heap.size := by have := hb1.size; simp at this; omega
    go_wp2_with fail
    refine (bcheck_any b _ hb).mono ?_
    rw [HEE.out]
    rintro e w2 ⟨rfl, hb2⟩
    go_wp2
    go_ret2
    exact ⟨_, rfl, RBlks.nil _ _, (by repeat' (first | with_reducible (first | refine bset ?_ ?_ | exact Below.refl _ _ | assumption | refine bdrewN ?_ _ | refine bdrew ?_ | refine balloc0 ?_ | refine balloc ?_ ?_ | (apply btrans0; rotate_left; assumption) | (apply btrans; rotate_left; assumption)) | exact Below.refl _ _ | assumption | (apply btrans0; rotate_left; assumption) | (apply btrans; rotate_left; assumption) | (simp; done) | omega | (simp; omega))), RFrom.nil _⟩
  have HE := Lib.hid hE
  obtain ⟨i0, hin, hz0, hz1, hz2⟩ := info_parts infoBlk
  clear hE
  go_enter Try.func66, Try.ntmps66
  go_wp2_with fail
  refine (valid_any l _ _ (HR.out.below (C := w.heap.size) (by repeat' (first | with_reducible (first | refine bset ?_ ?_ | exact Below.refl _ _ | assumption | refine bdrewN ?_ _ | refine bdrew ?_ | refine balloc0 ?_ | refine balloc ?_ ?_ | (apply btrans0; rotate_left; assumption) | (apply btrans; rotate_left; assumption)) | exact Below.refl _ _ | assumption | (apply btrans0; rotate_left; assumption) | (apply btrans; rotate_left; assumption) | (simp; done) | omega | (simp; omega))) (Nat.le_refl _) (by simp)) HD.out).mono ?_
  rw [hd2.out]
  rintro e w1 ⟨rfl, hb1⟩
  have z1 : w.heap.size < w1.heap.size := by have := hb1.size; simp at this; omega
  have hB1 : Below w.heap.size w w1 := (by repeat' (first | with_reducible (first | refine bset ?_ ?_ | exact Below.refl _ _ | assumption | refine bdrewN ?_ _ | refine bdrew ?_ | refine balloc0 ?_ | refine balloc ?_ ?_ | (apply btrans0; rotate_left; assumption) | (apply btrans; rotate_left; assumption)) | exact Below.refl _ _ | assumption | (apply btrans0; rotate_left; assumption) | (apply btrans; rotate_left; assumption) | (simp; done) | omega | (simp; omega)))
  have K1 : w1.heap[w.heap.size]? = some (.cells #[.int .i64 b.kind, .int .i64 b.flags, .string (B b.data)] 56 (0, 0)) := (hb1.block _ (by simp)).trans heap_new
  have ca := fun o => cellB K1 o
  clear hb1
  go_wp2_with fail
  refine (bcheck_any b _ hb).mono ?_
  rw [HE.out]
  rintro e w2 ⟨rfl, hb2⟩
  have z2 : w1.heap.size ≤ w2.heap.size := hb2.size
  have z2' : w.heap.size < w2.heap.size := by omega
  have hB2 : Below w.heap.size w w2 := (by repeat' (first | with_reducible (first | refine bset ?_ ?_ | exact Below.refl _ _ | assumption | refine bdrewN ?_ _ | refine bdrew ?_ | refine balloc0 ?_ | refine balloc ?_ ?_ | (apply btrans0; rotate_left; assumption) | (apply btrans; rotate_left; assumption)) | exact Below.refl _ _ | assumption | (apply btrans0; rotate_left; assumption) | (apply btrans; rotate_left; assumption) | (simp; done) | omega | (simp; omega)))
  have K2 := (hb2.block w.heap.size z1).trans K1
  clear hb2 ca K1 hB1
  go_wp2
  have ca := fun o => cellB K2 o
  refine wp_region_fork (fun V => ∀ o, V.cell? ⟨w.heap.size, o, none⟩ = #[Value.int .i64 b.kind, Value.int .i64 b.flags, Value.string (B b.data)][o]?) [0, 0, 2, 1, 2, 3, 0] [0, 1, 3] 2 4 [4, 5, 6] [2, 5, 6] (by kernel_rfl) (by kernel_rfl) ?_ ?_
  · exact ca
  (iterate 3 (refine planR_held rfl (by rfl) (fun w1 hS => by (try (have hS := hS rfl; obtain hS := hS; repeat (obtain ⟨_, hS⟩ := hS))); go_simp; rfl) ?_; simp only [Act.put, List.setIfInBounds_toArray, List.set_cons_zero, List.set_cons_succ]))
  refine ⟨?_, ?_⟩
  · (refine fork_op rfl (by rfl) (fun K hK => ?_); go_simp)
    refine (filter_pred l _ _ _ (fun x => decide (x.kind < b.kind)) w2.drew (HR.out.below (C := w.heap.size) (show Below w.heap.size w w2.drew from bdrew hB2) (Nat.le_refl _) hB2.size) ((put1_pred l b.kind w.heap.size w2.heap.size w2.drew z2' (Nat.le_refl _) (ca 0)).at (Nat.le_refl _)) hl').mono ?_
    rintro e w3 ⟨v3, rfl, hr3, hb3, ho3⟩
    have hB3 : Below w.heap.size w w3 := (by repeat' (first | with_reducible (first | refine bset ?_ ?_ | exact Below.refl _ _ | assumption | refine bdrewN ?_ _ | refine bdrew ?_ | refine balloc0 ?_ | refine balloc ?_ ?_ | (apply btrans0; rotate_left; assumption) | (apply btrans; rotate_left; assumption)) | exact Below.refl _ _ | assumption | (apply btrans0; rotate_left; assumption) | (apply btrans; rotate_left; assumption) | (simp; done) | omega | (simp; omega)))
    have z3 : w2.heap.size ≤ w3.heap.size := hb3.size
    have z3' : w.heap.size < w3.heap.size := by omega
    have K3 : w3.heap[w.heap.size]? = _ := (hb3.block w.heap.size (by simpa using z2')).trans K2
    clear hr3 hb3 ca
    have ca := fun o => cellB K3 o
    (refine hK _ _ (by exact ca) ?_; clear hK K; (try simp only [Act.put, List.setIfInBounds_toArray, List.set_cons_zero, List.set_cons_succ]))
    (refine plan_keep rfl rfl (by rfl) (fun K hK => ?_); go_simp)
    (refine hK _ _ (by exact fun o => (World.cell?_alloc_lt _ _ _ z3').trans (ca o)) ?_; clear hK K; (try simp only [Act.put, List.setIfInBounds_toArray, List.set_cons_zero, List.set_cons_succ]))
    refine plan_late rfl rfl (by rfl) (fun K hK => ?_)
    have hN1 : (l.filter (fun x => decide (x.kind < b.kind))).length ≤ l.length := List.length_filter_le _ _
    refine wp_append_lies _ _ _ _ rfl w2.heap.size 56 i0 _ 3 32 Try.underlying26 hin hz0 hz1 hz2 rfl (by omega) v3 _ _ (by rfl) (ho3.alloc _) ⟨w3.heap.size, 0, none⟩ 1 1 (blkC b) (by rfl) rfl (news_one (t := 56) (by exact heap_new)) (blkC_one b) (by omega) (by simp only [maxLen]; omega) (by omega) (by simp; omega) (w3.heap.size + 1) (by simp) ?_
    intro g5 cap5 w5 hown5 hg5 hat5 hlt5
    have K5 : w5.heap[w.heap.size]? = some (.cells #[.int .i64 b.kind, .int .i64 b.flags, .string (B b.data)] 56 (0, 0)) := (hg5.block _ (by simp; omega) (fun e => by have h := (ho3.lt _ e.symm).1; have h : w2.heap.size ≤ w.heap.size := h; omega)).trans ((Below.heap_alloc _ _ _ z3').trans K3)
    have hB5 : Below w.heap.size w w5 := (balloc hB3 (by omega)).grown hg5 (by simp; omega) (fun q hq => by have h := (ho3.lt q hq).1; have h : w2.heap.size ≤ q := h; omega)
    have z5 : w.heap.size < w5.heap.size := by have := hg5.size; simp at this; omega
    have zb : w2.heap.size ≤ w5.heap.size := by have := hg5.size; simp at this; omega
    have HO5 := Lib.hid hown5
    clear hown5 hg5 hat5 ho3 K3 hB3 ca
    refine hK _ _ ?_
    clear hK K
    simp only [Act.put, List.setIfInBounds_toArray, List.set_cons_zero, List.set_cons_succ]
    (iterate 1 (refine plan_held rfl (by decide) (by rfl) (fun w1 hS => by (try (have hS := hS rfl; obtain hS := hS; repeat (obtain ⟨_, hS⟩ := hS))); go_simp; rfl) ?_; simp only [Act.put, List.setIfInBounds_toArray, List.set_cons_zero, List.set_cons_succ]))
    refine plan_done ?_
    obtain ⟨vo, hvo⟩ : ∃ vo, Value.slice (some ⟨g5, 0, none⟩) ((l.filter (fun x => decide (x.kind < b.kind))).length + 1) cap5 = vo := ⟨_, rfl⟩
    rw [hvo] at HO5 ⊢
    clear hvo
    go_wp2_with fail
    refine (filter_pred l _ _ _ (fun x => decide (b.kind < x.kind)) _ (HR.out.below (C := w.heap.size) hB5 (Nat.le_refl _) hB5.size) ((put2_pred l b.kind w.heap.size w5.heap.size _ z5 (Nat.le_refl _) (cellB K5 0)).at (Nat.le_refl _)) hl').mono ?_
    rintro e w6 ⟨v6, rfl, hr6, hb6, ho6⟩
    have hB6 : Below w.heap.size w w6 := (by repeat' (first | with_reducible (first | refine bset ?_ ?_ | exact Below.refl _ _ | assumption | refine bdrewN ?_ _ | refine bdrew ?_ | refine balloc0 ?_ | refine balloc ?_ ?_ | (apply btrans0; rotate_left; assumption) | (apply btrans; rotate_left; assumption)) | exact Below.refl _ _ | assumption | (apply btrans0; rotate_left; assumption) | (apply btrans; rotate_left; assumption) | (simp; done) | omega | (simp; omega)))
    have z6 : w5.heap.size ≤ w6.heap.size := hb6.size
    have hown6 := own_kept HO5.out (fun q _ cs e f hq => hb6.block q (by
      rcases Nat.lt_or_ge q w5.heap.size with h | h
      · exact h
      · rw [Array.getElem?_eq_none h] at hq; cases hq))
    have hL : ((l.filter (fun x => decide (x.kind < b.kind))).flatMap blkC ++ blkC b) ++ (l.filter (fun x => decide (b.kind < x.kind))).flatMap blkC = (putL l b).flatMap blkC := by simp [putL, List.flatMap_append]
    have hN : (putL l b).length = (l.filter (fun x => decide (x.kind < b.kind))).length + 1 + (l.filter (fun x => decide (b.kind < x.kind))).length := by simp [putL]; omega
    have hN1 : (l.filter (fun x => decide (x.kind < b.kind))).length ≤ l.length := List.length_filter_le _ _
    have hN2 : (l.filter (fun x => decide (b.kind < x.kind))).length ≤ l.length := List.length_filter_le _ _
    have hfin : ∀ (v' : Value) (w7 : World) (base : Nat), w7.ownsRow base 56 3 v' ((l.filter (fun x => decide (x.kind < b.kind))).length + 1 + (l.filter (fun x => decide (b.kind < x.kind))).length) (((l.filter (fun x => decide (x.kind < b.kind))).flatMap blkC ++ blkC b) ++ (l.filter (fun x => decide (b.kind < x.kind))).flatMap blkC) → (∃ a c, v' = .slice a (putL l b).length c) ∧ RBlks w7 w7.heap.size v' (putL l b) ∧ RFrom base v' := fun v' w7 base ho => by
      rw [hL, ← hN] at ho
      have := RBlks.of_own ho
      obtain ⟨a, c, e, _⟩ := id this
      exact ⟨⟨a, c, e⟩, this, RFrom.of_own ho⟩
    have HFin := Lib.hid hfin
    have HN := Lib.hid hN
    clear hfin hL hb6 hN
    rcases ho6.2 with ⟨rfl, hz⟩ | ⟨g6, cap6, cur6, rfl, hbg6, hg6, hc6, hm6, _⟩
    · have happ := run_append_owned_none (P := Try.prog) (w := w6) w2.heap.size 26 26 56 i0 3 Try.underlying26 hin vo _ _ hown6
      have hown7 : w6.ownsRow w2.heap.size 56 3 vo ((l.filter (fun x => decide (x.kind < b.kind))).length + 1 + (l.filter (fun x => decide (b.kind < x.kind))).length) (((l.filter (fun x => decide (x.kind < b.kind))).flatMap blkC ++ blkC b) ++ (l.filter (fun x => decide (b.kind < x.kind))).flatMap blkC) := by
        have e2 : l.filter (fun x => decide (b.kind < x.kind)) = [] := List.eq_nil_of_length_eq_zero hz
        rw [e2]
        simpa using hown6
      obtain ⟨⟨va, vcap, rfl⟩, hr7, hfr⟩ := HFin.out vo w6 _ hown7
      have HFR := Lib.hid (hfr.mono (show w.heap.size ≤ w2.heap.size by omega))
      clear hfr
      clear hown7 hown6 ho6 HFin
      have H7 := Lib.hid hr7
      by_cases h8 : 8 < (putL l b).length
      · have h8' : (8 : Int) < ((putL l b).length : Int) := by omega
        have hp : putS l b = ([], 4) := by unfold putS; rw [if_neg (by simp [HC.out]), if_neg (by simp [HE.out]), if_pos h8]
        have HP := Lib.hid hp
        clear hp
        go_wp2_with (at_builtin; refine wpList_append_skip _ rfl _ _ _ rfl (.slice va (putL l b).length vcap) rfl rfl happ ?_)
        go_ret2
        refine ⟨_, by rw [HP.out]; rfl, by rw [HP.out]; exact RBlks.nil _ _, (by repeat' (first | with_reducible (first | refine bset ?_ ?_ | exact Below.refl _ _ | assumption | refine bdrewN ?_ _ | refine bdrew ?_ | refine balloc0 ?_ | refine balloc ?_ ?_ | (apply btrans0; rotate_left; assumption) | (apply btrans; rotate_left; assumption)) | exact Below.refl _ _ | assumption | (apply btrans0; rotate_left; assumption) | (apply btrans; rotate_left; assumption) | (simp; done) | omega | (simp; omega))), RFrom.nil _⟩
      · have h8' : ¬ (8 : Int) < ((putL l b).length : Int) := by omega
        have hp : putS l b = (putL l b, 0) := by unfold putS; rw [if_neg (by simp [HC.out]), if_neg (by simp [HE.out]), if_neg h8]
        have HP := Lib.hid hp
        clear hp
        go_wp2_with (at_builtin; refine wpList_append_skip _ rfl _ _ _ rfl (.slice va (putL l b).length vcap) rfl rfl happ ?_)
        go_ret2
        refine ⟨_, by rw [HP.out]; rfl, by rw [HP.out]; exact H7.out, (by repeat' (first | with_reducible (first | refine bset ?_ ?_ | exact Below.refl _ _ | assumption | refine bdrewN ?_ _ | refine bdrew ?_ | refine balloc0 ?_ | refine balloc ?_ ?_ | (apply btrans0; rotate_left; assumption) | (apply btrans; rotate_left; assumption)) | exact Below.refl _ _ | assumption | (apply btrans0; rotate_left; assumption) | (apply btrans; rotate_left; assumption) | (simp; done) | omega | (simp; omega))), HFR.out⟩
    · have hn6 : 0 ≤ (l.filter (fun x => decide (b.kind < x.kind))).length := Nat.zero_le _
      unfold maxLen at hm6
      by_cases h8 : 8 < (putL l b).length
      · have h8' : (8 : Int) < ((putL l b).length : Int) := by omega
        have hp : putS l b = ([], 4) := by unfold putS; rw [if_neg (by simp [HC.out]), if_neg (by simp [HE.out]), if_pos h8]
        have HP := Lib.hid hp
        clear hp
        go_wp2_with (at_builtin; refine wpList_append_own_at _ rfl _ _ _ rfl (w2.heap.size) 56 i0 _ 3 32 Try.underlying26 hin hz0 hz1 hz2 rfl (by omega) vo _ _ rfl hown6 ⟨g6, 0, none⟩ _ cap6 _ rfl (flat_len blkC 3 blkC_len _) (fun j u hj => own_get ho6 rfl hj) (blk_one _) (by simp only [maxLen]; omega) (by omega) (by omega) ?_; intro v' w7 hown7 hg7 _ hat7; obtain ⟨⟨va, vcap, rfl⟩, hr7, hfr⟩ := HFin.out v' w7 _ hown7; have HFR := Lib.hid (hfr.mono (show w.heap.size ≤ w2.heap.size by omega)); clear hown7 hfr; have H7 := Lib.hid hr7; have hB7 : Below w.heap.size w w7 := hB6.grown hg7 (by omega) (fun q hq => by have := (hown6.lt q hq).1; omega); clear hg7 hr7)
        go_ret2
        refine ⟨_, by rw [HP.out]; rfl, by rw [HP.out]; exact RBlks.nil _ _, (by repeat' (first | with_reducible (first | refine bset ?_ ?_ | exact Below.refl _ _ | assumption | refine bdrewN ?_ _ | refine bdrew ?_ | refine balloc0 ?_ | refine balloc ?_ ?_ | (apply btrans0; rotate_left; assumption) | (apply btrans; rotate_left; assumption)) | exact Below.refl _ _ | assumption | (apply btrans0; rotate_left; assumption) | (apply btrans; rotate_left; assumption) | (simp; done) | omega | (simp; omega))), RFrom.nil _⟩
      · have h8' : ¬ (8 : Int) < ((putL l b).length : Int) := by omega
        have hp : putS l b = (putL l b, 0) := by unfold putS; rw [if_neg (by simp [HC.out]), if_neg (by simp [HE.out]), if_neg h8]
        have HP := Lib.hid hp
        clear hp
        go_wp2_with (at_builtin; refine wpList_append_own_at _ rfl _ _ _ rfl (w2.heap.size) 56 i0 _ 3 32 Try.underlying26 hin hz0 hz1 hz2 rfl (by omega) vo _ _ rfl hown6 ⟨g6, 0, none⟩ _ cap6 _ rfl (flat_len blkC 3 blkC_len _) (fun j u hj => own_get ho6 rfl hj) (blk_one _) (by simp only [maxLen]; omega) (by omega) (by omega) ?_; intro v' w7 hown7 hg7 _ hat7; obtain ⟨⟨va, vcap, rfl⟩, hr7, hfr⟩ := HFin.out v' w7 _ hown7; have HFR := Lib.hid (hfr.mono (show w.heap.size ≤ w2.heap.size by omega)); clear hown7 hfr; have H7 := Lib.hid hr7; have hB7 : Below w.heap.size w w7 := hB6.grown hg7 (by omega) (fun q hq => by have := (hown6.lt q hq).1; omega); clear hg7 hr7)
        go_ret2
        refine ⟨_, by rw [HP.out]; rfl, by rw [HP.out]; exact H7.out, (by repeat' (first | with_reducible (first | refine bset ?_ ?_ | exact Below.refl _ _ | assumption | refine bdrewN ?_ _ | refine bdrew ?_ | refine balloc0 ?_ | refine balloc ?_ ?_ | (apply btrans0; rotate_left; assumption) | (apply btrans; rotate_left; assumption)) | exact Below.refl _ _ | assumption | (apply btrans0; rotate_left; assumption) | (apply btrans; rotate_left; assumption) | (simp; done) | omega | (simp; omega))), HFR.out⟩
  · (refine fork_op rfl (by rfl) (fun K hK => ?_); go_simp)
    have zc : (w2.alloc (.cells #[.int .i64 b.kind, .int .i64 b.flags, .string (B b.data)] 56)).drew.heap.size = w2.heap.size + 1 := by simp
    have hBc : Below w.heap.size w (w2.alloc (.cells #[.int .i64 b.kind, .int .i64 b.flags, .string (B b.data)] 56)).drew := bdrew (balloc hB2 hB2.size)
    have Kc : (w2.alloc (.cells #[.int .i64 b.kind, .int .i64 b.flags, .string (B b.data)] 56)).drew.heap[w.heap.size]? = some (.cells #[.int .i64 b.kind, .int .i64 b.flags, .string (B b.data)] 56 (0, 0)) := (Below.heap_alloc w2 _ _ z2').trans K2
    have Nc : (w2.alloc (.cells #[.int .i64 b.kind, .int .i64 b.flags, .string (B b.data)] 56)).drew.heap[w2.heap.size]? = some (.cells #[.int .i64 b.kind, .int .i64 b.flags, .string (B b.data)] 56 (0, 0)) := heap_alloc_new w2 _
    obtain ⟨Wc, hWc⟩ : ∃ Wc, (w2.alloc (.cells #[.int .i64 b.kind, .int .i64 b.flags, .string (B b.data)] 56)).drew = Wc := ⟨_, rfl⟩
    rw [hWc] at zc hBc Kc Nc
    try rw [hWc]
    clear ca
    have ca := fun o => cellB Kc o
    (refine hK _ _ (by exact ca) ?_; clear hK K; (try simp only [Act.put, List.setIfInBounds_toArray, List.set_cons_zero, List.set_cons_succ]))
    (refine plan_keep rfl rfl (by rfl) (fun K hK => ?_); go_simp)
    refine (filter_pred l _ _ _ (fun x => decide (x.kind < b.kind)) Wc (HR.out.below (C := w.heap.size) hBc (Nat.le_refl _) hBc.size) ((put1_pred l b.kind w.heap.size w2.heap.size Wc z2' (by omega) (ca 0)).at (by omega)) hl').mono ?_
    rintro e w3 ⟨v3, rfl, hr3, hb3, ho3⟩
    have hB3 : Below w.heap.size w w3 := (by repeat' (first | with_reducible (first | refine bset ?_ ?_ | exact Below.refl _ _ | assumption | refine bdrewN ?_ _ | refine bdrew ?_ | refine balloc0 ?_ | refine balloc ?_ ?_ | (apply btrans0; rotate_left; assumption) | (apply btrans; rotate_left; assumption)) | exact Below.refl _ _ | assumption | (apply btrans0; rotate_left; assumption) | (apply btrans; rotate_left; assumption) | (simp; done) | omega | (simp; omega)))
    have z3 : Wc.heap.size ≤ w3.heap.size := hb3.size
    have z3' : w.heap.size < w3.heap.size := by omega
    have K3 : w3.heap[w.heap.size]? = _ := (hb3.block w.heap.size (by omega)).trans Kc
    have N3 : w3.heap[w2.heap.size]? = _ := (hb3.block w2.heap.size (by omega)).trans Nc
    clear hr3 hb3 ca
    have ca := fun o => cellB K3 o
    (refine hK _ _ (by exact ca) ?_; clear hK K; (try simp only [Act.put, List.setIfInBounds_toArray, List.set_cons_zero, List.set_cons_succ]))
    refine plan_late rfl rfl (by rfl) (fun K hK => ?_)
    have hN1 : (l.filter (fun x => decide (x.kind < b.kind))).length ≤ l.length := List.length_filter_le _ _
    refine wp_append_lies _ _ _ _ rfl Wc.heap.size 56 i0 _ 3 32 Try.underlying26 hin hz0 hz1 hz2 rfl (by omega) v3 _ _ (by rfl) ho3 ⟨w2.heap.size, 0, none⟩ 1 1 (blkC b) (by rfl) rfl (news_one (t := 56) (by exact N3)) (blkC_one b) (by omega) (by simp only [maxLen]; omega) (by omega) (by omega) w3.heap.size rfl ?_
    intro g5 cap5 w5 hown5 hg5 hat5 hlt5
    have K5 : w5.heap[w.heap.size]? = some (.cells #[.int .i64 b.kind, .int .i64 b.flags, .string (B b.data)] 56 (0, 0)) := (hg5.block _ z3' (fun e => by have h := (ho3.lt _ e.symm).1; omega)).trans K3
    have hB5 : Below w.heap.size w w5 := hB3.grown hg5 (by omega) (fun q hq => by have h := (ho3.lt q hq).1; omega)
    have z5 : w.heap.size < w5.heap.size := by have := hg5.size; omega
    have zb : Wc.heap.size ≤ w5.heap.size := by have := hg5.size; omega
    have HO5 := Lib.hid hown5
    clear hown5 hg5 hat5 ho3 K3 hB3 ca hWc hBc Kc Nc N3
    refine hK _ _ ?_
    clear hK K
    simp only [Act.put, List.setIfInBounds_toArray, List.set_cons_zero, List.set_cons_succ]
    (iterate 1 (refine plan_held rfl (by decide) (by rfl) (fun w1 hS => by (try (have hS := hS rfl; obtain hS := hS; repeat (obtain ⟨_, hS⟩ := hS))); go_simp; rfl) ?_; simp only [Act.put, List.setIfInBounds_toArray, List.set_cons_zero, List.set_cons_succ]))
    refine plan_done ?_
    obtain ⟨vo, hvo⟩ : ∃ vo, Value.slice (some ⟨g5, 0, none⟩) ((l.filter (fun x => decide (x.kind < b.kind))).length + 1) cap5 = vo := ⟨_, rfl⟩
    rw [hvo] at HO5 ⊢
    clear hvo
    go_wp2_with fail
    refine (filter_pred l _ _ _ (fun x => decide (b.kind < x.kind)) _ (HR.out.below (C := w.heap.size) hB5 (Nat.le_refl _) hB5.size) ((put2_pred l b.kind w.heap.size w5.heap.size _ z5 (Nat.le_refl _) (cellB K5 0)).at (Nat.le_refl _)) hl').mono ?_
    rintro e w6 ⟨v6, rfl, hr6, hb6, ho6⟩
    have hB6 : Below w.heap.size w w6 := (by repeat' (first | with_reducible (first | refine bset ?_ ?_ | exact Below.refl _ _ | assumption | refine bdrewN ?_ _ | refine bdrew ?_ | refine balloc0 ?_ | refine balloc ?_ ?_ | (apply btrans0; rotate_left; assumption) | (apply btrans; rotate_left; assumption)) | exact Below.refl _ _ | assumption | (apply btrans0; rotate_left; assumption) | (apply btrans; rotate_left; assumption) | (simp; done) | omega | (simp; omega)))
    have z6 : w5.heap.size ≤ w6.heap.size := hb6.size
    have hown6 := own_kept HO5.out (fun q _ cs e f hq => hb6.block q (by
      rcases Nat.lt_or_ge q w5.heap.size with h | h
      · exact h
      · rw [Array.getElem?_eq_none h] at hq; cases hq))
    have hL : ((l.filter (fun x => decide (x.kind < b.kind))).flatMap blkC ++ blkC b) ++ (l.filter (fun x => decide (b.kind < x.kind))).flatMap blkC = (putL l b).flatMap blkC := by simp [putL, List.flatMap_append]
    have hN : (putL l b).length = (l.filter (fun x => decide (x.kind < b.kind))).length + 1 + (l.filter (fun x => decide (b.kind < x.kind))).length := by simp [putL]; omega
    have hN1 : (l.filter (fun x => decide (x.kind < b.kind))).length ≤ l.length := List.length_filter_le _ _
    have hN2 : (l.filter (fun x => decide (b.kind < x.kind))).length ≤ l.length := List.length_filter_le _ _
    have hfin : ∀ (v' : Value) (w7 : World) (base : Nat), w7.ownsRow base 56 3 v' ((l.filter (fun x => decide (x.kind < b.kind))).length + 1 + (l.filter (fun x => decide (b.kind < x.kind))).length) (((l.filter (fun x => decide (x.kind < b.kind))).flatMap blkC ++ blkC b) ++ (l.filter (fun x => decide (b.kind < x.kind))).flatMap blkC) → (∃ a c, v' = .slice a (putL l b).length c) ∧ RBlks w7 w7.heap.size v' (putL l b) ∧ RFrom base v' := fun v' w7 base ho => by
      rw [hL, ← hN] at ho
      have := RBlks.of_own ho
      obtain ⟨a, c, e, _⟩ := id this
      exact ⟨⟨a, c, e⟩, this, RFrom.of_own ho⟩
    have HFin := Lib.hid hfin
    have HN := Lib.hid hN
    clear hfin hL hb6 hN
    rcases ho6.2 with ⟨rfl, hz⟩ | ⟨g6, cap6, cur6, rfl, hbg6, hg6, hc6, hm6, _⟩
    · have happ := run_append_owned_none (P := Try.prog) (w := w6) Wc.heap.size 26 26 56 i0 3 Try.underlying26 hin vo _ _ hown6
      have hown7 : w6.ownsRow Wc.heap.size 56 3 vo ((l.filter (fun x => decide (x.kind < b.kind))).length + 1 + (l.filter (fun x => decide (b.kind < x.kind))).length) (((l.filter (fun x => decide (x.kind < b.kind))).flatMap blkC ++ blkC b) ++ (l.filter (fun x => decide (b.kind < x.kind))).flatMap blkC) := by
        have e2 : l.filter (fun x => decide (b.kind < x.kind)) = [] := List.eq_nil_of_length_eq_zero hz
        rw [e2]
        simpa using hown6
      obtain ⟨⟨va, vcap, rfl⟩, hr7, hfr⟩ := HFin.out vo w6 _ hown7
      have HFR := Lib.hid (hfr.mono (show w.heap.size ≤ Wc.heap.size by omega))
      clear hfr
      clear hown7 hown6 ho6 HFin
      have H7 := Lib.hid hr7
      by_cases h8 : 8 < (putL l b).length
      · have h8' : (8 : Int) < ((putL l b).length : Int) := by omega
        have hp : putS l b = ([], 4) := by unfold putS; rw [if_neg (by simp [HC.out]), if_neg (by simp [HE.out]), if_pos h8]
        have HP := Lib.hid hp
        clear hp
        go_wp2_with (at_builtin; refine wpList_append_skip _ rfl _ _ _ rfl (.slice va (putL l b).length vcap) rfl rfl happ ?_)
        go_ret2
        refine ⟨_, by rw [HP.out]; rfl, by rw [HP.out]; exact RBlks.nil _ _, (by repeat' (first | with_reducible (first | refine bset ?_ ?_ | exact Below.refl _ _ | assumption | refine bdrewN ?_ _ | refine bdrew ?_ | refine balloc0 ?_ | refine balloc ?_ ?_ | (apply btrans0; rotate_left; assumption) | (apply btrans; rotate_left; assumption)) | exact Below.refl _ _ | assumption | (apply btrans0; rotate_left; assumption) | (apply btrans; rotate_left; assumption) | (simp; done) | omega | (simp; omega))), RFrom.nil _⟩
      · have h8' : ¬ (8 : Int) < ((putL l b).length : Int) := by omega
        have hp : putS l b = (putL l b, 0) := by unfold putS; rw [if_neg (by simp [HC.out]), if_neg (by simp [HE.out]), if_neg h8]
        have HP := Lib.hid hp
        clear hp
        go_wp2_with (at_builtin; refine wpList_append_skip _ rfl _ _ _ rfl (.slice va (putL l b).length vcap) rfl rfl happ ?_)
        go_ret2
        refine ⟨_, by rw [HP.out]; rfl, by rw [HP.out]; exact H7.out, (by repeat' (first | with_reducible (first | refine bset ?_ ?_ | exact Below.refl _ _ | assumption | refine bdrewN ?_ _ | refine bdrew ?_ | refine balloc0 ?_ | refine balloc ?_ ?_ | (apply btrans0; rotate_left; assumption) | (apply btrans; rotate_left; assumption)) | exact Below.refl _ _ | assumption | (apply btrans0; rotate_left; assumption) | (apply btrans; rotate_left; assumption) | (simp; done) | omega | (simp; omega))), HFR.out⟩
    · have hn6 : 0 ≤ (l.filter (fun x => decide (b.kind < x.kind))).length := Nat.zero_le _
      unfold maxLen at hm6
      by_cases h8 : 8 < (putL l b).length
      · have h8' : (8 : Int) < ((putL l b).length : Int) := by omega
        have hp : putS l b = ([], 4) := by unfold putS; rw [if_neg (by simp [HC.out]), if_neg (by simp [HE.out]), if_pos h8]
        have HP := Lib.hid hp
        clear hp
        go_wp2_with (at_builtin; refine wpList_append_own_at _ rfl _ _ _ rfl (Wc.heap.size) 56 i0 _ 3 32 Try.underlying26 hin hz0 hz1 hz2 rfl (by omega) vo _ _ rfl hown6 ⟨g6, 0, none⟩ _ cap6 _ rfl (flat_len blkC 3 blkC_len _) (fun j u hj => own_get ho6 rfl hj) (blk_one _) (by simp only [maxLen]; omega) (by omega) (by omega) ?_; intro v' w7 hown7 hg7 _ hat7; obtain ⟨⟨va, vcap, rfl⟩, hr7, hfr⟩ := HFin.out v' w7 _ hown7; have HFR := Lib.hid (hfr.mono (show w.heap.size ≤ Wc.heap.size by omega)); clear hown7 hfr; have H7 := Lib.hid hr7; have hB7 : Below w.heap.size w w7 := hB6.grown hg7 (by omega) (fun q hq => by have := (hown6.lt q hq).1; omega); clear hg7 hr7)
        go_ret2
        refine ⟨_, by rw [HP.out]; rfl, by rw [HP.out]; exact RBlks.nil _ _, (by repeat' (first | with_reducible (first | refine bset ?_ ?_ | exact Below.refl _ _ | assumption | refine bdrewN ?_ _ | refine bdrew ?_ | refine balloc0 ?_ | refine balloc ?_ ?_ | (apply btrans0; rotate_left; assumption) | (apply btrans; rotate_left; assumption)) | exact Below.refl _ _ | assumption | (apply btrans0; rotate_left; assumption) | (apply btrans; rotate_left; assumption) | (simp; done) | omega | (simp; omega))), RFrom.nil _⟩
      · have h8' : ¬ (8 : Int) < ((putL l b).length : Int) := by omega
        have hp : putS l b = (putL l b, 0) := by unfold putS; rw [if_neg (by simp [HC.out]), if_neg (by simp [HE.out]), if_neg h8]
        have HP := Lib.hid hp
        clear hp
        go_wp2_with (at_builtin; refine wpList_append_own_at _ rfl _ _ _ rfl (Wc.heap.size) 56 i0 _ 3 32 Try.underlying26 hin hz0 hz1 hz2 rfl (by omega) vo _ _ rfl hown6 ⟨g6, 0, none⟩ _ cap6 _ rfl (flat_len blkC 3 blkC_len _) (fun j u hj => own_get ho6 rfl hj) (blk_one _) (by simp only [maxLen]; omega) (by omega) (by omega) ?_; intro v' w7 hown7 hg7 _ hat7; obtain ⟨⟨va, vcap, rfl⟩, hr7, hfr⟩ := HFin.out v' w7 _ hown7; have HFR := Lib.hid (hfr.mono (show w.heap.size ≤ Wc.heap.size by omega)); clear hown7 hfr; have H7 := Lib.hid hr7; have hB7 : Below w.heap.size w w7 := hB6.grown hg7 (by omega) (fun q hq => by have := (hown6.lt q hq).1; omega); clear hg7 hr7)
        go_ret2
        refine ⟨_, by rw [HP.out]; rfl, by rw [HP.out]; exact H7.out, (by repeat' (first | with_reducible (first | refine bset ?_ ?_ | exact Below.refl _ _ | assumption | refine bdrewN ?_ _ | refine bdrew ?_ | refine balloc0 ?_ | refine balloc ?_ ?_ | (apply btrans0; rotate_left; assumption) | (apply btrans; rotate_left; assumption)) | exact Below.refl _ _ | assumption | (apply btrans0; rotate_left; assumption) | (apply btrans; rotate_left; assumption) | (simp; done) | omega | (simp; omega))), HFR.out⟩
end Go.Proofs.Ythgokfceakbjlaa
