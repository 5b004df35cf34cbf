/- Joined by port.py: XEc XEm XEf -/
import Derived.Test.YtcmkpnjbnjbegaaDoorJb
import Derived.Test.YtcmkpnjbnjbegaaDoorJa
import Derived.Test.YtcmkpnjbnjbegaaDoorProg
import Derived.Test.YtcmkpnjbnjbegaaDoorJg
set_option linter.unusedVariables false
set_option linter.unusedSimpArgs false
/-! XEc -/
namespace Go.Proofs.YtcmkpnjbnjbegaaDoor
open Go Go.RowKit
attribute [local go_sem] B_getElem B_size B_app B_extract B_get B_toList
theorem infoBlk : (Tryd.prog.info? 75).map (fun i => (i.zero, i.size, i.bytes)) = some (some (.agg #[.int .i64 0, .int .i64 0, .string (B [])]), 3, 32) := by kernel_rfl
end Go.Proofs.YtcmkpnjbnjbegaaDoor
/-! XEm -/
namespace Go.Proofs.YtcmkpnjbnjbegaaDoor
open Go Go.RowKit
attribute [local go_sem] B_getElem B_size B_app B_extract B_get B_toList
def zBlk : Blk := ⟨0, 0, []⟩
end Go.Proofs.YtcmkpnjbnjbegaaDoor
/-! XEf -/
namespace Go.Proofs.YtcmkpnjbnjbegaaDoor
open Go Go.RowKit
attribute [local go_sem] B_getElem B_size B_app B_extract B_get B_toList
theorem eqBlk (k f : Int) (d : List UInt8) (w : World) : Sem.run Tryd.prog (Go.binOp .neq 75 (.agg #[.int .i64 k, .int .i64 f, .string (B d)]) (.agg #[.int .i64 k, .int .i64 f, .string (B d)])) w = .ok (.bool false) w := by
  go_simp
attribute [local go_sem ↓] eqBlk
def AnyBool (w : World) (e : Ending) (w' : World) : Prop := ∃ g, e = .returned (.bool g) ∧ Below w.heap.size w w'
/-- it says true -/
def Says (w : World) (e : Ending) (w' : World) : Prop := e = .returned (.bool true) ∧ Below w.heap.size w w'
set_option maxHeartbeats 1000000 in
theorem rbcheck_any (x : Blk) (w : World) (hx : x.data.length ≤ 9223372036854775807) :
    Calls Tryd.prog 61 #[.agg #[.int .i64 x.kind, .int .i64 x.flags, .string (B x.data)]] w fun e w' => e = .returned (.int .i64 (blkE x)) ∧ Below w.heap.size w w' := by
  obtain ⟨E, hE⟩ : ∃ E, blkE x = E := ⟨_, rfl⟩
  have HE := Lib.hid hE
  rw [hE]
  clear hE
  go_enter Tryd.func61, Tryd.ntmps61
  go_wp2
  all_goals (go_ret; refine ⟨ret_int ?_, (by repeat' (first | (with_reducible refine bset ?_ ?_) | (with_reducible exact Below.refl _ _) | (with_reducible assumption) | (with_reducible refine bdrewN ?_ _) | (with_reducible refine bdrew ?_) | (with_reducible refine balloc0 ?_) | (with_reducible refine balloc ?_ ?_) | (with_reducible apply btrans0; rotate_left; with_reducible assumption) | (with_reducible apply btrans; rotate_left; with_reducible assumption) | exact Below.refl _ _ | assumption | (apply btrans0; rotate_left; assumption) | (apply btrans; rotate_left; assumption) | (simp; done) | omega | (simp; omega)))⟩; rw [← HE.out]; unfold blkE; (try simp only [Bool.not_eq_true', Bool.not_eq_false', decide_eq_true_eq, decide_eq_false_iff_not, beq_iff_eq, beq_eq_false_iff_ne, bne_iff_ne, bne_eq_false_iff_eq, ne_eq, Bool.and_eq_true, Bool.or_eq_true, Bool.and_eq_false_imp, Bool.or_eq_false_iff] at *); repeat' (first | omega | split))
set_option maxRecDepth 100000 in
set_option maxHeartbeats 1000000 in
theorem same_any (l : List Blk) (u v : Value) (w : World) (h : RBlks w w.heap.size u l) (k : RBlks w w.heap.size v l) :
    Calls Tryd.prog 57 #[u, v] w (Says w) := by
  obtain ⟨a, c, rfl, h1, h2, h3, h4⟩ := h
  obtain ⟨a', c', rfl, k1, k2, k3, k4⟩ := k
  unfold maxLen at h2
  have hlen : l.length ≤ 9223372036854775807 := by omega
  have H4 := Lib.hid h4
  have K4 := Lib.hid k4
  clear h3 h4 k3 k4
  go_enter Tryd.func57, Tryd.ntmps57
  go_wp2
  go_loopw [5] (fun i wr => ∃ k : Nat, k ≤ l.length ∧ i = .int .i64 k ∧ Below w.heap.size w wr) (fun i _ => l.length - (intOf i).toNat)
  case atStart => exact ⟨0, Nat.zero_le _, rfl, Below.refl _ _⟩
  case round =>
    obtain ⟨k, hk, rfl, hB⟩ := hrel
    by_cases hlt : k < l.length
    · obtain ⟨b, o, rfl, hbn, hcell⟩ := H4.out (by omega)
      obtain ⟨b', o', rfl, hbn', hcell'⟩ := K4.out (by omega)
      obtain ⟨x, hx⟩ : ∃ x, l[k]? = some x := ⟨_, List.getElem?_eq_getElem hlt⟩
      obtain ⟨c1, c2, c3⟩ := (hcell k x hx).keep (fun o => hB.cell (p := ⟨b, o, none⟩) hbn)
      obtain ⟨d1, d2, d3⟩ := (hcell' k x hx).keep (fun o => hB.cell (p := ⟨b', o, none⟩) hbn')
      have k0 : (0 : Int) ≤ (k : Int) := by omega
      have k1' : (k : Int) < (l.length : Int) := by omega
      clear hcell hcell' hx
      go_wp2
      go_quiet (fail)
      go_wp2
      go_roundw
      case rel => exact ⟨k + 1, by omega, by go_num, (by repeat' (first | (with_reducible refine bset ?_ ?_) | (with_reducible exact Below.refl _ _) | (with_reducible assumption) | (with_reducible refine bdrewN ?_ _) | (with_reducible refine bdrew ?_) | (with_reducible refine balloc0 ?_) | (with_reducible refine balloc ?_ ?_) | (with_reducible apply btrans0; rotate_left; with_reducible assumption) | (with_reducible apply btrans; rotate_left; with_reducible assumption) | exact Below.refl _ _ | assumption | (apply btrans0; rotate_left; assumption) | (apply btrans; rotate_left; assumption) | (simp; done) | omega | (simp; omega)))⟩
      case measure => simp [intOf]; omega
    · obtain rfl : k = l.length := by omega
      go_wp2
      go_ret
      exact ⟨rfl, hB⟩
set_option maxRecDepth 100000 in
set_option maxHeartbeats 1000000 in
theorem great_any (l : List Blk) (u : Value) (w : World) (h : RBlks w w.heap.size u l) (hd : ∀ x ∈ l, x.data.length ≤ maxLen) :
    Calls Tryd.prog 31 #[u] w (AnyBool w) := by
  obtain ⟨a, c, rfl, h1, h2, h3, h4⟩ := h
  have HFd := Lib.hid hd
  unfold maxLen at h2
  have hlen : l.length ≤ 9223372036854775807 := by omega
  have H4 := Lib.hid h4
  clear h3 h4 hd
  go_enter Tryd.func31, Tryd.ntmps31
  go_wp2
  all_goals first
    | (go_ret; exact ⟨true, rfl, (by repeat' (first | (with_reducible refine bset ?_ ?_) | (with_reducible exact Below.refl _ _) | (with_reducible assumption) | (with_reducible refine bdrewN ?_ _) | (with_reducible refine bdrew ?_) | (with_reducible refine balloc0 ?_) | (with_reducible refine balloc ?_ ?_) | (with_reducible apply btrans0; rotate_left; with_reducible assumption) | (with_reducible apply btrans; rotate_left; with_reducible assumption) | exact Below.refl _ _ | assumption | (apply btrans0; rotate_left; assumption) | (apply btrans; rotate_left; assumption) | (simp; done) | omega | (simp; omega)))⟩)
    | skip
  all_goals
    go_loop [3] (fun i => ∃ k : Nat, k ≤ l.length ∧ i = .int .i64 k) (fun i => l.length - (intOf i).toNat)
    case atStart => exact ⟨0, Nat.zero_le _, rfl⟩
    case round =>
      obtain ⟨k, hk, rfl⟩ := hrel
      by_cases hlt : k < l.length
      · obtain ⟨bb, o, rfl, hbn, hcell⟩ := H4.out (by omega)
        obtain ⟨x, hx⟩ : ∃ x, l[k]? = some x := ⟨_, List.getElem?_eq_getElem hlt⟩
        obtain ⟨c1, c2, c3⟩ := hcell k x hx
        have hxd := HFd.out x (List.mem_of_getElem? hx)
        unfold maxLen at hxd
        have k1' : (k : Int) < (l.length : Int) := by omega
        clear hcell hx c1 c2
        go_wp2
        all_goals first
          | (go_ret; exact ⟨true, rfl, (by repeat' (first | (with_reducible refine bset ?_ ?_) | (with_reducible exact Below.refl _ _) | (with_reducible assumption) | (with_reducible refine bdrewN ?_ _) | (with_reducible refine bdrew ?_) | (with_reducible refine balloc0 ?_) | (with_reducible refine balloc ?_ ?_) | (with_reducible apply btrans0; rotate_left; with_reducible assumption) | (with_reducible apply btrans; rotate_left; with_reducible assumption) | exact Below.refl _ _ | assumption | (apply btrans0; rotate_left; assumption) | (apply btrans; rotate_left; assumption) | (simp; done) | omega | (simp; omega)))⟩)
          | (go_round
             case rel => exact ⟨k + 1, by omega, by go_num⟩
             case measure => simp [intOf]; omega)
      · obtain rfl : k = l.length := by omega
        go_wp2
        go_ret
        exact ⟨false, rfl, (by repeat' (first | (with_reducible refine bset ?_ ?_) | (with_reducible exact Below.refl _ _) | (with_reducible assumption) | (with_reducible refine bdrewN ?_ _) | (with_reducible refine bdrew ?_) | (with_reducible refine balloc0 ?_) | (with_reducible refine balloc ?_ ?_) | (with_reducible apply btrans0; rotate_left; with_reducible assumption) | (with_reducible apply btrans; rotate_left; with_reducible assumption) | exact Below.refl _ _ | assumption | (apply btrans0; rotate_left; assumption) | (apply btrans; rotate_left; assumption) | (simp; done) | omega | (simp; omega)))⟩
end Go.Proofs.YtcmkpnjbnjbegaaDoor
