/- Joined by port.py: XEc XEd XEh XEe XEf XEm XEq -/
import Derived.Test.YtpkklmkeflddkaaGreatJb
import Derived.Test.YtpkklmkeflddkaaGreatJa
import Derived.Test.YtpkklmkeflddkaaGreatProg
import Derived.Test.YtpkklmkeflddkaaGreatJg
import Derived.WalkSpells
import Derived.Lib.SliceRun
import Derived.Laws.EntriesVeiled
import Derived.Test.YtpkklmkeflddkaaGreatJd
import Derived.Test.YtpkklmkeflddkaaGreatJe
set_option linter.unusedVariables false
set_option linter.unusedSimpArgs false
/-! XEc -/
namespace Go.Proofs.YtpkklmkeflddkaaGreat
open Go Go.RowKit
attribute [local go_sem] B_getElem B_size B_app B_extract B_get B_toList
theorem infoBlk : (Tryz.prog.info? 61).map (fun i => (i.zero, i.size, i.bytes)) = some (some (.agg #[.int .i64 0, .int .i64 0, .string (B [])]), 3, 32) := by kernel_rfl
/-- a function value with its variables says of a block whether it has a property -/
def PredAt (f : FuncId) (caps : Array Value) (Pd : Blk → Bool) (w : World) (l : List Blk) : Prop := (∀ args W, (callFunc f args).run Tryz.prog W = .ok (.enter f args) W) ∧
  ∀ (x : Blk) (W : World), x ∈ l → Below w.heap.size w W → Calls Tryz.prog f (#[.agg #[.int .i64 x.kind, .int .i64 x.flags, .string (B x.data)]] ++ caps) W fun e W' => e = .returned (.bool (Pd x)) ∧ Below W.heap.size W W'
theorem PredAt.below {f : FuncId} {caps : Array Value} {Pd : Blk → Bool} {w w' : World} {l : List Blk} (h : PredAt f caps Pd w l) (k : Below w.heap.size w w') : PredAt f caps Pd w' l := ⟨h.1, fun x W hx hW => h.2 x W hx (btrans0 k hW)⟩
def IdxPost (Pd : Blk → Bool) (l : List Blk) (w : World) (e : Ending) (w' : World) : Prop := Below w.heap.size w w' ∧
  ((e = .returned (.int .i64 (-1)) ∧ ∀ x ∈ l, Pd x = false) ∨ ∃ k : Nat, e = .returned (.int .i64 k) ∧ k < l.length ∧ (∀ x ∈ l.take k, Pd x = false) ∧ ∀ x, l[k]? = some x → Pd x = true)
/-- a fresh list of blocks comes back -/
def BlksPost (l : List Blk) (w : World) (e : Ending) (w' : World) : Prop := ∃ v, e = .returned v ∧ RBlks w' w'.heap.size v l ∧ Below w.heap.size w w' ∧ w'.ownsRow w.heap.size 61 3 v l.length (l.flatMap blkC)
end Go.Proofs.YtpkklmkeflddkaaGreat
/-! XEd -/
namespace Go.Proofs.YtpkklmkeflddkaaGreat
open Go Go.RowKit
attribute [local go_sem] B_getElem B_size B_app B_extract B_get B_toList
def RInts (w : World) (N : Nat) (v : Value) (l : List Int) : Prop :=
  ∃ a c, v = .slice a l.length c ∧ l.length ≤ c ∧ c ≤ maxLen ∧ (a = none → c = 0) ∧ (0 < l.length → ∃ b o, a = some ⟨b, o, none⟩ ∧ b < N ∧ ∀ (i : Nat) (x : Int), l[i]? = some x → w.cell? ⟨b, o + i, none⟩ = some (.int .i64 x))
theorem RInts.keep {w w' : World} {N M : Nat} {v : Value} {l : List Int} (h : RInts w N v l) (k : ∀ b o, b < N → w'.cell? ⟨b, o, none⟩ = w.cell? ⟨b, o, none⟩) (hM : N ≤ M) : RInts w' M v l := by
  obtain ⟨a, c, e1, e2, e3, e4, e5⟩ := h
  refine ⟨a, c, e1, e2, e3, e4, fun hp => ?_⟩
  obtain ⟨b, o, ea, hb, hi⟩ := e5 hp
  exact ⟨b, o, ea, by omega, fun i x hx => (k _ _ hb).trans (hi i x hx)⟩
theorem RInts.below {w w' : World} {N C M : Nat} {v : Value} {l : List Int} (h : RInts w N v l) (k : Below C w w') (hC : N ≤ C) (hM : N ≤ M) : RInts w' M v l :=
  h.keep (fun b o hb => k.cell (p := ⟨b, o, none⟩) (by show b < C; omega)) hM
end Go.Proofs.YtpkklmkeflddkaaGreat
/-! XEh -/
namespace Go.Proofs.YtpkklmkeflddkaaGreat
open Go Go.RowKit
theorem infoInt : (Tryz.prog.info? 3).map (fun i => (i.zero, i.size, i.bytes)) = some (some (.int .i64 0), 1, 8) := by kernel_rfl
def ints (l : List Int) : List Value := l.map fun x => .int .i64 x
theorem RInts.of_own {w : World} {base n : Nat} {e : TypeId} {v : Value} {l : List Int} (h : w.ownsRow base e 1 v n (ints l)) : RInts w w.heap.size v l := by
  have hl : n = l.length := by have := h.1; simp [ints] at this; omega
  subst hl
  have hh := h
  rcases h.2 with ⟨rfl, hz⟩ | ⟨g, cap, cur, rfl, hb, hg, hn, hm, hs, ht⟩
  · have : l = [] := List.eq_nil_of_length_eq_zero hz
    subst this
    exact ⟨none, 0, rfl, Nat.le_refl _, by simp, fun _ => rfl, fun h => by simp at h⟩
  · have hlt : g < w.heap.size := by
      rcases Nat.lt_or_ge g w.heap.size with h | h
      · exact h
      · rw [Array.getElem?_eq_none h] at hg; cases hg
    refine ⟨_, _, rfl, hn, hm, (fun h => by cases h), fun _ => ⟨g, 0, rfl, hlt, fun i x hx => ?_⟩⟩
    have := own_get hh rfl (j := i) (u := .int .i64 x) (by simp [ints, hx])
    rwa [addN] at this
end Go.Proofs.YtpkklmkeflddkaaGreat
/-! XEe -/
namespace Go.Proofs.YtpkklmkeflddkaaGreat
open Go Go.RowKit
attribute [local go_sem] B_getElem B_size B_app B_extract B_get B_toList
theorem caE_zero : ∀ {l : List Blk} {p : Option Int}, caE p l = 0 → ∀ x ∈ l, blkE x = 0
  | [], _, _, _, h => by simp at h
  | y :: l, p, h, x, hx => by
    rw [caE] at h
    split at h
    · exact absurd h ‹_›
    · split at h
      · cases h
      · rcases List.mem_cons.1 hx with rfl | hx
        · rename_i h1 _; exact Decidable.not_not.1 h1
        · exact caE_zero h x hx
theorem chkAll_zero {l : List Blk} (h : chkAll l = 0) : l.length ≤ 8 ∧ ∀ x ∈ l, blkE x = 0 := by
  unfold chkAll at h
  split at h
  · cases h
  · exact ⟨by omega, caE_zero h⟩
theorem chkAll_flags {l : List Blk} (h : chkAll l = 0) : ∀ x ∈ l, 0 ≤ x.flags ∧ x.flags ≤ 15 := fun x hx => by
  obtain ⟨_, _, h3, h4, _⟩ := blkE_zero ((chkAll_zero h).2 x hx)
  exact ⟨h3, h4⟩
end Go.Proofs.YtpkklmkeflddkaaGreat
/-! XEf -/
namespace Go.Proofs.YtpkklmkeflddkaaGreat
open Go Go.RowKit
attribute [local go_sem] B_getElem B_size B_app B_extract B_get B_toList
theorem eqBlk (k f : Int) (d : List UInt8) (w : World) : Sem.run Tryz.prog (Go.binOp .neq 61 (.agg #[.int .i64 k, .int .i64 f, .string (B d)]) (.agg #[.int .i64 k, .int .i64 f, .string (B d)])) w = .ok (.bool false) w := by
  go_simp
attribute [local go_sem ↓] eqBlk
def AnyBool (w : World) (e : Ending) (w' : World) : Prop := ∃ g, e = .returned (.bool g) ∧ Below w.heap.size w w'
/-- it says true -/
def Says (w : World) (e : Ending) (w' : World) : Prop := e = .returned (.bool true) ∧ Below w.heap.size w w'
set_option maxHeartbeats 1000000 in
theorem rbcheck_any (x : Blk) (w : World) (hx : x.data.length ≤ 9223372036854775807) :
    Calls Tryz.prog 74 #[.agg #[.int .i64 x.kind, .int .i64 x.flags, .string (B x.data)]] w fun e w' => e = .returned (.int .i64 (blkE x)) ∧ Below w.heap.size w w' := by
  obtain ⟨E, hE⟩ : ∃ E, blkE x = E := ⟨_, rfl⟩
  have HE := Lib.hid hE
  rw [hE]
  clear hE
  go_enter Tryz.func74, Tryz.ntmps74
  go_wp2
  all_goals (go_ret; refine ⟨ret_int ?_, (by repeat' (first | with_reducible (first | refine bset ?_ ?_ | exact Below.refl _ _ | assumption | refine bdrewN ?_ _ | refine bdrew ?_ | refine balloc0 ?_ | refine balloc ?_ ?_ | (apply btrans0; rotate_left; assumption) | (apply btrans; rotate_left; assumption)) | exact Below.refl _ _ | assumption | (apply btrans0; rotate_left; assumption) | (apply btrans; rotate_left; assumption) | (simp; done) | omega | (simp; omega)))⟩; rw [← HE.out]; unfold blkE; (try simp only [Bool.not_eq_true', Bool.not_eq_false', decide_eq_true_eq, decide_eq_false_iff_not, beq_iff_eq, beq_eq_false_iff_ne, bne_iff_ne, bne_eq_false_iff_eq, ne_eq, Bool.and_eq_true, Bool.or_eq_true, Bool.and_eq_false_imp, Bool.or_eq_false_iff] at *); repeat' (first | omega | split))
set_option maxRecDepth 100000 in
set_option maxHeartbeats 1000000 in
theorem checkAll_any (l : List Blk) (u : Value) (w : World) (h : RBlks w w.heap.size u l) (hd : ∀ x ∈ l, x.data.length ≤ maxLen) :
    Calls Tryz.prog 80 #[u] w fun e w' => e = .returned (.int .i64 (chkAll l)) ∧ Below w.heap.size w w' := by
  obtain ⟨a, c, rfl, h1, h2, h3, h4⟩ := h
  unfold maxLen at h2 hd
  have hlen : l.length ≤ 9223372036854775807 := by omega
  have H4 := Lib.hid h4
  have HD := Lib.hid hd
  clear h3 h4 hd
  by_cases h8 : 8 < l.length
  · have e1 : chkAll l = 4 := by unfold chkAll; rw [if_pos h8]
    have h8' : (8 : Int) < (l.length : Int) := by omega
    rw [e1]
    clear e1
    go_enter Tryz.func80, Tryz.ntmps80
    go_wp2
    go_ret
    exact ⟨rfl, (by repeat' (first | with_reducible (first | refine bset ?_ ?_ | exact Below.refl _ _ | assumption | refine bdrewN ?_ _ | refine bdrew ?_ | refine balloc0 ?_ | refine balloc ?_ ?_ | (apply btrans0; rotate_left; assumption) | (apply btrans; rotate_left; assumption)) | exact Below.refl _ _ | assumption | (apply btrans0; rotate_left; assumption) | (apply btrans; rotate_left; assumption) | (simp; done) | omega | (simp; omega)))⟩
  have h8' : ¬ (8 : Int) < (l.length : Int) := by omega
  obtain ⟨E, hE⟩ : ∃ E, chkAll l = E := ⟨_, rfl⟩
  have HC : Hid (caE none l = E) := Lib.hid (by rw [← hE]; unfold chkAll; rw [if_neg h8])
  rw [hE]
  clear hE
  go_enter Tryz.func80, Tryz.ntmps80
  go_wp2
  go_loopw [3] (fun i wr => ∃ (k : Nat), k ≤ l.length ∧ i = .int .i64 k ∧ Hid (caE (pv l k) (l.drop k) = E) ∧ Below w.heap.size w wr) (fun i _ => l.length - (intOf i).toNat)
  case atStart => exact ⟨0, Nat.zero_le _, rfl, HC, Below.refl _ _⟩
  case round =>
    obtain ⟨k, hk, rfl, HK, hB⟩ := hrel
    by_cases hlt : k < l.length
    · obtain ⟨bb, o, rfl, hbn, hcell⟩ := H4.out (by omega)
      obtain ⟨x, hx⟩ : ∃ x, l[k]? = some x := ⟨_, List.getElem?_eq_getElem hlt⟩
      have hxd := HD.out x (List.mem_of_getElem? hx)
      obtain ⟨c1, c2, c3⟩ := (hcell k x hx).keep (fun o => hB.cell (p := ⟨bb, o, none⟩) hbn)
      have hbr : bb < wr.heap.size := by have := hB.size; omega
      have k0 : (0 : Int) ≤ (k : Int) := by omega
      have k1 : (k : Int) < (l.length : Int) := by omega
      have hdrop : l.drop k = x :: l.drop (k + 1) := by
        rw [List.drop_eq_getElem_cons hlt]
        rw [List.getElem?_eq_getElem hlt] at hx
        injection hx with hx
        rw [hx]
      have HPV : Hid (pv l (k + 1) = some x.kind) := Lib.hid (by simp [pv, hx])
      have hK := HK.out
      rw [hdrop, caE] at hK
      by_cases hE : blkE x = 0
      case neg =>
        rw [if_pos hE] at hK
        have hE2 : (E == 0) = false := beq_eq_false_iff_ne.2 (by rw [← hK]; exact hE)
        have HK2 := Lib.hid hK
        clear hcell hx hK hE hdrop
        go_wp2_with fail
        refine (rbcheck_any x _ hxd).mono ?_
        rw [HK2.out]
        rintro e w5 ⟨rfl, hb5⟩
        go_wp2
        go_ret
        exact ⟨rfl, (by repeat' (first | with_reducible (first | refine bset ?_ ?_ | exact Below.refl _ _ | assumption | refine bdrewN ?_ _ | refine bdrew ?_ | refine balloc0 ?_ | refine balloc ?_ ?_ | (apply btrans0; rotate_left; assumption) | (apply btrans; rotate_left; assumption)) | exact Below.refl _ _ | assumption | (apply btrans0; rotate_left; assumption) | (apply btrans; rotate_left; assumption) | (simp; done) | omega | (simp; omega)))⟩
      rw [if_neg (by simp [hE])] at hK
      have HEx := Lib.hid hE
      clear hE hdrop
      by_cases hkz : k = 0
      · have hkn : decide ((0 : Int) < (k : Int)) = false := decide_eq_false (by omega)
        have hkn2 : decide (0 < k) = false := decide_eq_false (by omega)
        have HK2 : Hid (caE (some x.kind) (l.drop (k + 1)) = E) := Lib.hid (by rw [if_neg (by subst hkz; simp [pv])] at hK; exact hK)
        clear hcell hx hK hkz
        go_wp2_with fail
        refine (rbcheck_any x _ hxd).mono ?_
        rw [HEx.out]
        rintro e w5 ⟨rfl, hb5⟩
        have hB5 : Below w.heap.size w w5 := (by repeat' (first | with_reducible (first | refine bset ?_ ?_ | exact Below.refl _ _ | assumption | refine bdrewN ?_ _ | refine bdrew ?_ | refine balloc0 ?_ | refine balloc ?_ ?_ | (apply btrans0; rotate_left; assumption) | (apply btrans; rotate_left; assumption)) | exact Below.refl _ _ | assumption | (apply btrans0; rotate_left; assumption) | (apply btrans; rotate_left; assumption) | (simp; done) | omega | (simp; omega)))
        clear hb5 c1 c2 c3
        go_wp2
        refine wp_region_plan (fun V => True) [0, 0, 0, 0, 0, 0, 0, 1, 0, 0, 0, 0, 0, 1, 0, 0] [0, 1, 2, 3, 4, 5, 6, 7, 8, 9, 10, 11, 12, 13, 14, 15] (by kernel_rfl) (by kernel_rfl) ?_ ?_
        case refine_1 => exact trivial
        (iterate 3 (refine plan_held rfl (by decide) (by rfl) (fun w1 hS => by (try (have hS := hS rfl; obtain hS := hS; repeat (obtain ⟨_, hS⟩ := hS))); go_simp; rfl) ?_; simp only [Act.put, List.setIfInBounds_toArray, List.set_cons_zero, List.set_cons_succ]))
        iterate 12 (refine plan_skip rfl (by decide) (by rfl) ?_; simp only [Act.put, List.setIfInBounds_toArray, List.set_cons_zero, List.set_cons_succ])
        (iterate 1 (refine plan_held rfl (by decide) (by rfl) (fun w1 hS => by (try (have hS := hS rfl; obtain hS := hS; repeat (obtain ⟨_, hS⟩ := hS))); go_simp; rfl) ?_; simp only [Act.put, List.setIfInBounds_toArray, List.set_cons_zero, List.set_cons_succ]))
        refine plan_done ?_
        go_wp2
        go_roundw
        case rel => exact ⟨k + 1, by omega, by go_num, by rw [HPV.out]; exact HK2, (by repeat' (first | with_reducible (first | refine bset ?_ ?_ | exact Below.refl _ _ | assumption | refine bdrewN ?_ _ | refine bdrew ?_ | refine balloc0 ?_ | refine balloc ?_ ?_ | (apply btrans0; rotate_left; assumption) | (apply btrans; rotate_left; assumption)) | exact Below.refl _ _ | assumption | (apply btrans0; rotate_left; assumption) | (apply btrans; rotate_left; assumption) | (simp; done) | omega | (simp; omega)))⟩
        case measure => simp [intOf]; omega
      · obtain ⟨j, hj⟩ : ∃ j, k = j + 1 := ⟨k - 1, by omega⟩
        have hkp : decide ((0 : Int) < (k : Int)) = true := decide_eq_true (by omega)
        have hkp2 : decide (0 < k) = true := decide_eq_true (by omega)
        obtain ⟨z, hz⟩ : ∃ z, l[j]? = some z := ⟨_, List.getElem?_eq_getElem (by omega)⟩
        obtain ⟨d1, _, _⟩ := (hcell j z hz).keep (fun o => hB.cell (p := ⟨bb, o, none⟩) hbn)
        have hwj : IntKind.i64.wrap ((k : Int) - 1) = (j : Int) := by rw [IntKind.wrap_i64]; omega
        have hj0 : (0 : Int) ≤ (j : Int) := by omega
        have hj1 : (j : Int) < (l.length : Int) := by omega
        have hpk : pv l k = some z.kind := by rw [hj]; simp [pv, hz]
        rw [hpk] at hK
        by_cases hle : x.kind ≤ z.kind
        · have hE9 : E = 9 := by rw [if_pos ⟨_, rfl, hle⟩] at hK; exact hK.symm
          have hle2 : decide (x.kind ≤ z.kind) = true := decide_eq_true hle
          subst hE9
          clear hcell hx hK hkz hj hz hpk
          go_wp2_with fail
          refine (rbcheck_any x _ hxd).mono ?_
          rw [HEx.out]
          rintro e w5 ⟨rfl, hb5⟩
          have hB5 : Below w.heap.size w w5 := (by repeat' (first | with_reducible (first | refine bset ?_ ?_ | exact Below.refl _ _ | assumption | refine bdrewN ?_ _ | refine bdrew ?_ | refine balloc0 ?_ | refine balloc ?_ ?_ | (apply btrans0; rotate_left; assumption) | (apply btrans; rotate_left; assumption)) | exact Below.refl _ _ | assumption | (apply btrans0; rotate_left; assumption) | (apply btrans; rotate_left; assumption) | (simp; done) | omega | (simp; omega)))
          have dj : w5.cell? ⟨bb, o + j * 3, none⟩ = some (.int .i64 z.kind) := (hb5.cell (p := ⟨bb, _, none⟩) hbr).trans d1
          have cx : w5.cell? ⟨bb, o + k * 3, none⟩ = some (.int .i64 x.kind) := (hb5.cell (p := ⟨bb, _, none⟩) hbr).trans c1
          clear hb5 c1 c2 c3 d1
          go_wp2
          refine wp_region_plan (fun V => V.cell? ⟨bb, o + k * 3, none⟩ = some (.int .i64 x.kind) ∧ V.cell? ⟨bb, o + j * 3, none⟩ = some (.int .i64 z.kind)) [0, 0, 0, 0, 0, 0, 0, 1, 0, 0, 0, 0, 0, 1, 0, 0] [0, 1, 2, 3, 4, 5, 6, 7, 8, 9, 10, 11, 12, 13, 14, 15] (by kernel_rfl) (by kernel_rfl) ?_ ?_
          case refine_1 => exact ⟨cx, dj⟩
          (iterate 16 (refine plan_held rfl (by decide) (by rfl) (fun w1 hS => by (try (have hS := hS rfl; obtain hS := hS; repeat (obtain ⟨_, hS⟩ := hS))); go_simp; rfl) ?_; simp only [Act.put, List.setIfInBounds_toArray, List.set_cons_zero, List.set_cons_succ]))
          refine plan_done ?_
          go_wp2
          go_ret
          exact ⟨rfl, (by repeat' (first | with_reducible (first | refine bset ?_ ?_ | exact Below.refl _ _ | assumption | refine bdrewN ?_ _ | refine bdrew ?_ | refine balloc0 ?_ | refine balloc ?_ ?_ | (apply btrans0; rotate_left; assumption) | (apply btrans; rotate_left; assumption)) | exact Below.refl _ _ | assumption | (apply btrans0; rotate_left; assumption) | (apply btrans; rotate_left; assumption) | (simp; done) | omega | (simp; omega)))⟩
        · have HK2 : Hid (caE (some x.kind) (l.drop (k + 1)) = E) := Lib.hid (by rw [if_neg (by rintro ⟨q, hq, hq2⟩; injection hq with hq; omega)] at hK; exact hK)
          have hle2 : decide (x.kind ≤ z.kind) = false := decide_eq_false hle
          clear hcell hx hK hkz hj hz hpk
          go_wp2_with fail
          refine (rbcheck_any x _ hxd).mono ?_
          rw [HEx.out]
          rintro e w5 ⟨rfl, hb5⟩
          have hB5 : Below w.heap.size w w5 := (by repeat' (first | with_reducible (first | refine bset ?_ ?_ | exact Below.refl _ _ | assumption | refine bdrewN ?_ _ | refine bdrew ?_ | refine balloc0 ?_ | refine balloc ?_ ?_ | (apply btrans0; rotate_left; assumption) | (apply btrans; rotate_left; assumption)) | exact Below.refl _ _ | assumption | (apply btrans0; rotate_left; assumption) | (apply btrans; rotate_left; assumption) | (simp; done) | omega | (simp; omega)))
          have dj : w5.cell? ⟨bb, o + j * 3, none⟩ = some (.int .i64 z.kind) := (hb5.cell (p := ⟨bb, _, none⟩) hbr).trans d1
          have cx : w5.cell? ⟨bb, o + k * 3, none⟩ = some (.int .i64 x.kind) := (hb5.cell (p := ⟨bb, _, none⟩) hbr).trans c1
          clear hb5 c1 c2 c3 d1
          go_wp2
          refine wp_region_plan (fun V => V.cell? ⟨bb, o + k * 3, none⟩ = some (.int .i64 x.kind) ∧ V.cell? ⟨bb, o + j * 3, none⟩ = some (.int .i64 z.kind)) [0, 0, 0, 0, 0, 0, 0, 1, 0, 0, 0, 0, 0, 1, 0, 0] [0, 1, 2, 3, 4, 5, 6, 7, 8, 9, 10, 11, 12, 13, 14, 15] (by kernel_rfl) (by kernel_rfl) ?_ ?_
          case refine_1 => exact ⟨cx, dj⟩
          (iterate 16 (refine plan_held rfl (by decide) (by rfl) (fun w1 hS => by (try (have hS := hS rfl; obtain hS := hS; repeat (obtain ⟨_, hS⟩ := hS))); go_simp; rfl) ?_; simp only [Act.put, List.setIfInBounds_toArray, List.set_cons_zero, List.set_cons_succ]))
          refine plan_done ?_
          go_wp2
          go_roundw
          case rel => exact ⟨k + 1, by omega, by go_num, by rw [HPV.out]; exact HK2, (by repeat' (first | with_reducible (first | refine bset ?_ ?_ | exact Below.refl _ _ | assumption | refine bdrewN ?_ _ | refine bdrew ?_ | refine balloc0 ?_ | refine balloc ?_ ?_ | (apply btrans0; rotate_left; assumption) | (apply btrans; rotate_left; assumption)) | exact Below.refl _ _ | assumption | (apply btrans0; rotate_left; assumption) | (apply btrans; rotate_left; assumption) | (simp; done) | omega | (simp; omega)))⟩
          case measure => simp [intOf]; omega
    · obtain rfl : k = l.length := by omega
      have hE0 : E = 0 := by have := HK.out; rw [List.drop_length, caE] at this; exact this.symm
      subst hE0
      go_wp2
      go_ret
      exact ⟨rfl, hB⟩
end Go.Proofs.YtpkklmkeflddkaaGreat
/-! XEm -/
namespace Go.Proofs.YtpkklmkeflddkaaGreat
open Go Go.RowKit
attribute [local go_sem] B_getElem B_size B_app B_extract B_get B_toList
def zBlk : Blk := ⟨0, 0, []⟩
def findS (l : List Blk) (k : Int) : Blk × Bool := match l.find? (fun x => x.kind == k) with | some x => (x, true) | none => (zBlk, false)
theorem findS_none {l : List Blk} {k : Int} (h : ∀ x ∈ l, (x.kind == k) = false) : findS l k = (zBlk, false) := by
  unfold findS
  rw [List.find?_eq_none.2 (fun x hx => by simp only [h x hx]; simp)]
theorem findS_some {l : List Blk} {k : Int} {q : Nat} {x : Blk} (hx : l[q]? = some x) (h : ∀ y ∈ l.take q, (y.kind == k) = false) (h2 : (x.kind == k) = true) : findS l k = (x, true) := by
  unfold findS
  have hq : q < l.length := (List.getElem?_eq_some_iff.1 hx).1
  have hsp : l = l.take q ++ x :: l.drop (q + 1) := by
    rw [List.getElem?_eq_getElem hq] at hx
    injection hx with hx
    rw [← hx, List.getElem_cons_drop, List.take_append_drop]
  rw [hsp, List.find?_append, List.find?_eq_none.2 (fun y hy => by simp only [h y hy]; simp), List.find?_cons_of_pos (p := fun x : Blk => x.kind == k) h2]
  rfl
end Go.Proofs.YtpkklmkeflddkaaGreat
/-! XEq -/
namespace Go.Proofs.YtpkklmkeflddkaaGreat
open Go Go.RowKit
attribute [local go_sem] B_getElem B_size B_app B_extract B_get B_toList
theorem RBlks.lit0 (w : World) (N : Nat) (a : Addr) : RBlks w N (.slice (some a) 0 0) [] := ⟨some a, 0, rfl, Nat.le_refl _, by simp [maxLen], (fun h => by cases h), fun h => by simp at h⟩
theorem any_snoc {P : Blk → Bool} {l : List Blk} {k : Nat} {x : Blk} (hx : l[k]? = some x) : (l.take (k + 1)).any P = ((l.take k).any P || P x) := by rw [List.take_add_one, hx]; simp
end Go.Proofs.YtpkklmkeflddkaaGreat
