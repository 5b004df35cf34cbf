/-
  Proved: mailboatlaw12.BlockBack returns true for every input, and leaves its arguments as they were. No condition.
-/
import Derived.Test.YtdnbegcebloodaaRows
import Derived.Test.YtdnbegcebloodaaGj
import Derived.Test.YtdnbegcebloodaaEg
import Derived.Test.YtdnbegcebloodaaGm
import Derived.Test.YtdnbegcebloodaaPe
import Derived.Test.YtdnbegcebloodaaDp
import Derived.Test.YtdnbegcebloodaaR
import Derived.Test.YtdnbegcebloodaaL
set_option linter.unusedVariables false
set_option linter.unusedSimpArgs false
namespace Go.Proofs.Ytdnbegcebloodaa.blockBack
open Go Go.ChangeShapes Go.WideShapes Go.ChangeAt Go.RowKit Go.Joins Go.Proofs.Ytdnbegcebloodaa
attribute [local go_sem] B_getElem B_size B_app B_extract B_get B_toList
attribute [local go_sem ↓] eqBlk

theorem own : ownKnob Try.prog.godebug = none := by kernel_rfl

attribute [local go_sem ↓] eqBlk
theorem encA_len {l : List Blk} (h : chkAll l = 0) : (encA l).length ≤ 10000 := by
  obtain ⟨h8, hb⟩ := chkAll_zero h
  have hf : ∀ (m : List Blk), (∀ x ∈ m, blkE x = 0) → (m.flatMap encB).length ≤ 1100 * m.length := by
    intro m
    induction m with
    | nil => intro _; simp
    | cons x m ih =>
      intro hm
      have h1 := ih fun y hy => hm y (List.mem_cons_of_mem _ hy)
      have h2 := encB_len x (blkE_zero (hm x (List.mem_cons_self ..))).2.2.2.2
      rw [List.flatMap_cons, List.length_append, List.length_cons]
      omega
  have h1 := hf l hb
  have h2 := intE_len l.length
  unfold encA
  rw [List.length_append]
  omega
set_option maxRecDepth 100000 in
set_option maxHeartbeats 4000000 in
theorem walk (l : List Blk) (u : Value) (s : List UInt8) (w : World) (hr : RBlks w w.heap.size u l) (hd : ∀ x ∈ l, x.data.length ≤ maxLen) (hs : s.length ≤ maxLen) :
    Calls Try.prog 10 #[u, .string (B s)] w (Says w) := by
  obtain ⟨ua, uc, rfl, hu1, hu2, _, hu4⟩ := id hr
  unfold maxLen at hu2
  have hlen : l.length ≤ 9223372036854775807 := by omega
  have HR := Lib.hid hr
  have HD := Lib.hid hd
  have HS := Lib.hid hs
  have H4 := Lib.hid hu4
  clear hr hd hs hu4
  go_enter Try.func10, Try.ntmps10
  go_wp2_with fail
  refine (lawGreat_s l _ s _ HR.out HD.out HS.out).mono ?_
  rintro e w1 ⟨g, rfl, hg, hb1⟩
  have z1 : w.heap.size ≤ w1.heap.size := hb1.size
  cases g
  case true =>
    go_wp2_with fail
    refine (awake_any _).mono ?_
    rintro e w9 ⟨rfl, hb9⟩
    go_wp2
    go_ret
    exact ⟨rfl, (by repeat' (first | (with_reducible refine bset ?_ ?_) | (with_reducible exact Below.refl _ _) | (with_reducible assumption) | (with_reducible refine bdrewN ?_ _) | (with_reducible refine bdrew ?_) | (with_reducible refine balloc0 ?_) | (with_reducible refine balloc ?_ ?_) | (with_reducible apply btrans0; rotate_left; with_reducible assumption) | (with_reducible apply btrans; rotate_left; with_reducible assumption) | exact Below.refl _ _ | assumption | (apply btrans0; rotate_left; assumption) | (apply btrans; rotate_left; assumption) | (simp; done) | omega | (simp; omega)))⟩
  obtain ⟨hl10, hs15⟩ := hg rfl
  have hs9 : s.length ≤ 1000000000 := by omega
  clear hg
  go_wp2
  go_loopw [33] (fun i wr => ∃ (k : Nat), k ≤ l.length ∧ i = .int .i64 k ∧ Below w.heap.size w wr) (fun i _ => l.length - (intOf i).toNat)
  case atStart => exact ⟨0, Nat.zero_le _, rfl, hb1⟩
  case round =>
    obtain ⟨k, hk, rfl, hB⟩ := hrel
    clear hb1 z1
    by_cases hlt : k < l.length
    · obtain ⟨bb, o, rfl, hbn, hcell⟩ := H4.out (by omega)
      obtain ⟨x, hx⟩ : ∃ x, l[k]? = some x := ⟨_, List.getElem?_eq_getElem hlt⟩
      have hxd := HD.out x (List.mem_of_getElem? hx)
      unfold maxLen at hxd
      have hxl : x.data.length ≤ 9223372036854775807 := by omega
      obtain ⟨c1, c2, c3⟩ := (hcell k x hx).keep (fun o => hB.cell (p := ⟨bb, o, none⟩) hbn)
      have hbr : bb < wr.heap.size := by have := hB.size; omega
      have k0 : (0 : Int) ≤ (k : Int) := by omega
      have k1 : (k : Int) < (l.length : Int) := by omega
      obtain ⟨E, hE⟩ : ∃ E, blkE x = E := ⟨_, rfl⟩
      obtain ⟨R, hR⟩ : ∃ R, encR x = R := ⟨_, rfl⟩
      have HE := Lib.hid hE
      have HRR := Lib.hid hR
      clear hE hR hcell hx
      go_wp2_with fail
      refine (bencode_any x _ hxl).mono ?_
      rw [HE.out, HRR.out]
      rintro e w2 ⟨rfl, hb2⟩
      have z2 : wr.heap.size < w2.heap.size := by have := hb2.size; simp at this; omega
      have hB2 : Below w.heap.size w w2 := (by repeat' (first | (with_reducible refine bset ?_ ?_) | (with_reducible exact Below.refl _ _) | (with_reducible assumption) | (with_reducible refine bdrewN ?_ _) | (with_reducible refine bdrew ?_) | (with_reducible refine balloc0 ?_) | (with_reducible refine balloc ?_ ?_) | (with_reducible apply btrans0; rotate_left; with_reducible assumption) | (with_reducible apply btrans; rotate_left; with_reducible assumption) | exact Below.refl _ _ | assumption | (apply btrans0; rotate_left; assumption) | (apply btrans; rotate_left; assumption) | (simp; done) | omega | (simp; omega)))
      have X2 : w2.heap[wr.heap.size]? = some (.cells #[.int .i64 x.kind, .int .i64 x.flags, .string (B x.data)] 29 (0, 0)) := (hb2.block _ (by simp)).trans heap_new
      clear hb2 c1 c2 c3
      by_cases hz : E = 0
      case neg =>
        have hz' : (E == 0) = false := beq_eq_false_iff_ne.2 hz
        go_wp2
        go_roundw
        case rel => exact ⟨k + 1, by omega, by go_num, hB2⟩
        case measure => simp [intOf]; omega
      subst hz
      have hD : decS (R ++ s) = (x, (R.length : Int), 0) := by
        rw [← HRR.out, show encR x = encB x by unfold encR; rw [if_pos HE.out]]; exact dec_enc s HE.out
      have hRl : R.length ≤ 1100 := by
        rw [← HRR.out, show encR x = encB x by unfold encR; rw [if_pos HE.out]]
        exact encB_len x (blkE_zero HE.out).2.2.2.2
      have HDD := Lib.hid hD
      have hcat : ¬ 9223372036854775807 < R.length + s.length := by omega
      have hla : (R ++ s).length ≤ 1000000000 := by rw [List.length_append]; omega
      clear hD
      go_wp2_with fail
      refine (decode_any (R ++ s) x R.length 0 _ hla HDD.out).mono ?_
      rintro e w3 ⟨rfl, hb3⟩
      have z3 : wr.heap.size < w3.heap.size := by have := hb3.size; omega
      have hB3 : Below w.heap.size w w3 := (by repeat' (first | (with_reducible refine bset ?_ ?_) | (with_reducible exact Below.refl _ _) | (with_reducible assumption) | (with_reducible refine bdrewN ?_ _) | (with_reducible refine bdrew ?_) | (with_reducible refine balloc0 ?_) | (with_reducible refine balloc ?_ ?_) | (with_reducible apply btrans0; rotate_left; with_reducible assumption) | (with_reducible apply btrans; rotate_left; with_reducible assumption) | exact Below.refl _ _ | assumption | (apply btrans0; rotate_left; assumption) | (apply btrans; rotate_left; assumption) | (simp; done) | omega | (simp; omega)))
      have X3 := (hb3.block _ z2).trans X2
      clear hb3 X2 hB2
      have cx := fun o => cellB X3 o
      go_wp2
      go_roundw
      case rel => exact ⟨k + 1, by omega, by go_num, (by repeat' (first | (with_reducible refine bset ?_ ?_) | (with_reducible exact Below.refl _ _) | (with_reducible assumption) | (with_reducible refine bdrewN ?_ _) | (with_reducible refine bdrew ?_) | (with_reducible refine balloc0 ?_) | (with_reducible refine balloc ?_ ?_) | (with_reducible apply btrans0; rotate_left; with_reducible assumption) | (with_reducible apply btrans; rotate_left; with_reducible assumption) | exact Below.refl _ _ | assumption | (apply btrans0; rotate_left; assumption) | (apply btrans; rotate_left; assumption) | (simp; done) | omega | (simp; omega)))⟩
      case measure => simp [intOf]; omega
    · obtain rfl : k = l.length := by omega
      -- behind the loop: the list
      obtain ⟨⟨x, n, de⟩, hdx⟩ : ∃ q, decS s = q := ⟨_, rfl⟩
      have HX := Lib.hid hdx
      obtain ⟨⟨L, K, LE⟩, hdl⟩ : ∃ q, decAS s = q := ⟨_, rfl⟩
      have HL := Lib.hid hdl
      clear hdx hdl
      obtain ⟨C, hC⟩ : ∃ q, chkAll l = q := ⟨_, rfl⟩
      have HC := Lib.hid hC
      obtain ⟨R, hR⟩ : ∃ q, encAR l = q := ⟨_, rfl⟩
      have HRR := Lib.hid hR
      clear hC hR
      go_wp2_with fail
      refine (encodeAll_any l _ _ (HR.out.below hB (Nat.le_refl _) hB.size) HD.out).mono ?_
      rw [HC.out, HRR.out]
      rintro e w2 ⟨rfl, hb2⟩
      have hB4 : Below w.heap.size w w2 := (by repeat' (first | (with_reducible refine bset ?_ ?_) | (with_reducible exact Below.refl _ _) | (with_reducible assumption) | (with_reducible refine bdrewN ?_ _) | (with_reducible refine bdrew ?_) | (with_reducible refine balloc0 ?_) | (with_reducible refine balloc ?_ ?_) | (with_reducible apply btrans0; rotate_left; with_reducible assumption) | (with_reducible apply btrans; rotate_left; with_reducible assumption) | exact Below.refl _ _ | assumption | (apply btrans0; rotate_left; assumption) | (apply btrans; rotate_left; assumption) | (simp; done) | omega | (simp; omega)))
      clear hb2
      by_cases hz : C = 0
      case neg =>
        have hz' : (C == 0) = false := beq_eq_false_iff_ne.2 hz
        go_wp2_with fail
        refine (decode_any s x n de _ hs9 HX.out).mono ?_
        rintro e w5 ⟨rfl, hb5⟩
        have hB5 : Below w.heap.size w w5 := (by repeat' (first | (with_reducible refine bset ?_ ?_) | (with_reducible exact Below.refl _ _) | (with_reducible assumption) | (with_reducible refine bdrewN ?_ _) | (with_reducible refine bdrew ?_) | (with_reducible refine balloc0 ?_) | (with_reducible refine balloc ?_ ?_) | (with_reducible apply btrans0; rotate_left; with_reducible assumption) | (with_reducible apply btrans; rotate_left; with_reducible assumption) | exact Below.refl _ _ | assumption | (apply btrans0; rotate_left; assumption) | (apply btrans; rotate_left; assumption) | (simp; done) | omega | (simp; omega)))
        clear hb5 hB4
        by_cases hde : de = 0
        case neg =>
          have hde' : (de == 0) = false := beq_eq_false_iff_ne.2 hde
          go_wp2_with fail
          refine (decodeAll_any s L K LE _ hs9 HL.out).mono ?_
          rintro e w7 ⟨v7, rfl, hr7, hb7⟩
          have hB7 : Below w.heap.size w w7 := (by repeat' (first | (with_reducible refine bset ?_ ?_) | (with_reducible exact Below.refl _ _) | (with_reducible assumption) | (with_reducible refine bdrewN ?_ _) | (with_reducible refine bdrew ?_) | (with_reducible refine balloc0 ?_) | (with_reducible refine balloc ?_ ?_) | (with_reducible apply btrans0; rotate_left; with_reducible assumption) | (with_reducible apply btrans; rotate_left; with_reducible assumption) | exact Below.refl _ _ | assumption | (apply btrans0; rotate_left; assumption) | (apply btrans; rotate_left; assumption) | (simp; done) | omega | (simp; omega)))
          have P7 := Lib.hid hr7
          obtain ⟨a7, c7, rfl, _⟩ := id hr7
          clear hb7 hr7
          by_cases hle : LE = 0
          case neg =>
            have hle' : (LE == 0) = false := beq_eq_false_iff_ne.2 hle
            go_wp2_with fail
            refine (awake_any _).mono ?_
            rintro e w9 ⟨rfl, hb9⟩
            go_wp2
            go_ret
            exact ⟨rfl, (by repeat' (first | (with_reducible refine bset ?_ ?_) | (with_reducible exact Below.refl _ _) | (with_reducible assumption) | (with_reducible refine bdrewN ?_ _) | (with_reducible refine bdrew ?_) | (with_reducible refine balloc0 ?_) | (with_reducible refine balloc ?_ ?_) | (with_reducible apply btrans0; rotate_left; with_reducible assumption) | (with_reducible apply btrans; rotate_left; with_reducible assumption) | exact Below.refl _ _ | assumption | (apply btrans0; rotate_left; assumption) | (apply btrans; rotate_left; assumption) | (simp; done) | omega | (simp; omega)))⟩
          subst hle
          obtain ⟨⟨r7, hsr7⟩, hk7, hc7⟩ := enc_decA HL.out
          obtain ⟨_, hlb7⟩ := chkAll_zero hc7
          obtain ⟨E7, hE7⟩ : ∃ E, encA L = E := ⟨_, rfl⟩
          rw [hE7] at hsr7 hk7
          have HEE7 : Hid (encAR L = E7) := Lib.hid (by unfold encAR; rw [if_pos hc7, hE7])
          have HC7 := Lib.hid hc7
          have htk7 : s.take K = E7 := by rw [hsr7]; exact take_app (by omega)
          have hml7 : (K : Int) ≤ (s.length : Int) := by rw [hsr7, List.length_append]; omega
          have hml72 : decide ((s.length : Int) < (K : Int)) = false := decide_eq_false (by omega)
          have hml73 : decide (s.length < K) = false := decide_eq_false (by omega)
          have hm70 : (0 : Int) ≤ (K : Int) := by omega
          have hm71 : decide ((K : Int) < 0) = false := decide_eq_false (by omega)
          have hd7 : ∀ y ∈ L, y.data.length ≤ maxLen := fun y hy => by have := (blkE_zero (hlb7 y hy)).2.2.2.2; unfold maxLen; omega
          have HD7 := Lib.hid hd7
          clear hsr7 hk7 hc7 hE7 hlb7 hd7
          go_wp2_with fail
          refine (encodeAll_any L _ _ P7.out HD7.out).mono ?_
          rw [HEE7.out, HC7.out]
          rintro e w8 ⟨rfl, hb8⟩
          have hB8 : Below w.heap.size w w8 := (by repeat' (first | (with_reducible refine bset ?_ ?_) | (with_reducible exact Below.refl _ _) | (with_reducible assumption) | (with_reducible refine bdrewN ?_ _) | (with_reducible refine bdrew ?_) | (with_reducible refine balloc0 ?_) | (with_reducible refine balloc ?_ ?_) | (with_reducible apply btrans0; rotate_left; with_reducible assumption) | (with_reducible apply btrans; rotate_left; with_reducible assumption) | exact Below.refl _ _ | assumption | (apply btrans0; rotate_left; assumption) | (apply btrans; rotate_left; assumption) | (simp; done) | omega | (simp; omega)))
          clear hb8 P7
          go_wp2_with fail
          refine (awake_any _).mono ?_
          rintro e w9 ⟨rfl, hb9⟩
          go_wp2
          go_ret
          exact ⟨rfl, (by repeat' (first | (with_reducible refine bset ?_ ?_) | (with_reducible exact Below.refl _ _) | (with_reducible assumption) | (with_reducible refine bdrewN ?_ _) | (with_reducible refine bdrew ?_) | (with_reducible refine balloc0 ?_) | (with_reducible refine balloc ?_ ?_) | (with_reducible apply btrans0; rotate_left; with_reducible assumption) | (with_reducible apply btrans; rotate_left; with_reducible assumption) | exact Below.refl _ _ | assumption | (apply btrans0; rotate_left; assumption) | (apply btrans; rotate_left; assumption) | (simp; done) | omega | (simp; omega)))⟩
        subst hde
        obtain ⟨⟨r, hsr⟩, hn, hbx⟩ := enc_dec HX.out
        obtain ⟨E, hE⟩ : ∃ E, encB x = E := ⟨_, rfl⟩
        rw [hE] at hsr hn
        have HEE : Hid (encR x = E) := Lib.hid (by unfold encR; rw [if_pos hbx, hE])
        have HBX := Lib.hid hbx
        obtain ⟨m, hm⟩ : ∃ m, E.length = m := ⟨_, rfl⟩
        rw [hm] at hn
        subst hn
        have htk : s.take m = E := by rw [hsr]; exact take_app (by omega)
        have hml : (m : Int) ≤ (s.length : Int) := by rw [hsr, List.length_append]; omega
        have hml2 : decide ((s.length : Int) < (m : Int)) = false := decide_eq_false (by omega)
        have hml3 : decide (s.length < m) = false := decide_eq_false (by omega)
        have hm0 : (0 : Int) ≤ (m : Int) := by omega
        have hm1 : decide ((m : Int) < 0) = false := decide_eq_false (by omega)
        have hxd : x.data.length ≤ 9223372036854775807 := by have := (blkE_zero hbx).2.2.2.2; omega
        clear hsr hbx hE hm
        go_wp2_with fail
        refine (bencode_any x _ hxd).mono ?_
        rw [HEE.out, HBX.out]
        rintro e w6 ⟨rfl, hb6⟩
        have hB6 : Below w.heap.size w w6 := (by repeat' (first | (with_reducible refine bset ?_ ?_) | (with_reducible exact Below.refl _ _) | (with_reducible assumption) | (with_reducible refine bdrewN ?_ _) | (with_reducible refine bdrew ?_) | (with_reducible refine balloc0 ?_) | (with_reducible refine balloc ?_ ?_) | (with_reducible apply btrans0; rotate_left; with_reducible assumption) | (with_reducible apply btrans; rotate_left; with_reducible assumption) | exact Below.refl _ _ | assumption | (apply btrans0; rotate_left; assumption) | (apply btrans; rotate_left; assumption) | (simp; done) | omega | (simp; omega)))
        clear hb6 hB5
        go_wp2_with fail
        refine (decodeAll_any s L K LE _ hs9 HL.out).mono ?_
        rintro e w7 ⟨v7, rfl, hr7, hb7⟩
        have hB7 : Below w.heap.size w w7 := (by repeat' (first | (with_reducible refine bset ?_ ?_) | (with_reducible exact Below.refl _ _) | (with_reducible assumption) | (with_reducible refine bdrewN ?_ _) | (with_reducible refine bdrew ?_) | (with_reducible refine balloc0 ?_) | (with_reducible refine balloc ?_ ?_) | (with_reducible apply btrans0; rotate_left; with_reducible assumption) | (with_reducible apply btrans; rotate_left; with_reducible assumption) | exact Below.refl _ _ | assumption | (apply btrans0; rotate_left; assumption) | (apply btrans; rotate_left; assumption) | (simp; done) | omega | (simp; omega)))
        have P7 := Lib.hid hr7
        obtain ⟨a7, c7, rfl, _⟩ := id hr7
        clear hb7 hr7
        by_cases hle : LE = 0
        case neg =>
          have hle' : (LE == 0) = false := beq_eq_false_iff_ne.2 hle
          go_wp2_with fail
          refine (awake_any _).mono ?_
          rintro e w9 ⟨rfl, hb9⟩
          go_wp2
          go_ret
          exact ⟨rfl, (by repeat' (first | (with_reducible refine bset ?_ ?_) | (with_reducible exact Below.refl _ _) | (with_reducible assumption) | (with_reducible refine bdrewN ?_ _) | (with_reducible refine bdrew ?_) | (with_reducible refine balloc0 ?_) | (with_reducible refine balloc ?_ ?_) | (with_reducible apply btrans0; rotate_left; with_reducible assumption) | (with_reducible apply btrans; rotate_left; with_reducible assumption) | exact Below.refl _ _ | assumption | (apply btrans0; rotate_left; assumption) | (apply btrans; rotate_left; assumption) | (simp; done) | omega | (simp; omega)))⟩
        subst hle
        obtain ⟨⟨r7, hsr7⟩, hk7, hc7⟩ := enc_decA HL.out
        obtain ⟨_, hlb7⟩ := chkAll_zero hc7
        obtain ⟨E7, hE7⟩ : ∃ E, encA L = E := ⟨_, rfl⟩
        rw [hE7] at hsr7 hk7
        have HEE7 : Hid (encAR L = E7) := Lib.hid (by unfold encAR; rw [if_pos hc7, hE7])
        have HC7 := Lib.hid hc7
        have htk7 : s.take K = E7 := by rw [hsr7]; exact take_app (by omega)
        have hml7 : (K : Int) ≤ (s.length : Int) := by rw [hsr7, List.length_append]; omega
        have hml72 : decide ((s.length : Int) < (K : Int)) = false := decide_eq_false (by omega)
        have hml73 : decide (s.length < K) = false := decide_eq_false (by omega)
        have hm70 : (0 : Int) ≤ (K : Int) := by omega
        have hm71 : decide ((K : Int) < 0) = false := decide_eq_false (by omega)
        have hd7 : ∀ y ∈ L, y.data.length ≤ maxLen := fun y hy => by have := (blkE_zero (hlb7 y hy)).2.2.2.2; unfold maxLen; omega
        have HD7 := Lib.hid hd7
        clear hsr7 hk7 hc7 hE7 hlb7 hd7
        go_wp2_with fail
        refine (encodeAll_any L _ _ P7.out HD7.out).mono ?_
        rw [HEE7.out, HC7.out]
        rintro e w8 ⟨rfl, hb8⟩
        have hB8 : Below w.heap.size w w8 := (by repeat' (first | (with_reducible refine bset ?_ ?_) | (with_reducible exact Below.refl _ _) | (with_reducible assumption) | (with_reducible refine bdrewN ?_ _) | (with_reducible refine bdrew ?_) | (with_reducible refine balloc0 ?_) | (with_reducible refine balloc ?_ ?_) | (with_reducible apply btrans0; rotate_left; with_reducible assumption) | (with_reducible apply btrans; rotate_left; with_reducible assumption) | exact Below.refl _ _ | assumption | (apply btrans0; rotate_left; assumption) | (apply btrans; rotate_left; assumption) | (simp; done) | omega | (simp; omega)))
        clear hb8 P7
        go_wp2_with fail
        refine (awake_any _).mono ?_
        rintro e w9 ⟨rfl, hb9⟩
        go_wp2
        go_ret
        exact ⟨rfl, (by repeat' (first | (with_reducible refine bset ?_ ?_) | (with_reducible exact Below.refl _ _) | (with_reducible assumption) | (with_reducible refine bdrewN ?_ _) | (with_reducible refine bdrew ?_) | (with_reducible refine balloc0 ?_) | (with_reducible refine balloc ?_ ?_) | (with_reducible apply btrans0; rotate_left; with_reducible assumption) | (with_reducible apply btrans; rotate_left; with_reducible assumption) | exact Below.refl _ _ | assumption | (apply btrans0; rotate_left; assumption) | (apply btrans; rotate_left; assumption) | (simp; done) | omega | (simp; omega)))⟩
      subst hz
      have hRA : R = encA l := by rw [← HRR.out]; unfold encAR; rw [if_pos HC.out]
      have hD : decAS (R ++ s) = (l, R.length, 0) := by rw [hRA]; exact decA_enc s HC.out
      have hRl : R.length ≤ 10000 := by rw [hRA]; exact encA_len HC.out
      have HDD := Lib.hid hD
      have hcat : ¬ 9223372036854775807 < R.length + s.length := by omega
      have hla : (R ++ s).length ≤ 1000000000 := by rw [List.length_append]; omega
      clear hD hRA
      go_wp2_with fail
      refine (decodeAll_any (R ++ s) l R.length 0 _ hla HDD.out).mono ?_
      rintro e w3 ⟨v3, rfl, hr3, hb3⟩
      have hB3 : Below w.heap.size w w3 := (by repeat' (first | (with_reducible refine bset ?_ ?_) | (with_reducible exact Below.refl _ _) | (with_reducible assumption) | (with_reducible refine bdrewN ?_ _) | (with_reducible refine bdrew ?_) | (with_reducible refine balloc0 ?_) | (with_reducible refine balloc ?_ ?_) | (with_reducible apply btrans0; rotate_left; with_reducible assumption) | (with_reducible apply btrans; rotate_left; with_reducible assumption) | exact Below.refl _ _ | assumption | (apply btrans0; rotate_left; assumption) | (apply btrans; rotate_left; assumption) | (simp; done) | omega | (simp; omega)))
      have P3 := Lib.hid hr3
      obtain ⟨a3, c3, rfl, _⟩ := id hr3
      clear hb3 hr3 hB4
      go_wp2_with fail
      refine (same_any l _ _ _ P3.out (HR.out.below hB3 (Nat.le_refl _) hB3.size)).mono ?_
      rintro e w4 ⟨rfl, hb4⟩
      have hB4 : Below w.heap.size w w4 := (by repeat' (first | (with_reducible refine bset ?_ ?_) | (with_reducible exact Below.refl _ _) | (with_reducible assumption) | (with_reducible refine bdrewN ?_ _) | (with_reducible refine bdrew ?_) | (with_reducible refine balloc0 ?_) | (with_reducible refine balloc ?_ ?_) | (with_reducible apply btrans0; rotate_left; with_reducible assumption) | (with_reducible apply btrans; rotate_left; with_reducible assumption) | exact Below.refl _ _ | assumption | (apply btrans0; rotate_left; assumption) | (apply btrans; rotate_left; assumption) | (simp; done) | omega | (simp; omega)))
      clear hb4 hB3 P3
      go_wp2_with fail
      refine (decode_any s x n de _ hs9 HX.out).mono ?_
      rintro e w5 ⟨rfl, hb5⟩
      have hB5 : Below w.heap.size w w5 := (by repeat' (first | (with_reducible refine bset ?_ ?_) | (with_reducible exact Below.refl _ _) | (with_reducible assumption) | (with_reducible refine bdrewN ?_ _) | (with_reducible refine bdrew ?_) | (with_reducible refine balloc0 ?_) | (with_reducible refine balloc ?_ ?_) | (with_reducible apply btrans0; rotate_left; with_reducible assumption) | (with_reducible apply btrans; rotate_left; with_reducible assumption) | exact Below.refl _ _ | assumption | (apply btrans0; rotate_left; assumption) | (apply btrans; rotate_left; assumption) | (simp; done) | omega | (simp; omega)))
      clear hb5 hB4
      by_cases hde : de = 0
      case neg =>
        have hde' : (de == 0) = false := beq_eq_false_iff_ne.2 hde
        go_wp2_with fail
        refine (decodeAll_any s L K LE _ hs9 HL.out).mono ?_
        rintro e w7 ⟨v7, rfl, hr7, hb7⟩
        have hB7 : Below w.heap.size w w7 := (by repeat' (first | (with_reducible refine bset ?_ ?_) | (with_reducible exact Below.refl _ _) | (with_reducible assumption) | (with_reducible refine bdrewN ?_ _) | (with_reducible refine bdrew ?_) | (with_reducible refine balloc0 ?_) | (with_reducible refine balloc ?_ ?_) | (with_reducible apply btrans0; rotate_left; with_reducible assumption) | (with_reducible apply btrans; rotate_left; with_reducible assumption) | exact Below.refl _ _ | assumption | (apply btrans0; rotate_left; assumption) | (apply btrans; rotate_left; assumption) | (simp; done) | omega | (simp; omega)))
        have P7 := Lib.hid hr7
        obtain ⟨a7, c7, rfl, _⟩ := id hr7
        clear hb7 hr7
        by_cases hle : LE = 0
        case neg =>
          have hle' : (LE == 0) = false := beq_eq_false_iff_ne.2 hle
          go_wp2_with fail
          refine (awake_any _).mono ?_
          rintro e w9 ⟨rfl, hb9⟩
          go_wp2
          go_ret
          exact ⟨rfl, (by repeat' (first | (with_reducible refine bset ?_ ?_) | (with_reducible exact Below.refl _ _) | (with_reducible assumption) | (with_reducible refine bdrewN ?_ _) | (with_reducible refine bdrew ?_) | (with_reducible refine balloc0 ?_) | (with_reducible refine balloc ?_ ?_) | (with_reducible apply btrans0; rotate_left; with_reducible assumption) | (with_reducible apply btrans; rotate_left; with_reducible assumption) | exact Below.refl _ _ | assumption | (apply btrans0; rotate_left; assumption) | (apply btrans; rotate_left; assumption) | (simp; done) | omega | (simp; omega)))⟩
        subst hle
        obtain ⟨⟨r7, hsr7⟩, hk7, hc7⟩ := enc_decA HL.out
        obtain ⟨_, hlb7⟩ := chkAll_zero hc7
        obtain ⟨E7, hE7⟩ : ∃ E, encA L = E := ⟨_, rfl⟩
        rw [hE7] at hsr7 hk7
        have HEE7 : Hid (encAR L = E7) := Lib.hid (by unfold encAR; rw [if_pos hc7, hE7])
        have HC7 := Lib.hid hc7
        have htk7 : s.take K = E7 := by rw [hsr7]; exact take_app (by omega)
        have hml7 : (K : Int) ≤ (s.length : Int) := by rw [hsr7, List.length_append]; omega
        have hml72 : decide ((s.length : Int) < (K : Int)) = false := decide_eq_false (by omega)
        have hml73 : decide (s.length < K) = false := decide_eq_false (by omega)
        have hm70 : (0 : Int) ≤ (K : Int) := by omega
        have hm71 : decide ((K : Int) < 0) = false := decide_eq_false (by omega)
        have hd7 : ∀ y ∈ L, y.data.length ≤ maxLen := fun y hy => by have := (blkE_zero (hlb7 y hy)).2.2.2.2; unfold maxLen; omega
        have HD7 := Lib.hid hd7
        clear hsr7 hk7 hc7 hE7 hlb7 hd7
        go_wp2_with fail
        refine (encodeAll_any L _ _ P7.out HD7.out).mono ?_
        rw [HEE7.out, HC7.out]
        rintro e w8 ⟨rfl, hb8⟩
        have hB8 : Below w.heap.size w w8 := (by repeat' (first | (with_reducible refine bset ?_ ?_) | (with_reducible exact Below.refl _ _) | (with_reducible assumption) | (with_reducible refine bdrewN ?_ _) | (with_reducible refine bdrew ?_) | (with_reducible refine balloc0 ?_) | (with_reducible refine balloc ?_ ?_) | (with_reducible apply btrans0; rotate_left; with_reducible assumption) | (with_reducible apply btrans; rotate_left; with_reducible assumption) | exact Below.refl _ _ | assumption | (apply btrans0; rotate_left; assumption) | (apply btrans; rotate_left; assumption) | (simp; done) | omega | (simp; omega)))
        clear hb8 P7
        go_wp2_with fail
        refine (awake_any _).mono ?_
        rintro e w9 ⟨rfl, hb9⟩
        go_wp2
        go_ret
        exact ⟨rfl, (by repeat' (first | (with_reducible refine bset ?_ ?_) | (with_reducible exact Below.refl _ _) | (with_reducible assumption) | (with_reducible refine bdrewN ?_ _) | (with_reducible refine bdrew ?_) | (with_reducible refine balloc0 ?_) | (with_reducible refine balloc ?_ ?_) | (with_reducible apply btrans0; rotate_left; with_reducible assumption) | (with_reducible apply btrans; rotate_left; with_reducible assumption) | exact Below.refl _ _ | assumption | (apply btrans0; rotate_left; assumption) | (apply btrans; rotate_left; assumption) | (simp; done) | omega | (simp; omega)))⟩
      subst hde
      obtain ⟨⟨r, hsr⟩, hn, hbx⟩ := enc_dec HX.out
      obtain ⟨E, hE⟩ : ∃ E, encB x = E := ⟨_, rfl⟩
      rw [hE] at hsr hn
      have HEE : Hid (encR x = E) := Lib.hid (by unfold encR; rw [if_pos hbx, hE])
      have HBX := Lib.hid hbx
      obtain ⟨m, hm⟩ : ∃ m, E.length = m := ⟨_, rfl⟩
      rw [hm] at hn
      subst hn
      have htk : s.take m = E := by rw [hsr]; exact take_app (by omega)
      have hml : (m : Int) ≤ (s.length : Int) := by rw [hsr, List.length_append]; omega
      have hml2 : decide ((s.length : Int) < (m : Int)) = false := decide_eq_false (by omega)
      have hml3 : decide (s.length < m) = false := decide_eq_false (by omega)
      have hm0 : (0 : Int) ≤ (m : Int) := by omega
      have hm1 : decide ((m : Int) < 0) = false := decide_eq_false (by omega)
      have hxd : x.data.length ≤ 9223372036854775807 := by have := (blkE_zero hbx).2.2.2.2; omega
      clear hsr hbx hE hm
      go_wp2_with fail
      refine (bencode_any x _ hxd).mono ?_
      rw [HEE.out, HBX.out]
      rintro e w6 ⟨rfl, hb6⟩
      have hB6 : Below w.heap.size w w6 := (by repeat' (first | (with_reducible refine bset ?_ ?_) | (with_reducible exact Below.refl _ _) | (with_reducible assumption) | (with_reducible refine bdrewN ?_ _) | (with_reducible refine bdrew ?_) | (with_reducible refine balloc0 ?_) | (with_reducible refine balloc ?_ ?_) | (with_reducible apply btrans0; rotate_left; with_reducible assumption) | (with_reducible apply btrans; rotate_left; with_reducible assumption) | exact Below.refl _ _ | assumption | (apply btrans0; rotate_left; assumption) | (apply btrans; rotate_left; assumption) | (simp; done) | omega | (simp; omega)))
      clear hb6 hB5
      go_wp2_with fail
      refine (decodeAll_any s L K LE _ hs9 HL.out).mono ?_
      rintro e w7 ⟨v7, rfl, hr7, hb7⟩
      have hB7 : Below w.heap.size w w7 := (by repeat' (first | (with_reducible refine bset ?_ ?_) | (with_reducible exact Below.refl _ _) | (with_reducible assumption) | (with_reducible refine bdrewN ?_ _) | (with_reducible refine bdrew ?_) | (with_reducible refine balloc0 ?_) | (with_reducible refine balloc ?_ ?_) | (with_reducible apply btrans0; rotate_left; with_reducible assumption) | (with_reducible apply btrans; rotate_left; with_reducible assumption) | exact Below.refl _ _ | assumption | (apply btrans0; rotate_left; assumption) | (apply btrans; rotate_left; assumption) | (simp; done) | omega | (simp; omega)))
      have P7 := Lib.hid hr7
      obtain ⟨a7, c7, rfl, _⟩ := id hr7
      clear hb7 hr7
      by_cases hle : LE = 0
      case neg =>
        have hle' : (LE == 0) = false := beq_eq_false_iff_ne.2 hle
        go_wp2_with fail
        refine (awake_any _).mono ?_
        rintro e w9 ⟨rfl, hb9⟩
        go_wp2
        go_ret
        exact ⟨rfl, (by repeat' (first | (with_reducible refine bset ?_ ?_) | (with_reducible exact Below.refl _ _) | (with_reducible assumption) | (with_reducible refine bdrewN ?_ _) | (with_reducible refine bdrew ?_) | (with_reducible refine balloc0 ?_) | (with_reducible refine balloc ?_ ?_) | (with_reducible apply btrans0; rotate_left; with_reducible assumption) | (with_reducible apply btrans; rotate_left; with_reducible assumption) | exact Below.refl _ _ | assumption | (apply btrans0; rotate_left; assumption) | (apply btrans; rotate_left; assumption) | (simp; done) | omega | (simp; omega)))⟩
      subst hle
      obtain ⟨⟨r7, hsr7⟩, hk7, hc7⟩ := enc_decA HL.out
      obtain ⟨_, hlb7⟩ := chkAll_zero hc7
      obtain ⟨E7, hE7⟩ : ∃ E, encA L = E := ⟨_, rfl⟩
      rw [hE7] at hsr7 hk7
      have HEE7 : Hid (encAR L = E7) := Lib.hid (by unfold encAR; rw [if_pos hc7, hE7])
      have HC7 := Lib.hid hc7
      have htk7 : s.take K = E7 := by rw [hsr7]; exact take_app (by omega)
      have hml7 : (K : Int) ≤ (s.length : Int) := by rw [hsr7, List.length_append]; omega
      have hml72 : decide ((s.length : Int) < (K : Int)) = false := decide_eq_false (by omega)
      have hml73 : decide (s.length < K) = false := decide_eq_false (by omega)
      have hm70 : (0 : Int) ≤ (K : Int) := by omega
      have hm71 : decide ((K : Int) < 0) = false := decide_eq_false (by omega)
      have hd7 : ∀ y ∈ L, y.data.length ≤ maxLen := fun y hy => by have := (blkE_zero (hlb7 y hy)).2.2.2.2; unfold maxLen; omega
      have HD7 := Lib.hid hd7
      clear hsr7 hk7 hc7 hE7 hlb7 hd7
      go_wp2_with fail
      refine (encodeAll_any L _ _ P7.out HD7.out).mono ?_
      rw [HEE7.out, HC7.out]
      rintro e w8 ⟨rfl, hb8⟩
      have hB8 : Below w.heap.size w w8 := (by repeat' (first | (with_reducible refine bset ?_ ?_) | (with_reducible exact Below.refl _ _) | (with_reducible assumption) | (with_reducible refine bdrewN ?_ _) | (with_reducible refine bdrew ?_) | (with_reducible refine balloc0 ?_) | (with_reducible refine balloc ?_ ?_) | (with_reducible apply btrans0; rotate_left; with_reducible assumption) | (with_reducible apply btrans; rotate_left; with_reducible assumption) | exact Below.refl _ _ | assumption | (apply btrans0; rotate_left; assumption) | (apply btrans; rotate_left; assumption) | (simp; done) | omega | (simp; omega)))
      clear hb8 P7
      go_wp2_with fail
      refine (awake_any _).mono ?_
      rintro e w9 ⟨rfl, hb9⟩
      go_wp2
      go_ret
      exact ⟨rfl, (by repeat' (first | (with_reducible refine bset ?_ ?_) | (with_reducible exact Below.refl _ _) | (with_reducible assumption) | (with_reducible refine bdrewN ?_ _) | (with_reducible refine bdrew ?_) | (with_reducible refine balloc0 ?_) | (with_reducible refine balloc ?_ ?_) | (with_reducible apply btrans0; rotate_left; with_reducible assumption) | (with_reducible apply btrans; rotate_left; with_reducible assumption) | exact Below.refl _ _ | assumption | (apply btrans0; rotate_left; assumption) | (apply btrans; rotate_left; assumption) | (simp; done) | omega | (simp; omega)))⟩

set_option maxRecDepth 100000 in
theorem lifted (os : Os) (started : os.Started) (H : Type) (enc : TypeId × Value → H) :
    ReturnsInHanded {} Try.checked os 10 .any (Rows.blockBackSpec.pre6 enc Try.prog Try.f10 Rows.blockBackRow.domain false) (Rows.blockBackSpec.post enc Try.prog Try.f10 false true false false) := by
  refine returnsInHanded_of_change (C := Try.checked) own started (by kernel_rfl) Try.func10
    (ChangeSpec.witness6 (enc := enc) (C := Try.checked) false ⟨#[], #[.slice none 0 0, .string (B [])], []⟩ 8 (by kernel_rfl) (by kernel_rfl) (by kernel_rfl) (by kernel_rfl)) ?_
  intro W base args ds gs before hval0 hW hcnd _
  have hval : ∀ (j : Nat) t v, Try.f10.params[j]? = some t → args[j]? = some v → Value.okWide Try.prog W .any base t v := hval0
  have hW' := hW
  obtain ⟨p, q, hA0, hV, rfl, hfz, hnd⟩ := hW
  have hA : DataW.TrodAll enc Try.prog W 0 (fun _ => true) true Try.f10.params.toList args.toList ds p := hA0
  rw [Try.params10] at hA hval
  obtain ⟨v0, vs0, d0, ds0, p0, q0, hargs, rfl, rfl, h0, r0⟩ := trodAll_cons hA
  obtain ⟨v1, vs1, d1, ds1, p1, q1, rfl, rfl, rfl, h1, r1⟩ := trodAll_cons r0
  obtain ⟨rfl, rfl, rfl⟩ := trodAll_nil r1
  obtain rfl : args = #[v0, v1] := by cases args; simp_all
  obtain ⟨x0, hr0, hd0⟩ := open_blks_arg (hval 0 22 v0 rfl rfl) h0
  obtain ⟨x1, rfl, hs1⟩ := open_str_arg (hval 1 9 v1 rfl rfl) h1
  refine (walk x0 v0 x1 W hr0 hd0 hs1).mono fun e W' ⟨he, hB⟩ => ?_
  subst he
  refine ⟨_, rfl, law_post (by kernel_rfl) (by kernel_rfl) rfl Try.underlying4 rfl ?_ hW' hB⟩
  intro es hes
  match es, hes with
  | [_, _], _ => rfl

theorem proved : Rows.BlockBackSaid :=
  OpenClaim.holds_of_wide 10 Try.f10 rfl rfl rfl rfl rfl rfl rfl ⟨rfl, rfl, rfl, rfl, rfl⟩ rfl rfl rfl rfl rfl (by kernel_rfl) Try.func10 (by kernel_rfl)
    (of_decide_eq_true (by kernel_rfl)) (by unfold Func.isWrapper; first | (rw [if_pos (by decide +kernel)]; kernel_rfl) | (rw [if_neg (by decide +kernel)]; exact ⟨rfl, rfl⟩))
    (fun os started H enc _ => lifted os started H enc)
#print axioms proved
end Go.Proofs.Ytdnbegcebloodaa.blockBack
