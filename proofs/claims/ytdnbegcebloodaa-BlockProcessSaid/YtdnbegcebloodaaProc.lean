/-
  Proved: mailboatlaw12.BlockProcess returns true for every input, and leaves its arguments as they were. No condition.
-/
import Derived.Test.YtdnbegcebloodaaRows
import Derived.Test.YtdnbegcebloodaaGj
import Derived.Test.YtdnbegcebloodaaEg
import Derived.Test.YtdnbegcebloodaaEh
import Derived.Test.YtdnbegcebloodaaPb
import Derived.Test.YtdnbegcebloodaaR
import Derived.Test.YtdnbegcebloodaaL
set_option linter.unusedVariables false
set_option linter.unusedSimpArgs false
namespace Go.Proofs.Ytdnbegcebloodaa.blockProcess
open Go Go.ChangeShapes Go.WideShapes Go.ChangeAt Go.RowKit Go.Joins Go.Proofs.Ytdnbegcebloodaa
attribute [local go_sem] B_getElem B_size B_app B_extract B_get B_toList
attribute [local go_sem ↓] eqBlk

theorem own : ownKnob Try.prog.godebug = none := by kernel_rfl

set_option maxRecDepth 100000 in
set_option maxHeartbeats 3000000 in
theorem walk (l : List Blk) (u : Value) (known : List Int) (v : Value) (more : Int) (w : World) (hr : RBlks w w.heap.size u l) (hd : ∀ x ∈ l, x.data.length ≤ maxLen) (hk : RInts w w.heap.size v known) :
    Calls Try.prog 3 #[u, v, .int .i64 more] w (Says w) := by
  obtain ⟨ua, uc, rfl, _⟩ := id hr
  obtain ⟨va, vc, rfl, hvc, hvm, _⟩ := id hk
  unfold maxLen at hvm
  have hkl : known.length ≤ 9223372036854775807 := by omega
  have HR := Lib.hid hr
  have HK := Lib.hid hk
  have HD := Lib.hid hd
  clear hr hk hd
  go_enter Try.func3, Try.ntmps3
  go_wp2_with fail
  refine (lawGreat_any l _ [] _ HR.out HD.out (by simp [maxLen])).mono ?_
  rintro e w1 ⟨g, rfl, hb1⟩
  have z1 : w.heap.size ≤ w1.heap.size := hb1.size
  cases g
  case true =>
    go_wp2_with fail
    refine (awake_any _).mono ?_
    rintro e w9 ⟨rfl, hb9⟩
    go_wp2
    go_ret
    exact ⟨rfl, (by repeat' (first | (with_reducible refine bset ?_ ?_) | (with_reducible exact Below.refl _ _) | (with_reducible assumption) | (with_reducible refine bdrewN ?_ _) | (with_reducible refine bdrew ?_) | (with_reducible refine balloc0 ?_) | (with_reducible refine balloc ?_ ?_) | (with_reducible apply btrans0; rotate_left; with_reducible assumption) | (with_reducible apply btrans; rotate_left; with_reducible assumption) | exact Below.refl _ _ | assumption | (apply btrans0; rotate_left; assumption) | (apply btrans; rotate_left; assumption) | (simp; done) | omega | (simp; omega)))⟩
  by_cases h20 : 20 < known.length
  · have h20' : (20 : Int) < (known.length : Int) := by omega
    go_wp2_with fail
    refine (awake_any _).mono ?_
    rintro e w9 ⟨rfl, hb9⟩
    go_wp2
    go_ret
    exact ⟨rfl, (by repeat' (first | (with_reducible refine bset ?_ ?_) | (with_reducible exact Below.refl _ _) | (with_reducible assumption) | (with_reducible refine bdrewN ?_ _) | (with_reducible refine bdrew ?_) | (with_reducible refine balloc0 ?_) | (with_reducible refine balloc ?_ ?_) | (with_reducible apply btrans0; rotate_left; with_reducible assumption) | (with_reducible apply btrans; rotate_left; with_reducible assumption) | exact Below.refl _ _ | assumption | (apply btrans0; rotate_left; assumption) | (apply btrans; rotate_left; assumption) | (simp; done) | omega | (simp; omega)))⟩
  have h20' : ¬ (20 : Int) < (known.length : Int) := by omega
  have h20a : decide ((20 : Int) < (known.length : Int)) = false := decide_eq_false h20'
  have h20b : decide (20 < known.length) = false := decide_eq_false h20
  go_wp2_with fail
  refine (checkAll_any l _ _ (HR.out.below hb1 (Nat.le_refl _) z1) HD.out).mono ?_
  by_cases hc : chkAll l = 0
  case neg =>
    have hc' : (chkAll l == 0) = false := beq_eq_false_iff_ne.2 hc
    obtain ⟨E, hE⟩ : ∃ E, chkAll l = E := ⟨_, rfl⟩
    rw [hE] at hc' ⊢
    rintro e w2 ⟨rfl, hb2⟩
    clear hc hE
    go_wp2_with fail
    refine (awake_any _).mono ?_
    rintro e w9 ⟨rfl, hb9⟩
    go_wp2
    go_ret
    exact ⟨rfl, (by repeat' (first | (with_reducible refine bset ?_ ?_) | (with_reducible exact Below.refl _ _) | (with_reducible assumption) | (with_reducible refine bdrewN ?_ _) | (with_reducible refine bdrew ?_) | (with_reducible refine balloc0 ?_) | (with_reducible refine balloc ?_ ?_) | (with_reducible apply btrans0; rotate_left; with_reducible assumption) | (with_reducible apply btrans; rotate_left; with_reducible assumption) | exact Below.refl _ _ | assumption | (apply btrans0; rotate_left; assumption) | (apply btrans; rotate_left; assumption) | (simp; done) | omega | (simp; omega)))⟩
  have HC := Lib.hid hc
  rw [hc]
  rintro e w2 ⟨rfl, hb2⟩
  have z2 : w1.heap.size ≤ w2.heap.size := hb2.size
  have hB2 : Below w.heap.size w w2 := (by repeat' (first | (with_reducible refine bset ?_ ?_) | (with_reducible exact Below.refl _ _) | (with_reducible assumption) | (with_reducible refine bdrewN ?_ _) | (with_reducible refine bdrew ?_) | (with_reducible refine balloc0 ?_) | (with_reducible refine balloc ?_ ?_) | (with_reducible apply btrans0; rotate_left; with_reducible assumption) | (with_reducible apply btrans; rotate_left; with_reducible assumption) | exact Below.refl _ _ | assumption | (apply btrans0; rotate_left; assumption) | (apply btrans; rotate_left; assumption) | (simp; done) | omega | (simp; omega)))
  obtain ⟨hl8, _⟩ := chkAll_zero hc
  clear hb1 hb2 hc
  obtain ⟨_, _, e', huc, hum, _, hcb⟩ := id HR.out
  injection e' with e1 _ e2
  subst e1 e2
  have HCL := Lib.hid hcb
  unfold maxLen at hum
  obtain ⟨i0, hin, hz0, hz1, hz2⟩ := info_parts infoInt
  clear hcb
  go_wp2
  go_loopw [37, 7] (fun c s wr => ∃ (k : Nat) (vo : Value), s = vo ∧ k ≤ l.length ∧ c = .int .i64 k ∧ wr.ownsRow w2.heap.size 3 1 vo k (ints ((l.take k).map (·.kind))) ∧ Below w2.heap.size w2 wr) (fun c _ _ => l.length - (intOf c).toNat)
  case atStart => exact ⟨0, _, rfl, Nat.zero_le _, rfl, World.ownsRow_nil _ _ _ _, Below.refl _ _⟩
  case round =>
    obtain ⟨k, vo, e7, hk, rfl, hown, hB⟩ := hrel
    have e7' := e7.symm
    clear e7
    subst e7'
    have HBw : Below w.heap.size w wr := (by repeat' (first | (with_reducible refine bset ?_ ?_) | (with_reducible exact Below.refl _ _) | (with_reducible assumption) | (with_reducible refine bdrewN ?_ _) | (with_reducible refine bdrew ?_) | (with_reducible refine balloc0 ?_) | (with_reducible refine balloc ?_ ?_) | (with_reducible apply btrans0; rotate_left; with_reducible assumption) | (with_reducible apply btrans; rotate_left; with_reducible assumption) | exact Below.refl _ _ | assumption | (apply btrans0; rotate_left; assumption) | (apply btrans; rotate_left; assumption) | (simp; done) | omega | (simp; omega)))
    by_cases hlt : k < l.length
    · obtain ⟨bb, o, rfl, hbn, hcell⟩ := HCL.out (by omega)
      obtain ⟨x, hx⟩ : ∃ x, l[k]? = some x := ⟨_, List.getElem?_eq_getElem hlt⟩
      obtain ⟨c1, c2', c3⟩ := (hcell k x hx).keep (fun o => HBw.cell (p := ⟨bb, o, none⟩) (by show bb < _; omega))
      have hbr : bb < wr.heap.size := by have := HBw.size; omega
      have k0 : (0 : Int) ≤ (k : Int) := by omega
      have k1 : (k : Int) < (l.length : Int) := by omega
      have HTK : Hid (ints ((l.take (k + 1)).map (·.kind)) = ints ((l.take k).map (·.kind)) ++ [.int .i64 x.kind]) := Lib.hid (by rw [List.take_add_one, hx]; simp [ints])
      clear hcell hx
      go_wp2_with (at_builtin; refine wpList_append_lies _ rfl _ _ _ rfl w2.heap.size 3 i0 _ 1 8 Try.underlying23 hin hz0 hz1 hz2 rfl (by omega) vo k _ rfl ((hown.alloc _).alloc _) ⟨wr.heap.size + 1, 0, none⟩ 1 1 [.int .i64 x.kind] rfl rfl (news_one (t := 3) (by exact heap_new' (by simp))) (by simp [Value.oneCell']) (by omega) (by simp only [maxLen]; omega) (by omega) (by simp; have := hB.size; omega) (wr.heap.size + 1 + 1) (by simp) ?_; intro g cap w5 hown5 hg5 hat5 hlt5)
      have hB4 : Below w2.heap.size w2 w5 := (balloc (balloc hB hB.size) (by have := hB.size; simp; omega)).grown hg5 (by have := hB.size; simp; omega) (fun q hq => (hown.lt q hq).1)
      have HO := Lib.hid hown5
      clear hown5 hg5 hat5 hown
      go_wp2
      go_roundw
      case rel => exact ⟨k + 1, _, rfl, by omega, by go_num, by rw [HTK.out]; exact HO.out, by clear HBw hB2 hB; exact (by repeat' (first | (with_reducible refine bset ?_ ?_) | (with_reducible exact Below.refl _ _) | (with_reducible assumption) | (with_reducible refine bdrewN ?_ _) | (with_reducible refine bdrew ?_) | (with_reducible refine balloc0 ?_) | (with_reducible refine balloc ?_ ?_) | (with_reducible apply btrans0; rotate_left; with_reducible assumption) | (with_reducible apply btrans; rotate_left; with_reducible assumption) | exact Below.refl _ _ | assumption | (apply btrans0; rotate_left; assumption) | (apply btrans; rotate_left; assumption) | (simp; done) | omega | (simp; omega)))⟩
      case measure => simp [intOf]; omega
    · obtain rfl : k = l.length := by omega
      have hal : RInts wr wr.heap.size vo (l.map (·.kind)) := by have h1 := RInts.of_own hown; rwa [List.take_length] at h1
      have HA := Lib.hid hal
      have z3 : w2.heap.size ≤ wr.heap.size := hB.size
      clear hown hal hk hlt HCL hB hB2
      obtain ⟨W3, hW3⟩ : ∃ W3, W3 = wr := ⟨wr, rfl⟩
      subst hW3
      go_wp2_with fail
      refine (process_any l (l.map (·.kind)) _ _ _ (HR.out.below HBw (Nat.le_refl _) HBw.size) HA.out HD.out).mono ?_
      rw [prS_all HC.out]
      rintro e w4 ⟨u4, rfl, hr4, hb4⟩
      have hB4 : Below w.heap.size w w4 := (by repeat' (first | (with_reducible refine bset ?_ ?_) | (with_reducible exact Below.refl _ _) | (with_reducible assumption) | (with_reducible refine bdrewN ?_ _) | (with_reducible refine bdrew ?_) | (with_reducible refine balloc0 ?_) | (with_reducible refine balloc ?_ ?_) | (with_reducible apply btrans0; rotate_left; with_reducible assumption) | (with_reducible apply btrans; rotate_left; with_reducible assumption) | exact Below.refl _ _ | assumption | (apply btrans0; rotate_left; assumption) | (apply btrans; rotate_left; assumption) | (simp; done) | omega | (simp; omega)))
      have R4 := Lib.hid hr4
      obtain ⟨a4, c4, rfl, _⟩ := id hr4
      clear hr4 hb4
      go_wp2_with fail
      refine (same_any l _ _ _ R4.out (HR.out.below hB4 (Nat.le_refl _) hB4.size)).mono ?_
      rintro e w5 ⟨rfl, hb5⟩
      have hB5 : Below w.heap.size w w5 := (by repeat' (first | (with_reducible refine bset ?_ ?_) | (with_reducible exact Below.refl _ _) | (with_reducible assumption) | (with_reducible refine bdrewN ?_ _) | (with_reducible refine bdrew ?_) | (with_reducible refine balloc0 ?_) | (with_reducible refine balloc ?_ ?_) | (with_reducible apply btrans0; rotate_left; with_reducible assumption) | (with_reducible apply btrans; rotate_left; with_reducible assumption) | exact Below.refl _ _ | assumption | (apply btrans0; rotate_left; assumption) | (apply btrans; rotate_left; assumption) | (simp; done) | omega | (simp; omega)))
      clear hb5 hB4 R4 HBw
      go_wp2_with fail
      refine (process_any l known _ _ _ (HR.out.below hB5 (Nat.le_refl _) hB5.size) (HK.out.below hB5 (Nat.le_refl _) hB5.size) HD.out).mono ?_
      obtain ⟨⟨xl, xr, xe⟩, hxs⟩ : ∃ x, prS l known = x := ⟨_, rfl⟩
      have HXS := Lib.hid hxs
      rw [hxs]
      rintro e w6 ⟨u6, rfl, hr6, hb6⟩
      have R6 := Lib.hid hr6
      have hB6 : Below w.heap.size w w6 := (by repeat' (first | (with_reducible refine bset ?_ ?_) | (with_reducible exact Below.refl _ _) | (with_reducible assumption) | (with_reducible refine bdrewN ?_ _) | (with_reducible refine bdrew ?_) | (with_reducible refine balloc0 ?_) | (with_reducible refine balloc ?_ ?_) | (with_reducible apply btrans0; rotate_left; with_reducible assumption) | (with_reducible apply btrans; rotate_left; with_reducible assumption) | exact Below.refl _ _ | assumption | (apply btrans0; rotate_left; assumption) | (apply btrans; rotate_left; assumption) | (simp; done) | omega | (simp; omega)))
      obtain ⟨a6, c6, rfl, h6c, h6m, _⟩ := id hr6
      simp only at hr6 ⊢
      clear hr6 hb6 hB5 hxs
      go_wp2_with fail
      refine (cloneInt_any known _ _ (HK.out.below hB6 (Nat.le_refl _) hB6.size) (by omega)).mono ?_
      rintro e w7 ⟨vc7, rfl, hb7, hown7⟩
      have hB7 : Below w.heap.size w w7 := (by repeat' (first | (with_reducible refine bset ?_ ?_) | (with_reducible exact Below.refl _ _) | (with_reducible assumption) | (with_reducible refine bdrewN ?_ _) | (with_reducible refine bdrew ?_) | (with_reducible refine balloc0 ?_) | (with_reducible refine balloc ?_ ?_) | (with_reducible apply btrans0; rotate_left; with_reducible assumption) | (with_reducible apply btrans; rotate_left; with_reducible assumption) | exact Below.refl _ _ | assumption | (apply btrans0; rotate_left; assumption) | (apply btrans; rotate_left; assumption) | (simp; done) | omega | (simp; omega)))
      have z7 : w6.heap.size ≤ w7.heap.size := hb7.size
      have hk20 : known.length ≤ 20 := by omega
      go_wp2_with (at_builtin; refine wpList_append_lies _ rfl _ _ _ rfl w6.heap.size 3 i0 _ 1 8 Try.underlying23 hin hz0 hz1 hz2 rfl (by omega) vc7 known.length _ rfl (hown7.alloc _) ⟨w7.heap.size, 0, none⟩ 1 1 [.int .i64 more] rfl rfl (news_one (t := 3) (by exact heap_new)) (by simp [Value.oneCell']) (by omega) (by simp only [maxLen]; omega) (by omega) (by simp; omega) (w7.heap.size + 1) (by simp) ?_; intro g cap w8 hown8 hg8 hat8 hlt8)
      have hB8 : Below w.heap.size w w8 := (balloc hB7 (by have := hB7.size; omega)).grown hg8 (by have := hB7.size; simp; omega) (fun q hq => by have := (hown7.lt q hq).1; have := hB6.size; omega)
      have B68 : Below w6.heap.size w6 w8 := (balloc hb7 z7).grown hg8 (by simp; omega) (fun q hq => (hown7.lt q hq).1)
      have K8 := Lib.hid (RInts.of_own (l := known ++ [more]) (by simpa [ints] using hown8))
      have R8 := Lib.hid (R6.out.below B68 (Nat.le_refl _) B68.size)
      clear hown8 hg8 hat8 hown7 hb7 hB7 hB6 R6 B68
      refine (process_any l (known ++ [more]) _ _ _ (HR.out.below hB8 (Nat.le_refl _) hB8.size) K8.out HD.out).mono ?_
      obtain ⟨⟨yl, yr, ye⟩, hys⟩ : ∃ x, prS l (known ++ [more]) = x := ⟨_, rfl⟩
      have HYS := Lib.hid hys
      rw [hys]
      rintro e w9 ⟨u9, rfl, hr9, hb9⟩
      have R9 := Lib.hid (R8.out.below hb9 (Nat.le_refl _) hb9.size)
      have hB9 : Below w.heap.size w w9 := (by repeat' (first | (with_reducible refine bset ?_ ?_) | (with_reducible exact Below.refl _ _) | (with_reducible assumption) | (with_reducible refine bdrewN ?_ _) | (with_reducible refine bdrew ?_) | (with_reducible refine balloc0 ?_) | (with_reducible refine balloc ?_ ?_) | (with_reducible apply btrans0; rotate_left; with_reducible assumption) | (with_reducible apply btrans; rotate_left; with_reducible assumption) | exact Below.refl _ _ | assumption | (apply btrans0; rotate_left; assumption) | (apply btrans; rotate_left; assumption) | (simp; done) | omega | (simp; omega)))
      obtain ⟨a9, c9, rfl, h9c, h9m, _⟩ := id hr9
      simp only at hr9 ⊢
      clear hr9 hb9 hB8 hys K8 R8
      have hcs := prS_cases (known := known) HC.out
      rw [HXS.out] at hcs
      rcases hcs with ⟨rfl, rfl⟩ | rfl
      · go_wp2_with fail
        refine (awake_any _).mono ?_
        rintro e w9 ⟨rfl, hb9⟩
        go_wp2
        go_ret
        exact ⟨rfl, (by repeat' (first | (with_reducible refine bset ?_ ?_) | (with_reducible exact Below.refl _ _) | (with_reducible assumption) | (with_reducible refine bdrewN ?_ _) | (with_reducible refine bdrew ?_) | (with_reducible refine balloc0 ?_) | (with_reducible refine balloc ?_ ?_) | (with_reducible apply btrans0; rotate_left; with_reducible assumption) | (with_reducible apply btrans; rotate_left; with_reducible assumption) | exact Below.refl _ _ | assumption | (apply btrans0; rotate_left; assumption) | (apply btrans; rotate_left; assumption) | (simp; done) | omega | (simp; omega)))⟩
      · have hm := prS_more (known := known) (m := more) HC.out (by rw [HXS.out])
        rw [HXS.out, HYS.out] at hm
        obtain ⟨rfl, hle⟩ := hm
        simp only at hle
        have hle1 : (xl.length : Int) ≤ (yl.length : Int) := by omega
        have hle2 : decide ((xl.length : Int) ≤ (yl.length : Int)) = true := decide_eq_true hle1
        have hle3 : decide (xl.length ≤ yl.length) = true := decide_eq_true hle
        obtain ⟨r2, hag⟩ := prS_again (known := known) HC.out (by rw [HXS.out])
        rw [HXS.out] at hag
        simp only at hag
        have HAG := Lib.hid hag
        have HDX := Lib.hid (fun x hx => HD.out x (prS_sub (known := known) x (by rw [HXS.out]; exact hx)))
        clear hag hle
        go_wp2_with fail
        refine (process_any xl known _ _ _ R9.out (HK.out.below hB9 (Nat.le_refl _) hB9.size) HDX.out).mono ?_
        rw [HAG.out]
        rintro e w10 ⟨u10, rfl, hr10, hb10⟩
        have R10 := Lib.hid hr10
        have S10 := Lib.hid (R9.out.below hb10 (Nat.le_refl _) hb10.size)
        have hB10 : Below w.heap.size w w10 := (by repeat' (first | (with_reducible refine bset ?_ ?_) | (with_reducible exact Below.refl _ _) | (with_reducible assumption) | (with_reducible refine bdrewN ?_ _) | (with_reducible refine bdrew ?_) | (with_reducible refine balloc0 ?_) | (with_reducible refine balloc ?_ ?_) | (with_reducible apply btrans0; rotate_left; with_reducible assumption) | (with_reducible apply btrans; rotate_left; with_reducible assumption) | exact Below.refl _ _ | assumption | (apply btrans0; rotate_left; assumption) | (apply btrans; rotate_left; assumption) | (simp; done) | omega | (simp; omega)))
        obtain ⟨a10, c10, rfl, _⟩ := id hr10
        simp only at hr10 R10 ⊢
        clear hr10 hb10 hB9 R9
        go_wp2_with fail
        refine (same_any xl _ _ _ R10.out S10.out).mono ?_
        rintro e w11 ⟨rfl, hb11⟩
        have hB11 : Below w.heap.size w w11 := (by repeat' (first | (with_reducible refine bset ?_ ?_) | (with_reducible exact Below.refl _ _) | (with_reducible assumption) | (with_reducible refine bdrewN ?_ _) | (with_reducible refine bdrew ?_) | (with_reducible refine balloc0 ?_) | (with_reducible refine balloc ?_ ?_) | (with_reducible apply btrans0; rotate_left; with_reducible assumption) | (with_reducible apply btrans; rotate_left; with_reducible assumption) | exact Below.refl _ _ | assumption | (apply btrans0; rotate_left; assumption) | (apply btrans; rotate_left; assumption) | (simp; done) | omega | (simp; omega)))
        clear hb11 hB10
        go_wp2_with fail
        refine (awake_any _).mono ?_
        rintro e w9 ⟨rfl, hb9⟩
        go_wp2
        go_ret
        exact ⟨rfl, (by repeat' (first | (with_reducible refine bset ?_ ?_) | (with_reducible exact Below.refl _ _) | (with_reducible assumption) | (with_reducible refine bdrewN ?_ _) | (with_reducible refine bdrew ?_) | (with_reducible refine balloc0 ?_) | (with_reducible refine balloc ?_ ?_) | (with_reducible apply btrans0; rotate_left; with_reducible assumption) | (with_reducible apply btrans; rotate_left; with_reducible assumption) | exact Below.refl _ _ | assumption | (apply btrans0; rotate_left; assumption) | (apply btrans; rotate_left; assumption) | (simp; done) | omega | (simp; omega)))⟩

set_option maxRecDepth 100000 in
theorem lifted (os : Os) (started : os.Started) (H : Type) (enc : TypeId × Value → H) :
    ReturnsInHanded {} Try.checked os 3 .any (Rows.blockProcessSpec.pre6 enc Try.prog Try.f3 Rows.blockProcessRow.domain false) (Rows.blockProcessSpec.post enc Try.prog Try.f3 false true false false) := by
  refine returnsInHanded_of_change (C := Try.checked) own started (by kernel_rfl) Try.func3
    (ChangeSpec.witness6 (enc := enc) (C := Try.checked) false ⟨#[], #[.slice none 0 0, .slice none 0 0, .int .i64 0], []⟩ 8 (by kernel_rfl) (by kernel_rfl) (by kernel_rfl) (by kernel_rfl)) ?_
  intro W base args ds gs before hval0 hW hcnd _
  have hval : ∀ (j : Nat) t v, Try.f3.params[j]? = some t → args[j]? = some v → Value.okWide Try.prog W .any base t v := hval0
  have hW' := hW
  obtain ⟨p, q, hA0, hV, rfl, hfz, hnd⟩ := hW
  have hA : DataW.TrodAll enc Try.prog W 0 (fun _ => true) true Try.f3.params.toList args.toList ds p := hA0
  rw [Try.params3] at hA hval
  obtain ⟨v0, vs0, d0, ds0, p0, q0, hargs, rfl, rfl, h0, r0⟩ := trodAll_cons hA
  obtain ⟨v1, vs1, d1, ds1, p1, q1, rfl, rfl, rfl, h1, r1⟩ := trodAll_cons r0
  obtain ⟨v2, vs2, d2, ds2, p2, q2, rfl, rfl, rfl, h2, r2⟩ := trodAll_cons r1
  obtain ⟨rfl, rfl, rfl⟩ := trodAll_nil r2
  obtain rfl : args = #[v0, v1, v2] := by cases args; simp_all
  obtain ⟨x0, hr0, hd0⟩ := open_blks_arg (hval 0 22 v0 rfl rfl) h0
  obtain ⟨x1, hr1⟩ := open_ints_arg (hval 1 23 v1 rfl rfl) h1
  obtain ⟨x2, rfl, _, _, wx2⟩ := open_int Try.underlying3 (hval 2 3 v2 rfl rfl) h2
  refine (walk x0 v0 x1 v1 x2 W hr0 hd0 hr1).mono fun e W' ⟨he, hB⟩ => ?_
  subst he
  refine ⟨_, rfl, law_post (by kernel_rfl) (by kernel_rfl) rfl Try.underlying4 rfl ?_ hW' hB⟩
  intro es hes
  match es, hes with
  | [_, _, _], _ => rfl

theorem proved : Rows.BlockProcessSaid :=
  OpenClaim.holds_of_wide 3 Try.f3 rfl rfl rfl rfl rfl rfl rfl ⟨rfl, rfl, rfl, rfl, rfl⟩ rfl rfl rfl rfl rfl (by kernel_rfl) Try.func3 (by kernel_rfl)
    (of_decide_eq_true (by kernel_rfl)) (by unfold Func.isWrapper; first | (rw [if_pos (by decide +kernel)]; kernel_rfl) | (rw [if_neg (by decide +kernel)]; exact ⟨rfl, rfl⟩))
    (fun os started H enc _ => lifted os started H enc)
#print axioms proved
end Go.Proofs.Ytdnbegcebloodaa.blockProcess
