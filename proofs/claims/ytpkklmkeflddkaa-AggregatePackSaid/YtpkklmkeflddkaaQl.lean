/- Chapter 19, the reference: Pack. -/
import Derived.Test.YtpkklmkeflddkaaQk
import Derived.Test.YtpkklmkeflddkaaQj
import Derived.Test.YtpkklmkeflddkaaRT
import Derived.BigRegion
import Derived.BigQuiet
import Derived.Deep.DeepCutAuto
import Derived.Deep.CutBlock
set_option linter.unusedVariables false
set_option linter.unusedSimpArgs false
namespace Go.Proofs.Ytpkklmkeflddkaa
open Go Go.RowKit
attribute [local go_sem] B_getElem B_size B_app B_extract B_get B_toList

set_option maxRecDepth 100000 in
set_option maxHeartbeats 20000000 in
theorem rpack_any (l : List Int) (v : Value) (most : Int) (w : World) (h : RInts w w.heap.size v l) :
    Calls Try.prog 17 #[v, .int .i64 most] w (PackPost l most w) := by
  have HR := Lib.hid h
  obtain ⟨a, c, rfl, h1, h2, h3, h4⟩ := h
  unfold maxLen at h2
  have hlen : l.length ≤ 9223372036854775807 := by omega
  have H4 := Lib.hid h4
  clear h3 h4
  by_cases g1 : 1000 < l.length
  · have HP : packS l most = ([], 4) := if_pos g1
    have d1 : decide ((1000 : Int) < (l.length : Int)) = true := by rw [decide_eq_true_eq]; omega
    go_enter Try.func17, Try.ntmps17
    go_wp2
    go_ret2
    unfold PackPost
    rw [HP]
    exact ⟨_, rfl, (by repeat' (first | with_reducible (first | refine bset ?_ ?_ | exact Below.refl _ _ | assumption | refine bdrewN ?_ _ | refine bdrew ?_ | refine balloc0 ?_ | refine balloc ?_ ?_ | (apply btrans0; rotate_left; assumption) | (apply btrans; rotate_left; assumption)) | exact Below.refl _ _ | assumption | (apply btrans0; rotate_left; assumption) | (apply btrans; rotate_left; assumption) | (simp; done) | omega | (simp; omega))), ⟨[], OwnV.nil⟩⟩
  have d1 : decide ((1000 : Int) < (l.length : Int)) = false := by rw [decide_eq_false_iff_not]; omega
  by_cases g2 : most < 1
  · have HP : packS l most = ([], 2) := by unfold packS; rw [if_neg g1, if_pos (.inl g2)]
    have d2 : decide (most < 1) = true := decide_eq_true g2
    clear g1 g2
    go_enter Try.func17, Try.ntmps17
    go_wp2
    go_ret2
    unfold PackPost
    rw [HP]
    exact ⟨_, rfl, (by repeat' (first | with_reducible (first | refine bset ?_ ?_ | exact Below.refl _ _ | assumption | refine bdrewN ?_ _ | refine bdrew ?_ | refine balloc0 ?_ | refine balloc ?_ ?_ | (apply btrans0; rotate_left; assumption) | (apply btrans; rotate_left; assumption)) | exact Below.refl _ _ | assumption | (apply btrans0; rotate_left; assumption) | (apply btrans; rotate_left; assumption) | (simp; done) | omega | (simp; omega))), ⟨[], OwnV.nil⟩⟩
  have d2 : decide (most < 1) = false := decide_eq_false g2
  by_cases g3 : 1152921504606846976 < most
  · have HP : packS l most = ([], 2) := by unfold packS; rw [if_neg g1, if_pos (.inr (.inl g3))]
    have d3 : decide (1152921504606846976 < most) = true := decide_eq_true g3
    clear g1 g2 g3
    go_enter Try.func17, Try.ntmps17
    go_wp2
    go_ret2
    unfold PackPost
    rw [HP]
    exact ⟨_, rfl, (by repeat' (first | with_reducible (first | refine bset ?_ ?_ | exact Below.refl _ _ | assumption | refine bdrewN ?_ _ | refine bdrew ?_ | refine balloc0 ?_ | refine balloc ?_ ?_ | (apply btrans0; rotate_left; assumption) | (apply btrans; rotate_left; assumption)) | exact Below.refl _ _ | assumption | (apply btrans0; rotate_left; assumption) | (apply btrans; rotate_left; assumption) | (simp; done) | omega | (simp; omega))), ⟨[], OwnV.nil⟩⟩
  have d3 : decide (1152921504606846976 < most) = false := decide_eq_false g3
  have HP1 : Hid (packS l most = if l.any (fun n => decide (n < 1)) = true then ([], 2) else if l.any (fun n => decide (n > most)) = true then ([], 15) else ((packL most l 0 ([], [])).1, 0)) := Lib.hid (by
    unfold packS
    rw [if_neg g1]
    by_cases z : l.any (fun n => decide (n < 1)) = true
    · rw [if_pos (.inr (.inr z)), if_pos z]
    · rw [if_neg (by rintro (z1 | z1 | z1); exact g2 z1; exact g3 z1; exact z z1), if_neg z])
  have hl1000 : l.length ≤ 1000 := by omega
  have hm1 : 1 ≤ most := by omega
  have hm2 : most ≤ 1152921504606846976 := by omega
  clear g1 g2 g3
  go_enter Try.func17, Try.ntmps17
  go_wp2
  go_loopw [6] (fun i wr => ∃ k : Nat, k ≤ l.length ∧ i = .int .i64 k ∧ Hid (∀ x ∈ l.take k, 1 ≤ x) ∧ Hid (w = wr)) (fun i _ => l.length - (intOf i).toNat)
  case atStart => exact ⟨0, Nat.zero_le _, rfl, Lib.hid (by simp), Lib.hid (by simp)⟩
  case round =>
    obtain ⟨k, hk, rfl, HV, hwr0⟩ := hrel
    have hwr := hwr0.out
    subst hwr
    clear hwr0
    by_cases hlt : k < l.length
    · skip
      obtain ⟨bb, o, rfl, hbn, hcell⟩ := H4.out (by omega)
      obtain ⟨n, hn⟩ : ∃ x, l[k]? = some x := ⟨_, List.getElem?_eq_getElem hlt⟩
      have c1 := hcell k n hn
      have k0 : (0 : Int) ≤ (k : Int) := by omega
      have k1 : (k : Int) < (l.length : Int) := by omega
      have HX := Lib.hid hn
      clear hn hcell
      by_cases hz : n < 1
      · have HN : Hid (packS l most = ([], 2)) := Lib.hid (by rw [HP1.out, if_pos (List.any_eq_true.2 ⟨n, List.mem_of_getElem? HX.out, by simpa using hz⟩)])
        have dz : decide (n < 1) = true := decide_eq_true hz
        clear hz
        go_wp2
        go_ret2
        unfold PackPost
        rw [HN.out]
        exact ⟨_, rfl, Below.refl _ _, ⟨[], OwnV.nil⟩⟩
      · have dz : decide (n < 1) = false := decide_eq_false hz
        have HZ := Lib.hid hz
        clear hz
        go_wp2
        go_roundw
        case rel =>
          refine ⟨k + 1, by omega, by go_num, Lib.hid ?_, Lib.hid (by simp)⟩
          intro z hz
          rw [List.take_add_one, HX.out] at hz
          rcases List.mem_append.1 hz with hz | hz
          · exact HV.out z hz
          · simp at hz; subst hz; have := HZ.out; omega
        case measure => simp [intOf]; omega
    obtain rfl : k = l.length := by omega
    have H1 : Hid (∀ x ∈ l, 1 ≤ x) := Lib.hid (by have := HV.out; rwa [List.take_length] at this)
    have HP2 : Hid (packS l most = if l.any (fun n => decide (n > most)) = true then ([], 15) else ((packL most l 0 ([], [])).1, 0)) := Lib.hid (by
      rw [HP1.out, if_neg]
      intro z
      obtain ⟨y, hy, hy2⟩ := List.any_eq_true.1 z
      simp at hy2
      have := H1.out y hy
      omega)
    clear hk hlt HV
    go_wp2
    go_loopw [7] (fun i wr => ∃ k : Nat, k ≤ l.length ∧ i = .int .i64 k ∧ Hid (∀ x ∈ l.take k, x ≤ most) ∧ Hid (w = wr)) (fun i _ => l.length - (intOf i).toNat)
    case atStart => exact ⟨0, Nat.zero_le _, rfl, Lib.hid (by simp), Lib.hid (by simp)⟩
    case round =>
      obtain ⟨k, hk, rfl, HV, hwr0⟩ := hrel
      have hwr := hwr0.out
      subst hwr
      clear hwr0
      by_cases hlt : k < l.length
      · skip
        obtain ⟨bb, o, rfl, hbn, hcell⟩ := H4.out (by omega)
        obtain ⟨n, hn⟩ : ∃ x, l[k]? = some x := ⟨_, List.getElem?_eq_getElem hlt⟩
        have c1 := hcell k n hn
        have k0 : (0 : Int) ≤ (k : Int) := by omega
        have k1 : (k : Int) < (l.length : Int) := by omega
        have HX := Lib.hid hn
        clear hn hcell
        by_cases hz : n > most
        · have HN : Hid (packS l most = ([], 15)) := Lib.hid (by rw [HP2.out, if_pos (List.any_eq_true.2 ⟨n, List.mem_of_getElem? HX.out, by simpa using hz⟩)])
          have dz : decide (most < n) = true := decide_eq_true hz
          clear hz
          go_wp2
          go_ret2
          unfold PackPost
          rw [HN.out]
          exact ⟨_, rfl, Below.refl _ _, ⟨[], OwnV.nil⟩⟩
        · have dz : decide (most < n) = false := decide_eq_false hz
          have HZ := Lib.hid hz
          clear hz
          go_wp2
          go_roundw
          case rel =>
            refine ⟨k + 1, by omega, by go_num, Lib.hid ?_, Lib.hid (by simp)⟩
            intro z hz
            rw [List.take_add_one, HX.out] at hz
            rcases List.mem_append.1 hz with hz | hz
            · exact HV.out z hz
            · simp at hz; subst hz; have := HZ.out; omega
          case measure => simp [intOf]; omega
      obtain rfl : k = l.length := by omega
      have H2 : Hid (∀ x ∈ l, x ≤ most) := Lib.hid (by have := HV.out; rwa [List.take_length] at this)
      have HP0 : Hid (packS l most = ((packL most l 0 ([], [])).1, 0)) := Lib.hid (by
        rw [HP2.out, if_neg]
        intro z
        obtain ⟨y, hy, hy2⟩ := List.any_eq_true.1 z
        simp at hy2
        have := H2.out y hy
        omega)
      obtain ⟨R, hR⟩ : ∃ q, packL most l 0 ([], []) = q := ⟨_, rfl⟩
      rw [hR] at HP0
      have HRR := Lib.hid hR
      have HN : Hid (∀ n ∈ l, 1 ≤ n ∧ n ≤ most) := Lib.hid (fun n hn => ⟨H1.out n hn, H2.out n hn⟩)
      clear hk hlt HV hR HP1 HP2 H1 H2
      go_wp2
      go_loopw [8, 9, 10] (fun s8 s9 i wr => RLoop l most w R s8 s9 i wr) (fun _ _ i _ => l.length - (intOf i).toNat)
      case atStart => exact ⟨0, [], [], [], Nat.zero_le _, rfl, HRR.out, Nat.le_refl _, fun g hg => (by cases hg), rfl, fun s hs => (by cases hs), OwnV.nil, own_nil, fun i x q hx => (by simp at hx), Below.refl _ _⟩
      case round =>
        obtain ⟨k, gs, ss, vals, hk, rfl, hpk, hgk, hgl, hb⟩ := hrel
        obtain ⟨a6, c6, rfl⟩ := own_shape hb.out.1
        obtain ⟨a7, c7, rfl⟩ := own_shape hb.row
        have HPK := Lib.hid hpk
        have HGL0 := Lib.hid hgl
        have HBS := Lib.hid hb
        have hB := hb.below
        have HRM := Lib.hid hb.row
        have HGG := Lib.hid hb.len
        have zW := hB.size
        clear hpk hb hgl
        by_cases hlt : k < l.length
        · obtain ⟨bb, o, rfl, hbn, hcell⟩ := H4.out (by omega)
          obtain ⟨n, hn⟩ : ∃ x, l[k]? = some x := ⟨_, List.getElem?_eq_getElem hlt⟩
          have HC := Lib.hid (hcell k n hn)
          have c1 := (hB.cell (p := ⟨bb, o + k, none⟩) hbn).trans (hcell k n hn)
          have k0 : (0 : Int) ≤ (k : Int) := by omega
          have k1 : (k : Int) < (l.length : Int) := by omega
          have HX := Lib.hid hn
          have HNM := Lib.hid (HN.out n (List.mem_of_getElem? hn))
          clear hn hcell
          obtain ⟨w0, hw0⟩ : ∃ q, q = wr := ⟨_, rfl⟩
          subst hw0
          go_wp2
          go_loopw [11] (fun i wx => ∃ j : Nat, j ≤ ss.length ∧ i = .int .i64 j ∧ Hid (∀ x ∈ ss.take j, decide (x ≤ most - n) = false) ∧ Below w0.heap.size w0 wx) (fun i _ => ss.length - (intOf i).toNat)
          case atStart => exact ⟨0, Nat.zero_le _, rfl, Lib.hid (by simp), Below.refl _ _⟩
          case round =>
            obtain ⟨j, hj, rfl, HV, hwx⟩ := hrel
            have HBX := Lib.hid (HBS.out.step hwx)
            have c1x := (HBX.out.below.cell (p := ⟨bb, o + k, none⟩) hbn).trans HC.out
            have zx := HBX.out.below.size
            by_cases hjl : j < ss.length
            · obtain ⟨s, hs⟩ : ∃ s, ss[j]? = some s := ⟨_, List.getElem?_eq_getElem hjl⟩
              obtain ⟨g7, c7', he⟩ := own_form HBS.out.row (by omega)
              injection he with ea _ ec
              subst ea ec
              have c2 := HBX.out.row.cells (g := g7) rfl j (.int .i64 (most - s)) (by simp [ints, rooms, hs])
              rw [addN, Nat.zero_add] at c2
              have j0 : (0 : Int) ≤ (j : Int) := by omega
              have j1 : (j : Int) < (ss.length : Int) := by omega
              have dj : decide ((j : Int) < (ss.length : Int)) = true := decide_eq_true j1
              have HS := Lib.hid hs
              clear hs
              by_cases hf : most - s < n
              · have df : decide (most - s < n) = true := decide_eq_true hf
                have HF := Lib.hid hf
                clear hf
                go_upto_region 21 with fail
                go_quiet (fail)
                go_wp2
                go_roundw
                case rel =>
                  refine ⟨j + 1, by omega, by go_num, Lib.hid ?_, btrans0 hwx (by exact (by repeat' (first | with_reducible (first | refine bset ?_ ?_ | exact Below.refl _ _ | assumption | refine bdrewN ?_ _ | refine bdrew ?_ | refine balloc0 ?_ | refine balloc ?_ ?_ | (apply btrans0; rotate_left; assumption) | (apply btrans; rotate_left; assumption)) | exact Below.refl _ _ | assumption | (apply btrans0; rotate_left; assumption) | (apply btrans; rotate_left; assumption) | (simp; done) | omega | (simp; omega))))⟩
                  intro z hz
                  rw [List.take_add_one, HS.out] at hz
                  rcases List.mem_append.1 hz with hz | hz
                  · exact HV.out z hz
                  · simp at hz; subst hz; have := HF.out; rw [decide_eq_false_iff_not]; omega
                case measure => simp [intOf]; omega
              · have df : decide (most - s < n) = false := decide_eq_false hf
                have HF := Lib.hid hf
                have HF2 : Hid (∀ x, ss[j]? = some x → decide (x ≤ most - n) = true) := Lib.hid (fun x hx => by
                  rw [HS.out] at hx; cases hx
                  have := HF.out; rw [decide_eq_true_eq]; omega)
                clear hf
                have dm : ((j : Int) == (ss.length : Int)) = false := by rw [beq_eq_false_iff_ne]; omega
                go_upto_region 21 with fail
                go_quiet (fail)
                generalize hw4 : wr.drewN _ = w4
                have b4 : Below wr.heap.size wr w4 := by rw [← hw4]; exact (by repeat' (first | with_reducible (first | refine bset ?_ ?_ | exact Below.refl _ _ | assumption | refine bdrewN ?_ _ | refine bdrew ?_ | refine balloc0 ?_ | refine balloc ?_ ?_ | (apply btrans0; rotate_left; assumption) | (apply btrans; rotate_left; assumption)) | exact Below.refl _ _ | assumption | (apply btrans0; rotate_left; assumption) | (apply btrans; rotate_left; assumption) | (simp; done) | omega | (simp; omega)))
                have HB4 := Lib.hid (HBX.out.step b4)
                have z4 := b4.size
                clear hw4
                go_upto_region 26 with fail
                have hcut := rmid_old HX.out HPK.out hgk HGL0.out hjl HV.out HF2.out HB4.out
                clear c2 df dj dm j0 j1
                obtain ⟨q, gs', ss', vals', he, hq, hpk, hgk', hgl', hsn, hb'⟩ := hcut
                have hqe : q = j := by injection he with _ he; omega
                subst hqe
                have HGL1 := Lib.hid hgl'
                have HPK1 := Lib.hid hpk
                have HSN1 := Lib.hid hsn
                clear hgl' hpk hsn he HRM
                obtain ⟨w5, rfl⟩ : ∃ q, q = w4 := ⟨_, rfl⟩
                obtain ⟨g8, c8, e8⟩ := own_form hb'.row (by omega)
                obtain ⟨go, c9, e9⟩ := own_form hb'.out.1 (by rw [hb'.len]; omega)
                rw [e8] at hb' ⊢
                rw [e9] at hb' ⊢
                clear e8 e9
                obtain ⟨s, hs⟩ : ∃ s, ss'[q]? = some s := ⟨_, List.getElem?_eq_getElem hq⟩
                obtain ⟨x, g, hx, hg, hxo⟩ := hb'.out.at (k := q) (by rw [hb'.len]; exact hq)
                obtain ⟨ax, cx, rfl⟩ := own_shape hxo
                have HGL := Lib.hid (HGL1.out g (List.mem_of_getElem? hg))
                have q0 : (0 : Int) ≤ (q : Int) := by omega
                have q6 : (q : Int) < (gs'.length : Int) := by have := hb'.len; omega
                have q7 : (q : Int) < (ss'.length : Int) := by omega
                have c6r := hb'.out.1.cells (g := go) rfl q _ hx
                rw [addN, Nat.zero_add] at c6r
                have HB5 := Lib.hid hb'
                have z5 := hb'.below.size
                have HL5 := Lib.hid hb'.len
                have HSM5 := Lib.hid hb'.sums
                have c5 := (hb'.below.cell (p := ⟨bb, o + k, none⟩) hbn).trans HC.out
                obtain ⟨i0, hin, hz0, hz1, hz2⟩ := info_parts infoInt
                have hxo' : (w5.alloc (.cells #[.int .i64 k] 3)).ownsRow w.heap.size 3 1 (.slice ax g.length cx) g.length (ints g) := own_kept1 hxo (fun q hq => Below.heap_alloc _ _ _ (hxo.lt q hq).2)
                clear hb' c1 c1x
                go_wp2_with (at_builtin; refine wpList_append_F _ rfl _ _ _ rfl w.heap.size 3 i0 _ 1 8 Try.underlying36 hin hz0 hz1 hz2 rfl (by omega) (.slice ax g.length cx) g.length (ints g) rfl hxo' ⟨w5.heap.size, 0, none⟩ 1 1 [.int .i64 k] rfl rfl (news_one heap_new) (by simp [Value.oneCell']) (by have := HGL.out; simp only [maxLen]; omega) (by have := HGL.out; omega) (by simp; omega) (by omega) ?_; intro x' w8 ho8 hg8 hf8; obtain ⟨ax', cx', rfl⟩ := own_shape ho8; obtain ⟨hO9, hS9, hD9, hB9, h67, m6, n6⟩ := rmid_half hq HB5.out hs hx hg ho8 hg8 hf8; clear ho8 hg8 hf8)
                generalize w8.setCell ⟨go, q, none⟩ _ = w9 at *
                have c7r := hS9.cells (g := g8) rfl q (.int .i64 (most - s)) (by simp [ints, rooms, hs])
                rw [addN, Nat.zero_add] at c7r
                have f7r := hS9.frozenAt q
                have c9r := (hB9.cell (p := ⟨bb, o + k, none⟩) hbn).trans HC.out
                clear c5 c6r m6 n6
                refine wp_region_tree (fun V => V.cell? ⟨g8, q, none⟩ = some (.int .i64 (most - s)) ∧ V.cell? ⟨bb, o + k, none⟩ = some (.int .i64 n)) [0, 0, 0, 0, 0, 1, 0, 0, 0, 1, 0, 0, 3] (.go 0 (.go 1 (.go 2 (.go 3 (.go 4 (.go 5 (.go 6 (.go 7 (.go 8 (.go 9 (.go 10 (.go 11 (.go 12 (.fin)))))))))))))) (by kernel_rfl) (by kernel_rfl) ?_ ?_
                case refine_1 => exact ⟨c7r, c9r⟩
                (iterate 12 (refine tree_held rfl (by decide) (by rfl) (fun w1 hS => by (try (obtain ⟨_, _⟩ := hS rfl)); go_simp; rfl) ?_; (try simp only [Act.put, List.setIfInBounds_toArray, List.set_cons_zero, List.set_cons_succ])))
                refine tree_late rfl rfl (by rfl) (fun K hK => ?_)
                go_simp
                refine hK _ _ ?_
                clear hK K
                (try simp only [Act.put, List.setIfInBounds_toArray, List.set_cons_zero, List.set_cons_succ])
                refine tree_fin ?_
                go_wp2
                go_roundw
                case measure => simp [intOf]; omega
                case rel =>
                  have hs0 := HSM5.out s (List.mem_of_getElem? hs)
                  have hsn := HSN1.out s hs
                  have hnm := HNM.out
                  rw [show wrap64 (most - s - n) = most - s - n by unfold wrap64; omega]
                  exact (rmid_end hlt HPK1.out hgk' HGL1.out hq hnm.1 HL5.out HSM5.out hs hsn hg hO9 hS9 hD9 hB9 h67).drew
            · have dj : decide ((j : Int) < (ss.length : Int)) = false := by rw [decide_eq_false_iff_not]; omega
              obtain rfl : j = ss.length := by omega
              have dm : ((ss.length : Int) == (ss.length : Int)) = true := by simp
              obtain ⟨i0, hin, hz0, hz1, hz2⟩ := info_parts infoInt
              obtain ⟨i1, hjn, hj0, hj1, hj2⟩ := info_parts infoInts
              have HALL : Hid (∀ x ∈ ss, decide (x ≤ most - n) = false) := Lib.hid (by have := HV.out; rwa [List.take_length] at this)
              go_upto_region 21 with fail
              go_quiet (fail)
              generalize hw4 : wr.drewN _ = w4
              have b4 : Below wr.heap.size wr w4 := by rw [← hw4]; exact (by repeat' (first | with_reducible (first | refine bset ?_ ?_ | exact Below.refl _ _ | assumption | refine bdrewN ?_ _ | refine bdrew ?_ | refine balloc0 ?_ | refine balloc ?_ ?_ | (apply btrans0; rotate_left; assumption) | (apply btrans; rotate_left; assumption)) | exact Below.refl _ _ | assumption | (apply btrans0; rotate_left; assumption) | (apply btrans; rotate_left; assumption) | (simp; done) | omega | (simp; omega)))
              have HB4 := Lib.hid (HBX.out.step b4)
              have z4 := b4.size
              clear hw4
              go_upto_region 26 with (first | (at_builtin; refine wpList_append_F _ rfl _ _ _ rfl w.heap.size 36 i1 _ 1 24 Try.underlying37 hjn hj0 hj1 hj2 rfl (by omega) _ gs.length vals rfl (own_kept1 HB4.out.out.1 (fun q hq => Below.heap_alloc _ _ _ (HB4.out.out.1.lt q hq).2)) ⟨w4.heap.size, 0, none⟩ 1 1 [.slice none 0 0] rfl rfl (news_one heap_new) (by simp [Value.oneCell']) (by have := HGG.out; simp only [maxLen]; omega) (by have := HGG.out; omega) (by simp; omega) (by omega) ?_; intro v5 w5 hO5 hg5 hf5) | (at_builtin; refine wpList_append_F _ rfl _ _ _ rfl w.heap.size 3 i0 _ 1 8 Try.underlying36 hin hz0 hz1 hz2 rfl (by omega) _ ss.length (ints (rooms most ss)) rfl (rmid_row HB4.out hg5) ⟨w5.heap.size, 0, none⟩ 1 1 [.int .i64 most] rfl rfl (news_one heap_new) (by simp [Value.oneCell']) (by simp only [maxLen]; omega) (by omega) (by have := hg5.size; simp at this; simp; omega) (by omega) ?_; intro v6 w6 hO6 hg6 hf6))
              have hcut := rmid_new HX.out HPK.out hgk HGL0.out HNM.out HALL.out HB4.out hO5 hg5 hO6 hg6 hf6
              clear hO5 hg5 hf5 hO6 hg6 hf6 dj dm i0 hin hz0 hz1 hz2 i1 hjn hj0 hj1 hj2
              obtain ⟨q, gs', ss', vals', he, hq, hpk, hgk', hgl', hsn, hb'⟩ := hcut
              have hqe : q = ss.length := by injection he with _ he; omega
              subst hqe
              have HGL1 := Lib.hid hgl'
              have HPK1 := Lib.hid hpk
              have HSN1 := Lib.hid hsn
              clear hgl' hpk hsn he HRM
              obtain ⟨w5, rfl⟩ : ∃ q, q = w6 := ⟨_, rfl⟩
              obtain ⟨g8, c8, e8⟩ := own_form hb'.row (by omega)
              obtain ⟨go, c9, e9⟩ := own_form hb'.out.1 (by rw [hb'.len]; omega)
              rw [e8] at hb' ⊢
              rw [e9] at hb' ⊢
              clear e8 e9
              obtain ⟨s, hs⟩ : ∃ s, ss'[ss.length]? = some s := ⟨_, List.getElem?_eq_getElem hq⟩
              obtain ⟨x, g, hx, hg, hxo⟩ := hb'.out.at (k := ss.length) (by rw [hb'.len]; exact hq)
              obtain ⟨ax, cx, rfl⟩ := own_shape hxo
              have HGL := Lib.hid (HGL1.out g (List.mem_of_getElem? hg))
              have q0 : (0 : Int) ≤ (ss.length : Int) := by omega
              have q6 : (ss.length : Int) < (gs'.length : Int) := by have := hb'.len; omega
              have q7 : (ss.length : Int) < (ss'.length : Int) := by omega
              have c6r := hb'.out.1.cells (g := go) rfl ss.length _ hx
              rw [addN, Nat.zero_add] at c6r
              have HB5 := Lib.hid hb'
              have z5 := hb'.below.size
              have HL5 := Lib.hid hb'.len
              have HSM5 := Lib.hid hb'.sums
              have c5 := (hb'.below.cell (p := ⟨bb, o + k, none⟩) hbn).trans HC.out
              obtain ⟨i0, hin, hz0, hz1, hz2⟩ := info_parts infoInt
              have hxo' : (w5.alloc (.cells #[.int .i64 k] 3)).ownsRow w.heap.size 3 1 (.slice ax g.length cx) g.length (ints g) := own_kept1 hxo (fun q hq => Below.heap_alloc _ _ _ (hxo.lt q hq).2)
              clear hb' c1 c1x
              go_wp2_with (at_builtin; refine wpList_append_F _ rfl _ _ _ rfl w.heap.size 3 i0 _ 1 8 Try.underlying36 hin hz0 hz1 hz2 rfl (by omega) (.slice ax g.length cx) g.length (ints g) rfl hxo' ⟨w5.heap.size, 0, none⟩ 1 1 [.int .i64 k] rfl rfl (news_one heap_new) (by simp [Value.oneCell']) (by have := HGL.out; simp only [maxLen]; omega) (by have := HGL.out; omega) (by simp; omega) (by omega) ?_; intro x' w8 ho8 hg8 hf8; obtain ⟨ax', cx', rfl⟩ := own_shape ho8; obtain ⟨hO9, hS9, hD9, hB9, h67, m6, n6⟩ := rmid_half hq HB5.out hs hx hg ho8 hg8 hf8; clear ho8 hg8 hf8)
              generalize w8.setCell ⟨go, ss.length, none⟩ _ = w9 at *
              have c7r := hS9.cells (g := g8) rfl ss.length (.int .i64 (most - s)) (by simp [ints, rooms, hs])
              rw [addN, Nat.zero_add] at c7r
              have f7r := hS9.frozenAt ss.length
              have c9r := (hB9.cell (p := ⟨bb, o + k, none⟩) hbn).trans HC.out
              clear c5 c6r m6 n6
              refine wp_region_tree (fun V => V.cell? ⟨g8, ss.length, none⟩ = some (.int .i64 (most - s)) ∧ V.cell? ⟨bb, o + k, none⟩ = some (.int .i64 n)) [0, 0, 0, 0, 0, 1, 0, 0, 0, 1, 0, 0, 3] (.go 0 (.go 1 (.go 2 (.go 3 (.go 4 (.go 5 (.go 6 (.go 7 (.go 8 (.go 9 (.go 10 (.go 11 (.go 12 (.fin)))))))))))))) (by kernel_rfl) (by kernel_rfl) ?_ ?_
              case refine_1 => exact ⟨c7r, c9r⟩
              (iterate 12 (refine tree_held rfl (by decide) (by rfl) (fun w1 hS => by (try (obtain ⟨_, _⟩ := hS rfl)); go_simp; rfl) ?_; (try simp only [Act.put, List.setIfInBounds_toArray, List.set_cons_zero, List.set_cons_succ])))
              refine tree_late rfl rfl (by rfl) (fun K hK => ?_)
              go_simp
              refine hK _ _ ?_
              clear hK K
              (try simp only [Act.put, List.setIfInBounds_toArray, List.set_cons_zero, List.set_cons_succ])
              refine tree_fin ?_
              go_wp2
              go_roundw
              case measure => simp [intOf]; omega
              case rel =>
                have hs0 := HSM5.out s (List.mem_of_getElem? hs)
                have hsn := HSN1.out s hs
                have hnm := HNM.out
                rw [show wrap64 (most - s - n) = most - s - n by unfold wrap64; omega]
                exact (rmid_end hlt HPK1.out hgk' HGL1.out hq hnm.1 HL5.out HSM5.out hs hsn hg hO9 hS9 hD9 hB9 h67).drew
        · obtain rfl : k = l.length := by omega
          go_wp2
          go_ret2
          unfold PackPost
          rw [HP0.out]
          have hR := HPK.out
          rw [List.drop_length] at hR
          exact ⟨_, rfl, hB, ⟨vals, by rw [← hR]; exact HBS.out.out⟩⟩
end Go.Proofs.Ytpkklmkeflddkaa
