/- Chapter 19, the reference: Groups. -/
import Derived.Test.YtpkklmkeflddkaaGreatRl
set_option linter.unusedVariables false
set_option linter.unusedSimpArgs false
namespace Go.Proofs.YtpkklmkeflddkaaGreat
open Go Go.RowKit
attribute [local go_sem] B_getElem B_size B_app B_extract B_get B_toList

set_option maxRecDepth 100000 in
set_option maxHeartbeats 16000000 in
theorem rgroups_any (l : List Bun) (v : Value) (most : Int) (w : World) (h : RBuns w w.heap.size v l) (hf : ∀ x ∈ l, Fits x) :
    Calls Tryz.prog 9 #[v, .int .i64 most] w (GroupsPost l most w) := by
  have HR := Lib.hid h
  have HF := Lib.hid hf
  obtain ⟨a, c, rfl, h1, h2, h3, h4⟩ := h
  unfold maxLen at h2
  have hlen : l.length ≤ 9223372036854775807 := by omega
  have H4 := Lib.hid h4
  clear h3 h4 hf
  by_cases g1 : 64 < l.length
  · have HP : Hid (grS l most = ([], 4)) := Lib.hid (if_pos g1)
    have d1 : decide ((64 : Int) < (l.length : Int)) = true := by rw [decide_eq_true_eq]; omega
    go_enter Tryz.func9, Tryz.ntmps9
    go_wp2
    go_ret2
    unfold GroupsPost
    rw [HP.out]
    exact ⟨_, rfl, (by repeat' (first | with_reducible (first | refine bset ?_ ?_ | exact Below.refl _ _ | assumption | refine bdrewN ?_ _ | refine bdrew ?_ | refine balloc0 ?_ | refine balloc ?_ ?_ | (apply btrans0; rotate_left; assumption) | (apply btrans; rotate_left; assumption)) | exact Below.refl _ _ | assumption | (apply btrans0; rotate_left; assumption) | (apply btrans; rotate_left; assumption) | (simp; done) | omega | (simp; omega))), ⟨[], OwnV.nil⟩⟩
  have d1 : decide ((64 : Int) < (l.length : Int)) = false := by rw [decide_eq_false_iff_not]; omega
  have HL64 := Lib.hid g1
  have hl64 : l.length ≤ 64 := by omega
  obtain ⟨i0, hin, hz0, hz1, hz2⟩ := info_parts infoInt
  obtain ⟨i1, hjn, hj0, hj1, hj2⟩ := info_parts infoInts
  clear g1
  go_enter Tryz.func9, Tryz.ntmps9
  go_wp2
  go_loopw [6] (fun i wr => ∃ k : Nat, k ≤ l.length ∧ i = .int .i64 k ∧ Hid (∀ x ∈ l.take k, chkE x = 0) ∧ Below w.heap.size w wr) (fun i _ => l.length - (intOf i).toNat)
  case atStart => exact ⟨0, Nat.zero_le _, rfl, Lib.hid (by simp), Below.refl _ _⟩
  case round =>
    obtain ⟨k, hk, rfl, HV, hB⟩ := hrel
    by_cases hlt : k < l.length
    · skip
      obtain ⟨bb, o, rfl, hbn, hcell⟩ := H4.out (by omega)
      obtain ⟨x, hx⟩ : ∃ x, l[k]? = some x := ⟨_, List.getElem?_eq_getElem hlt⟩
      obtain ⟨ux, hc, hub⟩ := hcell k x hx
      have q0 : wr.cell? ⟨bb, o + k * 12, none⟩ = some (.int .i64 x.src) := (hB.cell (p := ⟨bb, o + k * 12 + 0, none⟩) hbn).trans (hc 0 _ rfl)
      have q1 : wr.cell? ⟨bb, o + k * 12 + 1, none⟩ = some (.int .i64 x.crt) := (hB.cell (p := ⟨bb, o + k * 12 + 1, none⟩) hbn).trans (hc 1 _ rfl)
      have q2 : wr.cell? ⟨bb, o + k * 12 + 2, none⟩ = some (.int .i64 x.seq) := (hB.cell (p := ⟨bb, o + k * 12 + 2, none⟩) hbn).trans (hc 2 _ rfl)
      have q3 : wr.cell? ⟨bb, o + k * 12 + 3, none⟩ = some (.int .i64 x.off) := (hB.cell (p := ⟨bb, o + k * 12 + 3, none⟩) hbn).trans (hc 3 _ rfl)
      have q4 : wr.cell? ⟨bb, o + k * 12 + 4, none⟩ = some (.int .i64 x.tot) := (hB.cell (p := ⟨bb, o + k * 12 + 4, none⟩) hbn).trans (hc 4 _ rfl)
      have q5 : wr.cell? ⟨bb, o + k * 12 + 5, none⟩ = some (.int .i64 x.dk) := (hB.cell (p := ⟨bb, o + k * 12 + 5, none⟩) hbn).trans (hc 5 _ rfl)
      have q6 : wr.cell? ⟨bb, o + k * 12 + 6, none⟩ = some (.int .i64 x.dn) := (hB.cell (p := ⟨bb, o + k * 12 + 6, none⟩) hbn).trans (hc 6 _ rfl)
      have q7 : wr.cell? ⟨bb, o + k * 12 + 7, none⟩ = some (.int .i64 x.life) := (hB.cell (p := ⟨bb, o + k * 12 + 7, none⟩) hbn).trans (hc 7 _ rfl)
      have q8 : wr.cell? ⟨bb, o + k * 12 + 8, none⟩ = some (.int .i64 x.prio) := (hB.cell (p := ⟨bb, o + k * 12 + 8, none⟩) hbn).trans (hc 8 _ rfl)
      have q9 : wr.cell? ⟨bb, o + k * 12 + 9, none⟩ = some (.int .i64 x.flags) := (hB.cell (p := ⟨bb, o + k * 12 + 9, none⟩) hbn).trans (hc 9 _ rfl)
      have q10 : wr.cell? ⟨bb, o + k * 12 + 10, none⟩ = some (ux) := (hB.cell (p := ⟨bb, o + k * 12 + 10, none⟩) hbn).trans (hc 10 _ rfl)
      have q11 : wr.cell? ⟨bb, o + k * 12 + 11, none⟩ = some (.string (B x.payload)) := (hB.cell (p := ⟨bb, o + k * 12 + 11, none⟩) hbn).trans (hc 11 _ rfl)
      have HUB := Lib.hid (hub.below hB (Nat.le_refl _) hB.size)
      obtain ⟨xa, xc, rfl, _⟩ := id hub
      have k0 : (0 : Int) ≤ (k : Int) := by omega
      have k1 : (k : Int) < (l.length : Int) := by omega
      have HX := Lib.hid hx
      have hsz := hB.size
      clear hc hub hx hcell
      have HFX := Lib.hid (HF.out x (List.mem_of_getElem? HX.out))
      obtain ⟨E, hE⟩ : ∃ q, chkE x = q := ⟨_, rfl⟩
      have HE := Lib.hid hE
      by_cases hz : E = 0
      case neg =>
        have HP : Hid (grS l most = ([], 1)) := Lib.hid (by unfold grS; rw [if_neg HL64.out, if_pos (any_of (List.mem_of_getElem? HX.out) (by simp [hE, hz]))])
        have hz2 : (E != 0) = true := by rw [bne_iff_ne]; exact hz
        clear hE hz
        go_wp2_with fail
        refine (rcheck_any x _ _ HUB.out HFX.out).mono ?_
        rw [HE.out]
        rintro e w2 ⟨rfl, hb2⟩
        have hB2 : Below w.heap.size w w2 := btrans0 hB hb2
        go_wp2
        go_ret2
        unfold GroupsPost
        rw [HP.out]
        exact ⟨_, rfl, (by repeat' (first | with_reducible (first | refine bset ?_ ?_ | exact Below.refl _ _ | assumption | refine bdrewN ?_ _ | refine bdrew ?_ | refine balloc0 ?_ | refine balloc ?_ ?_ | (apply btrans0; rotate_left; assumption) | (apply btrans; rotate_left; assumption)) | exact Below.refl _ _ | assumption | (apply btrans0; rotate_left; assumption) | (apply btrans; rotate_left; assumption) | (simp; done) | omega | (simp; omega))), ⟨[], OwnV.nil⟩⟩
      subst hz
      clear hE
      go_wp2_with fail
      refine (rcheck_any x _ _ HUB.out HFX.out).mono ?_
      rw [HE.out]
      rintro e w2 ⟨rfl, hb2⟩
      have hB2 : Below w.heap.size w w2 := btrans0 hB hb2
      go_wp2
      go_roundw
      case rel =>
        refine ⟨k + 1, by omega, by go_num, Lib.hid ?_, hB2⟩
        intro z hz
        rw [List.take_add_one, HX.out] at hz
        rcases List.mem_append.1 hz with hz | hz
        · exact HV.out z hz
        · simp at hz; subst hz; exact HE.out
      case measure => simp [intOf]; omega
    obtain rfl : k = l.length := by omega
    have HALLA : Hid (∀ x ∈ l, chkE x = 0) := Lib.hid (by have := HV.out; rwa [List.take_length] at this)
    clear hk hlt HV
    obtain ⟨w1, rfl⟩ : ∃ q, q = wr := ⟨_, rfl⟩
    have hB1 := hB
    clear hB
    have HAN1 : Hid (l.any (fun x => chkE x != 0) = false) := Lib.hid (any_no (fun x hx => by simp [HALLA.out x hx]))
    go_wp2
    go_loopw [7] (fun i wr => ∃ k : Nat, k ≤ l.length ∧ i = .int .i64 k ∧ Hid (∀ x ∈ l.take k, joinedB x = false) ∧ Below w.heap.size w wr) (fun i _ => l.length - (intOf i).toNat)
    case atStart => exact ⟨0, Nat.zero_le _, rfl, Lib.hid (by simp), hB1⟩
    case round =>
      obtain ⟨k, hk, rfl, HV, hB⟩ := hrel
      by_cases hlt : k < l.length
      · skip
        obtain ⟨bb, o, rfl, hbn, hcell⟩ := H4.out (by omega)
        obtain ⟨x, hx⟩ : ∃ x, l[k]? = some x := ⟨_, List.getElem?_eq_getElem hlt⟩
        obtain ⟨ux, hc, hub⟩ := hcell k x hx
        have q0 : wr.cell? ⟨bb, o + k * 12, none⟩ = some (.int .i64 x.src) := (hB.cell (p := ⟨bb, o + k * 12 + 0, none⟩) hbn).trans (hc 0 _ rfl)
        have q1 : wr.cell? ⟨bb, o + k * 12 + 1, none⟩ = some (.int .i64 x.crt) := (hB.cell (p := ⟨bb, o + k * 12 + 1, none⟩) hbn).trans (hc 1 _ rfl)
        have q2 : wr.cell? ⟨bb, o + k * 12 + 2, none⟩ = some (.int .i64 x.seq) := (hB.cell (p := ⟨bb, o + k * 12 + 2, none⟩) hbn).trans (hc 2 _ rfl)
        have q3 : wr.cell? ⟨bb, o + k * 12 + 3, none⟩ = some (.int .i64 x.off) := (hB.cell (p := ⟨bb, o + k * 12 + 3, none⟩) hbn).trans (hc 3 _ rfl)
        have q4 : wr.cell? ⟨bb, o + k * 12 + 4, none⟩ = some (.int .i64 x.tot) := (hB.cell (p := ⟨bb, o + k * 12 + 4, none⟩) hbn).trans (hc 4 _ rfl)
        have q5 : wr.cell? ⟨bb, o + k * 12 + 5, none⟩ = some (.int .i64 x.dk) := (hB.cell (p := ⟨bb, o + k * 12 + 5, none⟩) hbn).trans (hc 5 _ rfl)
        have q6 : wr.cell? ⟨bb, o + k * 12 + 6, none⟩ = some (.int .i64 x.dn) := (hB.cell (p := ⟨bb, o + k * 12 + 6, none⟩) hbn).trans (hc 6 _ rfl)
        have q7 : wr.cell? ⟨bb, o + k * 12 + 7, none⟩ = some (.int .i64 x.life) := (hB.cell (p := ⟨bb, o + k * 12 + 7, none⟩) hbn).trans (hc 7 _ rfl)
        have q8 : wr.cell? ⟨bb, o + k * 12 + 8, none⟩ = some (.int .i64 x.prio) := (hB.cell (p := ⟨bb, o + k * 12 + 8, none⟩) hbn).trans (hc 8 _ rfl)
        have q9 : wr.cell? ⟨bb, o + k * 12 + 9, none⟩ = some (.int .i64 x.flags) := (hB.cell (p := ⟨bb, o + k * 12 + 9, none⟩) hbn).trans (hc 9 _ rfl)
        have q10 : wr.cell? ⟨bb, o + k * 12 + 10, none⟩ = some (ux) := (hB.cell (p := ⟨bb, o + k * 12 + 10, none⟩) hbn).trans (hc 10 _ rfl)
        have q11 : wr.cell? ⟨bb, o + k * 12 + 11, none⟩ = some (.string (B x.payload)) := (hB.cell (p := ⟨bb, o + k * 12 + 11, none⟩) hbn).trans (hc 11 _ rfl)
        have HUB := Lib.hid (hub.below hB (Nat.le_refl _) hB.size)
        obtain ⟨xa, xc, rfl, _⟩ := id hub
        have k0 : (0 : Int) ≤ (k : Int) := by omega
        have k1 : (k : Int) < (l.length : Int) := by omega
        have HX := Lib.hid hx
        have hsz := hB.size
        clear hc hub hx hcell
        have HFX := Lib.hid (HF.out x (List.mem_of_getElem? HX.out))
        have hxv := HALLA.out x (List.mem_of_getElem? HX.out)
        have HXV := Lib.hid hxv
        obtain ⟨E, hE⟩ : ∃ q, joinedB x = q := ⟨_, rfl⟩
        have HE := Lib.hid hE
        clear hxv
        cases E with
        | true =>
          have HP : Hid (grS l most = ([], 8)) := Lib.hid (by unfold grS; rw [if_neg HL64.out, if_neg (by rw [HAN1.out]; simp), if_pos (any_of (List.mem_of_getElem? HX.out) hE)])
          clear hE
          go_wp2_with fail
          refine (flagged_any x _ _ HUB.out HXV.out).mono ?_
          rw [HE.out]
          rintro e w2 ⟨rfl, hb2⟩
          have hB2 : Below w.heap.size w w2 := btrans0 hB hb2
          go_wp2
          go_ret2
          unfold GroupsPost
          rw [HP.out]
          exact ⟨_, rfl, (by repeat' (first | with_reducible (first | refine bset ?_ ?_ | exact Below.refl _ _ | assumption | refine bdrewN ?_ _ | refine bdrew ?_ | refine balloc0 ?_ | refine balloc ?_ ?_ | (apply btrans0; rotate_left; assumption) | (apply btrans; rotate_left; assumption)) | exact Below.refl _ _ | assumption | (apply btrans0; rotate_left; assumption) | (apply btrans; rotate_left; assumption) | (simp; done) | omega | (simp; omega))), ⟨[], OwnV.nil⟩⟩
        | false =>
          clear hE
          go_wp2_with fail
          refine (flagged_any x _ _ HUB.out HXV.out).mono ?_
          rw [HE.out]
          rintro e w2 ⟨rfl, hb2⟩
          have hB2 : Below w.heap.size w w2 := btrans0 hB hb2
          go_wp2
          go_roundw
          case rel =>
            refine ⟨k + 1, by omega, by go_num, Lib.hid ?_, hB2⟩
            intro z hz
            rw [List.take_add_one, HX.out] at hz
            rcases List.mem_append.1 hz with hz | hz
            · exact HV.out z hz
            · simp at hz; subst hz; exact HE.out
          case measure => simp [intOf]; omega
      obtain rfl : k = l.length := by omega
      have HALLB : Hid (∀ x ∈ l, joinedB x = false) := Lib.hid (by have := HV.out; rwa [List.take_length] at this)
      clear hk hlt HV
      obtain ⟨w1, rfl⟩ : ∃ q, q = wr := ⟨_, rfl⟩
      have hB1 := hB
      clear hB
      have HAN2 : Hid (l.any joinedB = false) := Lib.hid (any_no HALLB.out)
      by_cases g2 : most < 1
      · have HP : Hid (grS l most = ([], 2)) := Lib.hid (by unfold grS; rw [if_neg HL64.out, if_neg (by rw [HAN1.out]; simp), if_neg (by rw [HAN2.out]; simp), if_pos (.inl g2)])
        have d2 : decide (most < 1) = true := decide_eq_true g2
        clear g2
        go_wp2
        go_ret2
        unfold GroupsPost
        rw [HP.out]
        exact ⟨_, rfl, (by repeat' (first | with_reducible (first | refine bset ?_ ?_ | exact Below.refl _ _ | assumption | refine bdrewN ?_ _ | refine bdrew ?_ | refine balloc0 ?_ | refine balloc ?_ ?_ | (apply btrans0; rotate_left; assumption) | (apply btrans; rotate_left; assumption)) | exact Below.refl _ _ | assumption | (apply btrans0; rotate_left; assumption) | (apply btrans; rotate_left; assumption) | (simp; done) | omega | (simp; omega))), ⟨[], OwnV.nil⟩⟩
      have d2 : decide (most < 1) = false := decide_eq_false g2
      by_cases g3 : 4096 < most
      · have HP : Hid (grS l most = ([], 2)) := Lib.hid (by unfold grS; rw [if_neg HL64.out, if_neg (by rw [HAN1.out]; simp), if_neg (by rw [HAN2.out]; simp), if_pos (.inr g3)])
        have d3 : decide (4096 < most) = true := decide_eq_true g3
        clear g2 g3
        go_wp2
        go_ret2
        unfold GroupsPost
        rw [HP.out]
        exact ⟨_, rfl, (by repeat' (first | with_reducible (first | refine bset ?_ ?_ | exact Below.refl _ _ | assumption | refine bdrewN ?_ _ | refine bdrew ?_ | refine balloc0 ?_ | refine balloc ?_ ?_ | (apply btrans0; rotate_left; assumption) | (apply btrans; rotate_left; assumption)) | exact Below.refl _ _ | assumption | (apply btrans0; rotate_left; assumption) | (apply btrans; rotate_left; assumption) | (simp; done) | omega | (simp; omega))), ⟨[], OwnV.nil⟩⟩
      have d3 : decide (4096 < most) = false := decide_eq_false g3
      have HP0 : Hid (grS l most = ((groupL most l 0 ([], [])).1, 0)) := Lib.hid (by unfold grS; rw [if_neg HL64.out, if_neg (by rw [HAN1.out]; simp), if_neg (by rw [HAN2.out]; simp), if_neg (by omega)])
      obtain ⟨R, hR⟩ : ∃ q, groupL most l 0 ([], []) = q := ⟨_, rfl⟩
      rw [hR] at HP0
      have HRR := Lib.hid hR
      clear hR g2 g3 HAN1 HAN2 HALLA HALLB
      go_wp2
      go_loopw [8, 9] (fun s8 i wr => QLoop l most w R s8 i wr) (fun _ i _ => l.length - (intOf i).toNat)
      case atStart => exact ⟨0, [], [], Nat.zero_le _, rfl, HRR.out, Nat.le_refl _, fun g hg => (by cases hg), fun g hg => (by cases hg), OwnV.nil, hB1⟩
      case round =>
        obtain ⟨k, gs, vals, hk, rfl, hpk, hgk, hgl, hidx, hb⟩ := hrel
        obtain ⟨a6, c6, rfl⟩ := own_shape hb.out.1
        have HPK := Lib.hid hpk
        have HGL := Lib.hid hgl
        have HIX := Lib.hid hidx
        have HBS := Lib.hid hb
        have hB := hb.below
        have zW := hB.size
        clear hpk hb hgl hidx
        by_cases hlt : k < l.length
        · obtain ⟨x, hxl⟩ : ∃ x, l[k]? = some x := ⟨_, List.getElem?_eq_getElem hlt⟩
          have HX := Lib.hid hxl
          have hgk64 : gs.length ≤ 64 := by omega
          clear hxl
          obtain ⟨w0, hw0⟩ : ∃ q, q = wr := ⟨_, rfl⟩
          subst hw0
          go_wp2
          go_loopw [10] (fun i wx => ∃ j : Nat, j ≤ gs.length ∧ i = .int .i64 j ∧ Hid (∀ y ∈ gs.take j, fitB most x (pick l y) = false) ∧ Below w0.heap.size w0 wx) (fun i _ => gs.length - (intOf i).toNat)
          case atStart => exact ⟨0, Nat.zero_le _, rfl, Lib.hid (by simp), Below.refl _ _⟩
          case round =>
            obtain ⟨j, hj, rfl, HV, hwx⟩ := hrel
            have HBX := Lib.hid (HBS.out.step hwx)
            have zx := HBX.out.below.size
            have hBx := HBX.out.below
            by_cases hjl : j < gs.length
            · obtain ⟨g6, c6', he⟩ := own_form HBS.out.out.1 (by omega)
              injection he with ea _ ec
              subst ea ec
              obtain ⟨xv, g, hxv, hg, hxo⟩ := HBX.out.out.at (k := j) hjl
              obtain ⟨ax, cx, rfl⟩ := own_shape hxo
              have c2 := HBX.out.out.1.cells (g := g6) rfl j _ hxv
              rw [addN, Nat.zero_add] at c2
              have HRG : Hid (RInts wr wr.heap.size (.slice ax g.length cx) g) := Lib.hid (RInts.of_own hxo)
              have HGI : Hid (∀ i ∈ g, 0 ≤ i ∧ i < (l.length : Int)) := Lib.hid (fun i hi => by have := HIX.out g (List.mem_of_getElem? hg) i hi; omega)
              have hg64 : g.length ≤ 64 := by have := HGL.out g (List.mem_of_getElem? hg); omega
              have j0 : (0 : Int) ≤ (j : Int) := by omega
              have j1 : (j : Int) < (gs.length : Int) := by omega
              have dj : decide ((j : Int) < (gs.length : Int)) = true := decide_eq_true j1
              have HGJ := Lib.hid hg
              obtain ⟨E, hE⟩ : ∃ q, fitB most x (pick l g) = q := ⟨_, rfl⟩
              have HE := Lib.hid hE
              clear hxv hg hxo hE
              cases E with
              | false =>
                go_wp2_with fail
                refine (rfits_any l _ g _ k x most _ (HR.out.below'' hBx) HF.out HRG.out HGI.out HX.out hg64).mono ?_
                rw [HE.out]
                rintro e w3 ⟨rfl, hb3⟩
                have hw3 : Below w0.heap.size w0 w3 := btrans0 hwx hb3
                clear hb3
                go_wp2
                refine ⟨⟨j + 1, by omega, by go_num, Lib.hid ?_, hw3⟩, by simp [intOf]; omega⟩
                intro z hz
                rw [List.take_add_one, HGJ.out] at hz
                rcases List.mem_append.1 hz with hz | hz
                · exact HV.out z hz
                · simp at hz; subst hz; exact HE.out
              | true =>
                have dm : ((j : Int) == (gs.length : Int)) = false := by rw [beq_eq_false_iff_ne]; omega
                go_wp2_with fail
                refine (rfits_any l _ g _ k x most _ (HR.out.below'' hBx) HF.out HRG.out HGI.out HX.out hg64).mono ?_
                rw [HE.out]
                rintro e w3 ⟨rfl, hb3⟩
                have HB3 := Lib.hid (HBX.out.step hb3)
                have hmid : QMid l most w R k x j (.slice (some ⟨g6, 0, none⟩) gs.length c6) w3 := ⟨gs, vals, hjl, rg_old HX.out HPK.out hjl HV.out (fun y hy => by rw [HGJ.out] at hy; cases hy; exact HE.out), by omega, HGL.out, HIX.out, HB3.out⟩
                clear hb3 c2 dj
                go_upto_region 24 with fail
                obtain ⟨gs', vals', hq, hpk', hgk', hgl', hidx', hb'⟩ := hmid
                have HG1 := Lib.hid hgl'
                have HPK1 := Lib.hid hpk'
                have HIX1 := Lib.hid hidx'
                clear hgl' hpk' hidx'
                obtain ⟨w5, rfl⟩ : ∃ q, q = w3 := ⟨_, rfl⟩
                obtain ⟨go, c9, e9⟩ := own_form hb'.out.1 (by omega)
                rw [e9] at hb' ⊢
                clear e9
                obtain ⟨xv, g, hx, hg, hxo⟩ := hb'.out.at (k := j) hq
                obtain ⟨ax, cx, rfl⟩ := own_shape hxo
                have hgl9 := HG1.out g (List.mem_of_getElem? hg)
                have q0 : (0 : Int) ≤ (j : Int) := by omega
                have q6 : (j : Int) < (gs'.length : Int) := by omega
                have c6r := hb'.out.1.cells (g := go) rfl j _ hx
                rw [addN, Nat.zero_add] at c6r
                have HB5 := Lib.hid hb'
                have z5 := hb'.below.size
                have hxo' : (w5.alloc (.cells #[.int .i64 k] 3)).ownsRow w.heap.size 3 1 (.slice ax g.length cx) g.length (ints g) := own_kept1 hxo (fun q hq => Below.heap_alloc _ _ _ (hxo.lt q hq).2)
                have HXO := Lib.hid hxo'
                have HHX := Lib.hid hx
                have HHG := Lib.hid hg
                clear hb' hxo hxo' hx hg
                go_wp2_with (at_builtin; refine wpList_append_F _ rfl _ _ _ rfl w.heap.size 3 i0 _ 1 8 Tryz.underlying43 hin hz0 hz1 hz2 rfl (by omega) (.slice ax g.length cx) g.length (ints g) rfl HXO.out ⟨w5.heap.size, 0, none⟩ 1 1 [.int .i64 k] rfl rfl (news_one heap_new) (by simp [Value.oneCell']) (by simp only [maxLen]; omega) (by omega) (by simp; omega) (by omega) ?_; intro x' w8 ho8 hg8 hf8; obtain ⟨ax', cx', rfl⟩ := own_shape ho8; obtain ⟨m6, n6⟩ := qstore HB5.out HHX.out hg8; have HO8 := Lib.hid ho8; have HG8 := Lib.hid hg8; have HF8 := Lib.hid hf8; clear ho8 hg8 hf8)
                refine ⟨?_, by simp [intOf]; omega⟩
                exact qmid_end hlt HX.out HPK1.out hgk' HG1.out HIX1.out HB5.out HHX.out HHG.out HO8.out HG8.out HF8.out
            · obtain rfl : j = gs.length := by omega
              have dj : decide ((gs.length : Int) < (gs.length : Int)) = false := by rw [decide_eq_false_iff_not]; omega
              have dm : ((gs.length : Int) == (gs.length : Int)) = true := by simp
              have HALLN : Hid (∀ y ∈ gs, fitB most x (pick l y) = false) := Lib.hid (by have := HV.out; rwa [List.take_length] at this)
              go_upto_region 24 with (at_builtin; refine wpList_append_F _ rfl _ _ _ rfl w.heap.size 43 i1 _ 1 24 Tryz.underlying35 hjn hj0 hj1 hj2 rfl (by omega) _ gs.length vals rfl (own_kept1 HBX.out.out.1 (fun q hq => Below.heap_alloc _ _ _ (HBX.out.out.1.lt q hq).2)) ⟨wr.heap.size, 0, none⟩ 1 1 [.slice none 0 0] rfl rfl (news_one heap_new) (by simp [Value.oneCell']) (by simp only [maxLen]; omega) (by omega) (by simp; omega) (by omega) ?_; intro v5 w5 hO5 hg5 hf5)
              have hmid := qmid_new HX.out HPK.out hgk HGL.out HIX.out HALLN.out HBX.out hO5 hg5
              clear hO5 hg5 hf5 dj dm
              obtain ⟨gs', vals', hq, hpk', hgk', hgl', hidx', hb'⟩ := hmid
              have HG1 := Lib.hid hgl'
              have HPK1 := Lib.hid hpk'
              have HIX1 := Lib.hid hidx'
              clear hgl' hpk' hidx'
              obtain ⟨go, c9, e9⟩ := own_form hb'.out.1 (by omega)
              rw [e9] at hb' ⊢
              clear e9
              obtain ⟨xv, g, hx, hg, hxo⟩ := hb'.out.at (k := gs.length) hq
              obtain ⟨ax, cx, rfl⟩ := own_shape hxo
              have hgl9 := HG1.out g (List.mem_of_getElem? hg)
              have q0 : (0 : Int) ≤ (gs.length : Int) := by omega
              have q6 : (gs.length : Int) < (gs'.length : Int) := by omega
              have c6r := hb'.out.1.cells (g := go) rfl gs.length _ hx
              rw [addN, Nat.zero_add] at c6r
              have HB5 := Lib.hid hb'
              have z5 := hb'.below.size
              have hxo' : (w5.alloc (.cells #[.int .i64 k] 3)).ownsRow w.heap.size 3 1 (.slice ax g.length cx) g.length (ints g) := own_kept1 hxo (fun q hq => Below.heap_alloc _ _ _ (hxo.lt q hq).2)
              have HXO := Lib.hid hxo'
              have HHX := Lib.hid hx
              have HHG := Lib.hid hg
              clear hb' hxo hxo' hx hg
              go_wp2_with (at_builtin; refine wpList_append_F _ rfl _ _ _ rfl w.heap.size 3 i0 _ 1 8 Tryz.underlying43 hin hz0 hz1 hz2 rfl (by omega) (.slice ax g.length cx) g.length (ints g) rfl HXO.out ⟨w5.heap.size, 0, none⟩ 1 1 [.int .i64 k] rfl rfl (news_one heap_new) (by simp [Value.oneCell']) (by simp only [maxLen]; omega) (by omega) (by simp; omega) (by omega) ?_; intro x' w8 ho8 hg8 hf8; obtain ⟨ax', cx', rfl⟩ := own_shape ho8; obtain ⟨m6, n6⟩ := qstore HB5.out HHX.out hg8; have HO8 := Lib.hid ho8; have HG8 := Lib.hid hg8; have HF8 := Lib.hid hf8; clear ho8 hg8 hf8)
              refine ⟨?_, by simp [intOf]; omega⟩
              exact qmid_end hlt HX.out HPK1.out hgk' HG1.out HIX1.out HB5.out HHX.out HHG.out HO8.out HG8.out HF8.out
        · obtain rfl : k = l.length := by omega
          have HO : Hid (OwnG wr w.heap.size (.slice a6 gs.length c6) (grS l most).1) := Lib.hid (by
            have h := HPK.out
            rw [List.drop_length] at h
            rw [HP0.out, ← h]
            exact ⟨vals, HBS.out.out⟩)
          have HP1 : Hid ((grS l most).2 = 0) := Lib.hid (by rw [HP0.out])
          go_wp2
          go_ret2
          unfold GroupsPost
          rw [HP1.out]
          exact ⟨_, rfl, hB, HO.out⟩
end Go.Proofs.YtpkklmkeflddkaaGreat
