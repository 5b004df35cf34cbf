/-
  Proved: mailboatlaw19.AggregateLifetimes returns true for every input, and leaves its arguments as they were. No condition.
-/
import Derived.Test.YtpkklmkeflddkaaRows
import Derived.Test.YtpkklmkeflddkaaJa
import Derived.Test.YtpkklmkeflddkaaJn
import Derived.Test.YtpkklmkeflddkaaQd
import Derived.Test.YtpkklmkeflddkaaQu
import Derived.Test.YtpkklmkeflddkaaQw
set_option linter.unusedVariables false
set_option linter.unusedSimpArgs false
namespace Go.Proofs.Ytpkklmkeflddkaa.aggregateLifetimes
open Go Go.ChangeShapes Go.WideShapes Go.ChangeAt Go.RowKit Go.Joins Go.Proofs.Ytpkklmkeflddkaa
attribute [local go_sem] B_getElem B_size B_app B_extract B_get B_toList

theorem own : ownKnob Try.prog.godebug = none := by kernel_rfl

attribute [local go_sem] Oper.semAt_some
attribute [local go_sem ↓] neEndI
theorem _root_.Go.Proofs.Ytpkklmkeflddkaa.join_err {l : List Bun} {seq : Int} {b : Bun} {e : Int} (h : joinS l seq = (b, e)) (he : e ≠ 0) : b = zBun := by
  unfold joinS at h
  split at h
  · injection h with h _; exact h.symm
  split at h
  · injection h with h _; exact h.symm
  split at h
  · injection h with h _; exact h.symm
  split at h
  · injection h with h _; exact h.symm
  split at h
  · injection h with h _; exact h.symm
  · injection h with _ h; exact absurd h.symm he
set_option maxRecDepth 100000 in
set_option maxHeartbeats 16000000 in
theorem walk (l : List Bun) (v : Value) (seq : Int) (w : World) (hr : RBuns w w.heap.size v l) (hf : ∀ x ∈ l, Fits x) :
    Calls Try.prog 7 #[v, .int .i64 seq] w (Says w) := by
  obtain ⟨a, c, rfl, _⟩ := id hr
  have HR := Lib.hid hr
  have HF := Lib.hid hf
  clear hr hf
  obtain ⟨⟨b, E⟩, hj⟩ : ∃ q, joinS l seq = q := ⟨_, rfl⟩
  have HJ := Lib.hid hj
  by_cases hE : E = 0
  case neg =>
    have dE : (E != 0) = true := by simpa using hE
    have hb := join_err hj hE
    subst hb
    clear hj hE
    go_enter Try.func7, Try.ntmps7
    go_wp2_with fail
    refine (greatAll_any l _ _ (HR.out.below'' (by repeat' (first | with_reducible (first | refine bset ?_ ?_ | exact Below.refl _ _ | assumption | refine bdrewN ?_ _ | refine bdrew ?_ | refine balloc0 ?_ | refine balloc ?_ ?_ | (apply btrans0; rotate_left; assumption) | (apply btrans; rotate_left; assumption)) | exact Below.refl _ _ | assumption | (apply btrans0; rotate_left; assumption) | (apply btrans; rotate_left; assumption) | (simp; done) | omega | (simp; omega)))) HF.out).mono ?_
    rintro e w1 ⟨g, rfl, hb1, hg1⟩
    cases g
    case true =>
      go_wp2_with fail
      refine (awake_any _).mono ?_
      rintro e w99 ⟨rfl, hb99⟩
      go_wp2
      go_ret
      exact ⟨rfl, (by repeat' (first | with_reducible (first | refine bset ?_ ?_ | exact Below.refl _ _ | assumption | refine bdrewN ?_ _ | refine bdrew ?_ | refine balloc0 ?_ | refine balloc ?_ ?_ | (apply btrans0; rotate_left; assumption) | (apply btrans; rotate_left; assumption)) | exact Below.refl _ _ | assumption | (apply btrans0; rotate_left; assumption) | (apply btrans; rotate_left; assumption) | (simp; done) | omega | (simp; omega)))⟩
    have hl : l.length ≤ 20000 := by have := hg1 rfl; omega
    have hB1 : Below w.heap.size w w1 := (by repeat' (first | with_reducible (first | refine bset ?_ ?_ | exact Below.refl _ _ | assumption | refine bdrewN ?_ _ | refine bdrew ?_ | refine balloc0 ?_ | refine balloc ?_ ?_ | (apply btrans0; rotate_left; assumption) | (apply btrans; rotate_left; assumption)) | exact Below.refl _ _ | assumption | (apply btrans0; rotate_left; assumption) | (apply btrans; rotate_left; assumption) | (simp; done) | omega | (simp; omega)))
    clear hg1
    go_wp2_with fail
    refine (join_any l _ seq _ (HR.out.below'' (by repeat' (first | with_reducible (first | refine bset ?_ ?_ | exact Below.refl _ _ | assumption | refine bdrewN ?_ _ | refine bdrew ?_ | refine balloc0 ?_ | refine balloc ?_ ?_ | (apply btrans0; rotate_left; assumption) | (apply btrans; rotate_left; assumption)) | exact Below.refl _ _ | assumption | (apply btrans0; rotate_left; assumption) | (apply btrans; rotate_left; assumption) | (simp; done) | omega | (simp; omega)))) HF.out hl).mono ?_
    unfold JoinPost
    rw [HJ.out]
    rintro e w2 ⟨rfl, hb2⟩
    simp only [bunC]
    have hB2 : Below w.heap.size w w2 := (by repeat' (first | with_reducible (first | refine bset ?_ ?_ | exact Below.refl _ _ | assumption | refine bdrewN ?_ _ | refine bdrew ?_ | refine balloc0 ?_ | refine balloc ?_ ?_ | (apply btrans0; rotate_left; assumption) | (apply btrans; rotate_left; assumption)) | exact Below.refl _ _ | assumption | (apply btrans0; rotate_left; assumption) | (apply btrans; rotate_left; assumption) | (simp; done) | omega | (simp; omega)))
    have hs12 := hb2.size
    simp only [zBun]
    go_wp2_with fail
    refine (awake_any _).mono ?_
    rintro e w99 ⟨rfl, hb99⟩
    go_wp2
    go_ret
    exact ⟨rfl, (by repeat' (first | with_reducible (first | refine bset ?_ ?_ | exact Below.refl _ _ | assumption | refine bdrewN ?_ _ | refine bdrew ?_ | refine balloc0 ?_ | refine balloc ?_ ?_ | (apply btrans0; rotate_left; assumption) | (apply btrans; rotate_left; assumption)) | exact Below.refl _ _ | assumption | (apply btrans0; rotate_left; assumption) | (apply btrans; rotate_left; assumption) | (simp; done) | omega | (simp; omega)))⟩
  subst hE
  have HV := Lib.hid (fits_valid (join_valid hj).1)
  have HVC := Lib.hid (join_valid hj).1
  have HXP := Lib.hid (join_exp hj)
  obtain ⟨y, r, hyr, hall, m1, m2, m3, m4, m5, m6, hbe⟩ := join_facts hj
  have hbl : b.blocks = [] := by rw [hbe]
  have hbc : b.crt = crtS l := by rw [hbe]
  have hbf : b.flags = joinF l := by rw [hbe]
  have HBL := Lib.hid hbl
  have HBC := Lib.hid hbc
  have HALL := Lib.hid hall
  have aB : bits .and .i64 b.flags 1 = if l.any custB = true then 1 else 0 := by
    rw [hbf]
    unfold joinF
    cases l.any custB <;> decide
  have HAB := Lib.hid aB
  obtain ⟨a', c', hae, h1, h2, h3, h4⟩ := HR.out
  injection hae with hae _ hce
  subst hae hce
  unfold maxLen at h2
  have hlen : l.length ≤ 9223372036854775807 := by omega
  have H4 := Lib.hid h4
  clear hj hbl hbc hbf hbe hall aB h3 h4 hyr m1 m2 m3 m4 m5 m6
  go_enter Try.func7, Try.ntmps7
  go_wp2_with fail
  refine (greatAll_any l _ _ (HR.out.below'' (by repeat' (first | with_reducible (first | refine bset ?_ ?_ | exact Below.refl _ _ | assumption | refine bdrewN ?_ _ | refine bdrew ?_ | refine balloc0 ?_ | refine balloc ?_ ?_ | (apply btrans0; rotate_left; assumption) | (apply btrans; rotate_left; assumption)) | exact Below.refl _ _ | assumption | (apply btrans0; rotate_left; assumption) | (apply btrans; rotate_left; assumption) | (simp; done) | omega | (simp; omega)))) HF.out).mono ?_
  rintro e w1 ⟨g, rfl, hb1, hg1⟩
  cases g
  case true =>
    go_wp2_with fail
    refine (awake_any _).mono ?_
    rintro e w99 ⟨rfl, hb99⟩
    go_wp2
    go_ret
    exact ⟨rfl, (by repeat' (first | with_reducible (first | refine bset ?_ ?_ | exact Below.refl _ _ | assumption | refine bdrewN ?_ _ | refine bdrew ?_ | refine balloc0 ?_ | refine balloc ?_ ?_ | (apply btrans0; rotate_left; assumption) | (apply btrans; rotate_left; assumption)) | exact Below.refl _ _ | assumption | (apply btrans0; rotate_left; assumption) | (apply btrans; rotate_left; assumption) | (simp; done) | omega | (simp; omega)))⟩
  have hl : l.length ≤ 20000 := by have := hg1 rfl; omega
  have hB1 : Below w.heap.size w w1 := (by repeat' (first | with_reducible (first | refine bset ?_ ?_ | exact Below.refl _ _ | assumption | refine bdrewN ?_ _ | refine bdrew ?_ | refine balloc0 ?_ | refine balloc ?_ ?_ | (apply btrans0; rotate_left; assumption) | (apply btrans; rotate_left; assumption)) | exact Below.refl _ _ | assumption | (apply btrans0; rotate_left; assumption) | (apply btrans; rotate_left; assumption) | (simp; done) | omega | (simp; omega)))
  clear hg1
  go_wp2_with fail
  refine (join_any l _ seq _ (HR.out.below'' (by repeat' (first | with_reducible (first | refine bset ?_ ?_ | exact Below.refl _ _ | assumption | refine bdrewN ?_ _ | refine bdrew ?_ | refine balloc0 ?_ | refine balloc ?_ ?_ | (apply btrans0; rotate_left; assumption) | (apply btrans; rotate_left; assumption)) | exact Below.refl _ _ | assumption | (apply btrans0; rotate_left; assumption) | (apply btrans; rotate_left; assumption) | (simp; done) | omega | (simp; omega)))) HF.out hl).mono ?_
  unfold JoinPost
  rw [HJ.out]
  rintro e w2 ⟨rfl, hb2⟩
  simp only [bunC]
  have hB2 : Below w.heap.size w w2 := (by repeat' (first | with_reducible (first | refine bset ?_ ?_ | exact Below.refl _ _ | assumption | refine bdrewN ?_ _ | refine bdrew ?_ | refine balloc0 ?_ | refine balloc ?_ ?_ | (apply btrans0; rotate_left; assumption) | (apply btrans; rotate_left; assumption)) | exact Below.refl _ _ | assumption | (apply btrans0; rotate_left; assumption) | (apply btrans; rotate_left; assumption) | (simp; done) | omega | (simp; omega)))
  have hs12 := hb2.size
  go_wp2
  go_loopw [7, 8, 9, 26] (fun cr en cu i wr => ∃ (k : Nat) (C E : Int) (CU : Bool), k ≤ l.length ∧ cr = .int .i64 C ∧ en = .int .i64 E ∧ cu = .bool CU ∧ i = .int .i64 k ∧ Hid (C = crtS (l.take k)) ∧ Hid (E = endS (l.take k)) ∧ Hid (CU = (l.take k).any custB) ∧ Below w.heap.size w wr ∧ Hid (wr.heap[w2.heap.size]? = some (.cells (bunC b (.slice none 0 0)).toArray 28 (0, 0))) ∧ w2.heap.size < wr.heap.size) (fun _ _ _ i _ => l.length - (intOf i).toNat)
  case atStart => exact ⟨0, 0, 1099511627776, false, Nat.zero_le _, rfl, rfl, rfl, rfl, Lib.hid (by simp [crtS]), Lib.hid (by simp [endS]), Lib.hid (by simp), balloc0 hB2, Lib.hid heap_new, by simp⟩
  case round =>
    obtain ⟨k, C, E, CU, hk, rfl, rfl, rfl, rfl, HC, HE, HCU, hB, HBX, hz2⟩ := hrel
    by_cases hlt : k < l.length
    · skip
      obtain ⟨bb, o, rfl, hbn, hcell⟩ := H4.out (by omega)
      obtain ⟨x, hx⟩ : ∃ x, l[k]? = some x := ⟨_, List.getElem?_eq_getElem hlt⟩
      obtain ⟨ux, hc, hub⟩ := hcell k x hx
      have q0 : wr.cell? ⟨bb, o + k * 12, none⟩ = some (.int .i64 x.src) := (hB.cell (p := ⟨bb, o + k * 12 + 0, none⟩) hbn).trans (hc 0 _ rfl)
      have q1 : wr.cell? ⟨bb, o + k * 12 + 1, none⟩ = some (.int .i64 x.crt) := (hB.cell (p := ⟨bb, o + k * 12 + 1, none⟩) hbn).trans (hc 1 _ rfl)
      have q2 : wr.cell? ⟨bb, o + k * 12 + 2, none⟩ = some (.int .i64 x.seq) := (hB.cell (p := ⟨bb, o + k * 12 + 2, none⟩) hbn).trans (hc 2 _ rfl)
      have q3 : wr.cell? ⟨bb, o + k * 12 + 3, none⟩ = some (.int .i64 x.off) := (hB.cell (p := ⟨bb, o + k * 12 + 3, none⟩) hbn).trans (hc 3 _ rfl)
      have q4 : wr.cell? ⟨bb, o + k * 12 + 4, none⟩ = some (.int .i64 x.tot) := (hB.cell (p := ⟨bb, o + k * 12 + 4, none⟩) hbn).trans (hc 4 _ rfl)
      have q5 : wr.cell? ⟨bb, o + k * 12 + 5, none⟩ = some (.int .i64 x.dk) := (hB.cell (p := ⟨bb, o + k * 12 + 5, none⟩) hbn).trans (hc 5 _ rfl)
      have q6 : wr.cell? ⟨bb, o + k * 12 + 6, none⟩ = some (.int .i64 x.dn) := (hB.cell (p := ⟨bb, o + k * 12 + 6, none⟩) hbn).trans (hc 6 _ rfl)
      have q7 : wr.cell? ⟨bb, o + k * 12 + 7, none⟩ = some (.int .i64 x.life) := (hB.cell (p := ⟨bb, o + k * 12 + 7, none⟩) hbn).trans (hc 7 _ rfl)
      have q8 : wr.cell? ⟨bb, o + k * 12 + 8, none⟩ = some (.int .i64 x.prio) := (hB.cell (p := ⟨bb, o + k * 12 + 8, none⟩) hbn).trans (hc 8 _ rfl)
      have q9 : wr.cell? ⟨bb, o + k * 12 + 9, none⟩ = some (.int .i64 x.flags) := (hB.cell (p := ⟨bb, o + k * 12 + 9, none⟩) hbn).trans (hc 9 _ rfl)
      have q10 : wr.cell? ⟨bb, o + k * 12 + 10, none⟩ = some (ux) := (hB.cell (p := ⟨bb, o + k * 12 + 10, none⟩) hbn).trans (hc 10 _ rfl)
      have q11 : wr.cell? ⟨bb, o + k * 12 + 11, none⟩ = some (.string (B x.payload)) := (hB.cell (p := ⟨bb, o + k * 12 + 11, none⟩) hbn).trans (hc 11 _ rfl)
      have HUB := Lib.hid (hub.below hB (Nat.le_refl _) hB.size)
      obtain ⟨xa, xc, rfl, _⟩ := id hub
      have k0 : (0 : Int) ≤ (k : Int) := by omega
      have k1 : (k : Int) < (l.length : Int) := by omega
      have HX := Lib.hid hx
      have hsz := hB.size
      have hxm := List.mem_of_getElem? hx
      have hfl := chk_flags (HALL.out x hxm)
      obtain ⟨F, hF⟩ : ∃ q, hasF x.flags 1 = q := ⟨_, rfl⟩
      have aF := and_one x.flags hfl.1 hfl.2
      rw [hF] at aF
      have HCX : Hid (custB x = F) := Lib.hid hF
      clear hc hub hx hcell hF hfl
      have HFX := Lib.hid (HF.out x hxm)
      clear hxm
      have HC2 := Lib.hid (crtS_step HX.out)
      have HE2 := Lib.hid (endS_step HX.out)
      have HA2 : Hid ((l.take (k + 1)).any custB = ((l.take k).any custB || custB x)) := Lib.hid (by rw [List.take_add_one, HX.out]; simp)
      obtain ⟨X, hX⟩ : ∃ q, expS x = q := ⟨_, rfl⟩
      have HEX := Lib.hid hX
      clear hX
      go_wp2
      have AC : (wr.alloc (.cells (bunC x (.slice xa x.blocks.length xc)).toArray 28)).heap[wr.heap.size]? = some (.cells (bunC x (.slice xa x.blocks.length xc)).toArray 28 (0, 0)) := heap_new
      have B9 : Below w.heap.size w (wr.alloc (.cells (bunC x (.slice xa x.blocks.length xc)).toArray 28)) := balloc0 hB
      have R9 := HUB.out.below' (balloc0 (o := .cells (bunC x (.slice xa x.blocks.length xc)).toArray 28) (Below.refl _ _))
      have z9 : wr.heap.size < (wr.alloc (.cells (bunC x (.slice xa x.blocks.length xc)).toArray 28)).heap.size := by simp
      have J9 : (wr.alloc (.cells (bunC x (.slice xa x.blocks.length xc)).toArray 28)).heap[w2.heap.size]? = some (.cells (bunC b (.slice none 0 0)).toArray 28 (0, 0)) := (Below.heap_alloc _ _ _ (by omega)).trans HBX.out
      simp only [bunC] at AC B9 R9 z9 J9
      generalize wr.alloc (.cells _ _) = W9 at *
      have HX9 := Lib.hid R9
      have HJ9 : Hid (W9.heap[w2.heap.size]? = some (.cells (bunC b (.slice none 0 0)).toArray 28 (0, 0))) := Lib.hid J9
      have cc := fun o => cellB AC o
      have HAC := Lib.hid AC
      clear R9 AC J9
      cases CU with
      | true =>
        refine wp_region_plan (fun V => Below (W9).heap.size (W9) V) [0, 0, 0, 1, 0, 0, 1, 2, 0, 0, 0, 0, 1, 0, 0, 0, 0, 0, 0] [0, 1, 2, 3, 4, 5, 6, 9, 7, 8, 10, 11, 12, 13, 14, 15, 16, 17, 18] (by kernel_rfl) (by kernel_rfl) ?_ ?_
        case refine_1 => exact (by repeat' (first | with_reducible (first | refine bset ?_ ?_ | exact Below.refl _ _ | assumption | refine bdrewN ?_ _ | refine bdrew ?_ | refine balloc0 ?_ | refine balloc ?_ ?_ | (apply btrans0; rotate_left; assumption) | (apply btrans; rotate_left; assumption)) | exact Below.refl _ _ | assumption | (apply btrans0; rotate_left; assumption) | (apply btrans; rotate_left; assumption) | (simp; done) | omega | (simp; omega)))
        (iterate 8 (first | (refine plan_held rfl (by decide) (by rfl) (fun w1 hS => by (try (obtain ⟨_, _⟩ := bcell (hS rfl))); go_simp; rfl) ?_; simp only [Act.put, List.setIfInBounds_toArray, List.set_cons_zero, List.set_cons_succ]) | (refine plan_skip rfl (by decide) (by rfl) ?_; simp only [Act.put, List.setIfInBounds_toArray, List.set_cons_zero, List.set_cons_succ])))
        (refine plan_keep rfl rfl (by rfl) (fun K hK => ?_); go_simp)
        refine (expires_any x _ _ (HX9.out.below' (by repeat' (first | with_reducible (first | refine bset ?_ ?_ | exact Below.refl _ _ | assumption | refine bdrewN ?_ _ | refine bdrew ?_ | refine balloc0 ?_ | refine balloc ?_ ?_ | (apply btrans0; rotate_left; assumption) | (apply btrans; rotate_left; assumption)) | exact Below.refl _ _ | assumption | (apply btrans0; rotate_left; assumption) | (apply btrans; rotate_left; assumption) | (simp; done) | omega | (simp; omega)))) HFX.out).mono ?_
        rw [HEX.out]
        rintro e wc37 ⟨rfl, hbc37⟩
        (refine hK _ _ (by exact (by repeat' (first | with_reducible (first | refine bset ?_ ?_ | exact Below.refl _ _ | assumption | refine bdrewN ?_ _ | refine bdrew ?_ | refine balloc0 ?_ | refine balloc ?_ ?_ | (apply btrans0; rotate_left; assumption) | (apply btrans; rotate_left; assumption)) | exact Below.refl _ _ | assumption | (apply btrans0; rotate_left; assumption) | (apply btrans; rotate_left; assumption) | (simp; done) | omega | (simp; omega)))) ?_; clear hK K; (try simp only [Act.put, List.setIfInBounds_toArray, List.set_cons_zero, List.set_cons_succ]))
        (iterate 10 (first | (refine plan_held rfl (by decide) (by rfl) (fun w1 hS => by (try (obtain ⟨_, _⟩ := bcell (hS rfl))); go_simp; rfl) ?_; simp only [Act.put, List.setIfInBounds_toArray, List.set_cons_zero, List.set_cons_succ]) | (refine plan_skip rfl (by decide) (by rfl) ?_; simp only [Act.put, List.setIfInBounds_toArray, List.set_cons_zero, List.set_cons_succ])))
        refine plan_done ?_
        go_wp2
        go_roundw
        case rel =>
          refine ⟨k + 1, _, _, true, by omega, rfl, rfl, rfl, by go_num, Lib.hid ?_, Lib.hid ?_, Lib.hid ?_, (by repeat' (first | with_reducible (first | refine bset ?_ ?_ | exact Below.refl _ _ | assumption | refine bdrewN ?_ _ | refine bdrew ?_ | refine balloc0 ?_ | refine balloc ?_ ?_ | (apply btrans0; rotate_left; assumption) | (apply btrans; rotate_left; assumption)) | exact Below.refl _ _ | assumption | (apply btrans0; rotate_left; assumption) | (apply btrans; rotate_left; assumption) | (simp; done) | omega | (simp; omega))), Lib.hid ?_, ?_⟩
          · rw [HC2.out, ← HC.out]
          · rw [HE2.out, ← HE.out, HEX.out]
          · rw [HA2.out, ← HCU.out]; simp [HCX.out]
          · exact (hbc37.block _ (by simp; omega)).trans HJ9.out
          · have := hbc37.size; simp at this; omega
        case measure => simp [intOf]; omega
      | false =>
        cases F
        all_goals
          simp only [if_true, if_false, Bool.false_eq_true] at aF
          refine wp_region_plan (fun V => Below (W9).heap.size (W9) V) [0, 0, 0, 1, 0, 0, 1, 2, 0, 0, 0, 0, 1, 0, 0, 0, 0, 0, 0] [0, 1, 2, 3, 4, 5, 6, 9, 7, 8, 10, 11, 12, 13, 14, 15, 16, 17, 18] (by kernel_rfl) (by kernel_rfl) ?_ ?_
          case refine_1 => exact (by repeat' (first | with_reducible (first | refine bset ?_ ?_ | exact Below.refl _ _ | assumption | refine bdrewN ?_ _ | refine bdrew ?_ | refine balloc0 ?_ | refine balloc ?_ ?_ | (apply btrans0; rotate_left; assumption) | (apply btrans; rotate_left; assumption)) | exact Below.refl _ _ | assumption | (apply btrans0; rotate_left; assumption) | (apply btrans; rotate_left; assumption) | (simp; done) | omega | (simp; omega)))
          (iterate 8 (first | (refine plan_held rfl (by decide) (by rfl) (fun w1 hS => by (try (obtain ⟨_, _⟩ := bcell (hS rfl))); go_simp; rfl) ?_; simp only [Act.put, List.setIfInBounds_toArray, List.set_cons_zero, List.set_cons_succ]) | (refine plan_skip rfl (by decide) (by rfl) ?_; simp only [Act.put, List.setIfInBounds_toArray, List.set_cons_zero, List.set_cons_succ])))
          (refine plan_keep rfl rfl (by rfl) (fun K hK => ?_); go_simp)
          refine (expires_any x _ _ (HX9.out.below' (by repeat' (first | with_reducible (first | refine bset ?_ ?_ | exact Below.refl _ _ | assumption | refine bdrewN ?_ _ | refine bdrew ?_ | refine balloc0 ?_ | refine balloc ?_ ?_ | (apply btrans0; rotate_left; assumption) | (apply btrans; rotate_left; assumption)) | exact Below.refl _ _ | assumption | (apply btrans0; rotate_left; assumption) | (apply btrans; rotate_left; assumption) | (simp; done) | omega | (simp; omega)))) HFX.out).mono ?_
          rw [HEX.out]
          rintro e wc37 ⟨rfl, hbc37⟩
          (refine hK _ _ (by exact (by repeat' (first | with_reducible (first | refine bset ?_ ?_ | exact Below.refl _ _ | assumption | refine bdrewN ?_ _ | refine bdrew ?_ | refine balloc0 ?_ | refine balloc ?_ ?_ | (apply btrans0; rotate_left; assumption) | (apply btrans; rotate_left; assumption)) | exact Below.refl _ _ | assumption | (apply btrans0; rotate_left; assumption) | (apply btrans; rotate_left; assumption) | (simp; done) | omega | (simp; omega)))) ?_; clear hK K; (try simp only [Act.put, List.setIfInBounds_toArray, List.set_cons_zero, List.set_cons_succ]))
          (iterate 10 (first | (refine plan_held rfl (by decide) (by rfl) (fun w1 hS => by (try (obtain ⟨_, _⟩ := bcell (hS rfl))); go_simp; rfl) ?_; simp only [Act.put, List.setIfInBounds_toArray, List.set_cons_zero, List.set_cons_succ]) | (refine plan_skip rfl (by decide) (by rfl) ?_; simp only [Act.put, List.setIfInBounds_toArray, List.set_cons_zero, List.set_cons_succ])))
          refine plan_done ?_
          go_wp2
          go_roundw
          case rel =>
            refine ⟨k + 1, _, _, _, by omega, rfl, rfl, rfl, by go_num, Lib.hid ?_, Lib.hid ?_, Lib.hid ?_, (by repeat' (first | with_reducible (first | refine bset ?_ ?_ | exact Below.refl _ _ | assumption | refine bdrewN ?_ _ | refine bdrew ?_ | refine balloc0 ?_ | refine balloc ?_ ?_ | (apply btrans0; rotate_left; assumption) | (apply btrans; rotate_left; assumption)) | exact Below.refl _ _ | assumption | (apply btrans0; rotate_left; assumption) | (apply btrans; rotate_left; assumption) | (simp; done) | omega | (simp; omega))), Lib.hid ?_, ?_⟩
            · rw [HC2.out, ← HC.out]
            · rw [HE2.out, ← HE.out, HEX.out]
            · rw [HA2.out, ← HCU.out]; simp [HCX.out]
            · exact (hbc37.block _ (by simp; omega)).trans HJ9.out
            · have := hbc37.size; simp at this; omega
          case measure => simp [intOf]; omega
    · obtain rfl : k = l.length := by omega
      have hC : C = b.crt := by rw [HC.out, List.take_length, HBC.out]
      have HEe : Hid (expS b = E) := Lib.hid (by rw [HXP.out, HE.out, List.take_length])
      have aB : bits .and .i64 b.flags 1 = if CU = true then 1 else 0 := by rw [HAB.out, HCU.out, List.take_length]
      have HB0 := HBX.out
      have cj := fun o => cellB HB0 o
      simp only [bunC] at cj
      subst hC
      clear HB0
      cases CU
      all_goals
        simp only [if_true, if_false, Bool.false_eq_true] at aB
        go_wp2_with fail
        refine (check_any b (.slice none 0 0) _ (by rw [HBL.out]; exact RBlks.nil _ _) HV.out).mono ?_
        rw [HVC.out]
        rintro e w3 ⟨rfl, hb3⟩
        have hB3 : Below w.heap.size w w3 := (by repeat' (first | with_reducible (first | refine bset ?_ ?_ | exact Below.refl _ _ | assumption | refine bdrewN ?_ _ | refine bdrew ?_ | refine balloc0 ?_ | refine balloc ?_ ?_ | (apply btrans0; rotate_left; assumption) | (apply btrans; rotate_left; assumption)) | exact Below.refl _ _ | assumption | (apply btrans0; rotate_left; assumption) | (apply btrans; rotate_left; assumption) | (simp; done) | omega | (simp; omega)))
        have hy3 := hb3.size
        have HX3 := Lib.hid ((hb3.block _ hz2).trans HBX.out)
        clear cj
        have cj := fun o => cellB HX3.out o
        simp only [bunC] at cj
        go_wp2_with fail
        refine (expires_any b (.slice none 0 0) _ (by rw [HBL.out]; exact RBlks.nil _ _) HV.out).mono ?_
        rw [HEe.out]
        rintro e w4 ⟨rfl, hb4⟩
        have hB4 : Below w.heap.size w w4 := (by repeat' (first | with_reducible (first | refine bset ?_ ?_ | exact Below.refl _ _ | assumption | refine bdrewN ?_ _ | refine bdrew ?_ | refine balloc0 ?_ | refine balloc ?_ ?_ | (apply btrans0; rotate_left; assumption) | (apply btrans; rotate_left; assumption)) | exact Below.refl _ _ | assumption | (apply btrans0; rotate_left; assumption) | (apply btrans; rotate_left; assumption) | (simp; done) | omega | (simp; omega)))
        have HX4 := Lib.hid ((hb4.block _ (by omega)).trans HX3.out)
        clear cj
        have cj := fun o => cellB HX4.out o
        simp only [bunC] at cj
        go_wp2_with fail
        refine (awake_any _).mono ?_
        rintro e w99 ⟨rfl, hb99⟩
        go_wp2
        go_ret
        exact ⟨rfl, (by repeat' (first | with_reducible (first | refine bset ?_ ?_ | exact Below.refl _ _ | assumption | refine bdrewN ?_ _ | refine bdrew ?_ | refine balloc0 ?_ | refine balloc ?_ ?_ | (apply btrans0; rotate_left; assumption) | (apply btrans; rotate_left; assumption)) | exact Below.refl _ _ | assumption | (apply btrans0; rotate_left; assumption) | (apply btrans; rotate_left; assumption) | (simp; done) | omega | (simp; omega)))⟩

set_option maxRecDepth 100000 in
theorem lifted (os : Os) (started : os.Started) (H : Type) (enc : TypeId × Value → H) :
    ReturnsInHanded {} Try.checked os 7 .any (Rows.aggregateLifetimesSpec.pre6 enc Try.prog Try.f7 Rows.aggregateLifetimesRow.domain false) (Rows.aggregateLifetimesSpec.post enc Try.prog Try.f7 false true false false) := by
  refine returnsInHanded_of_change (C := Try.checked) own started (by kernel_rfl) Try.func7
    (ChangeSpec.witness6 (enc := enc) (C := Try.checked) false ⟨#[], #[.slice none 0 0, .int .i64 0], []⟩ 8 (by kernel_rfl) (by kernel_rfl) (by kernel_rfl) (by kernel_rfl)) ?_
  intro W base args ds gs before hval0 hW hcnd _
  have hval : ∀ (j : Nat) t v, Try.f7.params[j]? = some t → args[j]? = some v → Value.okWide Try.prog W .any base t v := hval0
  have hW' := hW
  obtain ⟨p, q, hA0, hV, rfl, hfz, hnd⟩ := hW
  have hA : DataW.TrodAll enc Try.prog W 0 (fun _ => true) true Try.f7.params.toList args.toList ds p := hA0
  rw [Try.params7] at hA hval
  obtain ⟨v0, vs0, d0, ds0, p0, q0, hargs, rfl, rfl, h0, r0⟩ := trodAll_cons hA
  obtain ⟨v1, vs1, d1, ds1, p1, q1, rfl, rfl, rfl, h1, r1⟩ := trodAll_cons r0
  obtain ⟨rfl, rfl, rfl⟩ := trodAll_nil r1
  obtain rfl : args = #[v0, v1] := by cases args; simp_all
  obtain ⟨x0, hr0, hf0⟩ := open_buns_arg (hval 0 30 v0 rfl rfl) h0
  obtain ⟨x1, rfl, _, _, wx1⟩ := open_int Try.underlying3 (hval 1 3 v1 rfl rfl) h1
  refine (walk x0 v0 x1 W hr0 hf0).mono fun e W' ⟨he, hB⟩ => ?_
  subst he
  refine ⟨_, rfl, law_post (by kernel_rfl) (by kernel_rfl) rfl Try.underlying4 rfl ?_ hW' hB⟩
  intro es hes
  match es, hes with
  | [_, _], _ => rfl

theorem proved : Rows.AggregateLifetimesSaid :=
  OpenClaim.holds_of_wide 7 Try.f7 rfl rfl rfl rfl rfl rfl rfl ⟨rfl, rfl, rfl, rfl, rfl⟩ rfl rfl rfl rfl rfl (by kernel_rfl) Try.func7 (by kernel_rfl)
    (of_decide_eq_true (by kernel_rfl)) (by unfold Func.isWrapper; first | (rw [if_pos (by decide +kernel)]; kernel_rfl) | (rw [if_neg (by decide +kernel)]; exact ⟨rfl, rfl⟩))
    (fun os started H enc _ => lifted os started H enc)
#print axioms proved
end Go.Proofs.Ytpkklmkeflddkaa.aggregateLifetimes
