/- Chapter 19, the reference: joinable. -/
import Derived.Test.YtpkklmkeflddkaaGreatQe
set_option linter.unusedVariables false
set_option linter.unusedSimpArgs false
namespace Go.Proofs.YtpkklmkeflddkaaGreat
open Go Go.RowKit
attribute [local go_sem] B_getElem B_size B_app B_extract B_get B_toList

attribute [local go_sem] bunC
attribute [local go_sem ↓] neEndI
theorem chkJ_cons (y : Bun) (r : List Bun) : chkJ (y :: r) = if (y :: r).any (fun x => chkE x != 0) = true then (1 : Int) else if (y :: r).any joinedB = true then 8 else if (y :: r).any (misB y) = true then 10 else 0 := rfl
theorem chkJ_at {l : List Bun} {y : Bun} (h : l[0]? = some y) : chkJ l = if l.any (fun x => chkE x != 0) = true then (1 : Int) else if l.any joinedB = true then 8 else if l.any (misB y) = true then 10 else 0 := by
  cases l with
  | nil => cases h
  | cons z r => obtain rfl : z = y := Option.some.inj h; exact chkJ_cons _ _
theorem any_of {l : List Bun} {x : Bun} {P : Bun → Bool} (h : x ∈ l) (hp : P x = true) : l.any P = true := List.any_eq_true.2 ⟨x, h, hp⟩
theorem any_no {l : List Bun} {P : Bun → Bool} (h : ∀ x ∈ l, P x = false) : l.any P = false := List.any_eq_false.2 fun x hx => by rw [h x hx]; simp
theorem mis_self (y : Bun) : misB y y = false := by simp [misB]
def rjS (l : List Bun) (seq : Int) : Int := if chkJ l ≠ 0 then chkJ l else if seq < 0 ∨ 1099511627776 < seq then 2 else if ¬ crtS l < endS l then 17 else 0
set_option maxRecDepth 100000 in
set_option maxHeartbeats 20000000 in
theorem joinable_any (l : List Bun) (v : Value) (seq : Int) (w : World) (h : RBuns w w.heap.size v l) (hf : ∀ x ∈ l, Fits x) :
    Calls Tryz.prog 19 #[v, .int .i64 seq] w fun e w' => e = .returned (.int .i64 (rjS l seq)) ∧ Below w.heap.size w w' := by
  have HR := Lib.hid h
  have HF := Lib.hid hf
  obtain ⟨a, c, rfl, h1, h2, h3, h4⟩ := h
  unfold maxLen at h2
  have hlen : l.length ≤ 9223372036854775807 := by omega
  have H4 := Lib.hid h4
  clear h3 h4 hf
  by_cases hz : l.length = 0
  · have : l = [] := List.eq_nil_of_length_eq_zero hz
    subst this
    rw [show rjS [] seq = 20 from rfl]
    simp only [List.length_nil]
    clear hz hlen h1
    go_enter Tryz.func19, Tryz.ntmps19
    go_wp2
    go_ret
    exact ⟨rfl, (by repeat' (first | with_reducible (first | refine bset ?_ ?_ | exact Below.refl _ _ | assumption | refine bdrewN ?_ _ | refine bdrew ?_ | refine balloc0 ?_ | refine balloc ?_ ?_ | (apply btrans0; rotate_left; assumption) | (apply btrans; rotate_left; assumption)) | exact Below.refl _ _ | assumption | (apply btrans0; rotate_left; assumption) | (apply btrans; rotate_left; assumption) | (simp; done) | omega | (simp; omega)))⟩
  have hp : 0 < l.length := by omega
  obtain ⟨y, hy⟩ : ∃ y, l[0]? = some y := ⟨_, List.getElem?_eq_getElem hp⟩
  have HJ := Lib.hid (chkJ_at hy)
  obtain ⟨bb, o, rfl, hbn, hcell0⟩ := H4.out hp
  obtain ⟨uy, hcy, huy⟩ := hcell0 0 y hy
  have HCY := Lib.hid hcy
  have HYM := Lib.hid (List.mem_of_getElem? hy)
  have hl0 : ((l.length : Int) == 0) = false := by rw [beq_eq_false_iff_ne]; omega
  have hlI : (0 : Int) < (l.length : Int) := by omega
  have HT1 : Hid (∀ x ∈ l.take 1, misB y x = false) := Lib.hid (fun x hx => by
    rw [List.take_add_one, hy] at hx
    simp at hx
    subst hx
    exact mis_self _)
  clear hcell0 hcy huy hy hz
  go_enter Tryz.func19, Tryz.ntmps19
  go_wp2
  go_loopw [5] (fun i wr => ∃ k : Nat, k ≤ l.length ∧ i = .int .i64 k ∧ Hid (∀ x ∈ l.take k, chkE x = 0) ∧ Below w.heap.size w wr) (fun i _ => l.length - (intOf i).toNat)
  case atStart => exact ⟨0, Nat.zero_le _, rfl, Lib.hid (by simp), Below.refl _ _⟩
  case round =>
    obtain ⟨k, hk, rfl, HV, hB⟩ := hrel
    by_cases hlt : k < l.length
    · skip
      obtain ⟨b2, o2, e2, hbn2, hcell⟩ := H4.out (by omega)
      obtain ⟨rfl, rfl⟩ : bb = b2 ∧ o = o2 := by injection e2 with e2; injection e2 with e2 e3 _; exact ⟨e2, e3⟩
      clear e2
      obtain ⟨x, hx⟩ : ∃ x, l[k]? = some x := ⟨_, List.getElem?_eq_getElem hlt⟩
      obtain ⟨ux, hc, hub⟩ := hcell k x hx
      have q0 : wr.cell? ⟨bb, o + k * 12, none⟩ = some (.int .i64 x.src) := (hB.cell (p := ⟨bb, o + k * 12 + 0, none⟩) hbn2).trans (hc 0 _ rfl)
      have q1 : wr.cell? ⟨bb, o + k * 12 + 1, none⟩ = some (.int .i64 x.crt) := (hB.cell (p := ⟨bb, o + k * 12 + 1, none⟩) hbn2).trans (hc 1 _ rfl)
      have q2 : wr.cell? ⟨bb, o + k * 12 + 2, none⟩ = some (.int .i64 x.seq) := (hB.cell (p := ⟨bb, o + k * 12 + 2, none⟩) hbn2).trans (hc 2 _ rfl)
      have q3 : wr.cell? ⟨bb, o + k * 12 + 3, none⟩ = some (.int .i64 x.off) := (hB.cell (p := ⟨bb, o + k * 12 + 3, none⟩) hbn2).trans (hc 3 _ rfl)
      have q4 : wr.cell? ⟨bb, o + k * 12 + 4, none⟩ = some (.int .i64 x.tot) := (hB.cell (p := ⟨bb, o + k * 12 + 4, none⟩) hbn2).trans (hc 4 _ rfl)
      have q5 : wr.cell? ⟨bb, o + k * 12 + 5, none⟩ = some (.int .i64 x.dk) := (hB.cell (p := ⟨bb, o + k * 12 + 5, none⟩) hbn2).trans (hc 5 _ rfl)
      have q6 : wr.cell? ⟨bb, o + k * 12 + 6, none⟩ = some (.int .i64 x.dn) := (hB.cell (p := ⟨bb, o + k * 12 + 6, none⟩) hbn2).trans (hc 6 _ rfl)
      have q7 : wr.cell? ⟨bb, o + k * 12 + 7, none⟩ = some (.int .i64 x.life) := (hB.cell (p := ⟨bb, o + k * 12 + 7, none⟩) hbn2).trans (hc 7 _ rfl)
      have q8 : wr.cell? ⟨bb, o + k * 12 + 8, none⟩ = some (.int .i64 x.prio) := (hB.cell (p := ⟨bb, o + k * 12 + 8, none⟩) hbn2).trans (hc 8 _ rfl)
      have q9 : wr.cell? ⟨bb, o + k * 12 + 9, none⟩ = some (.int .i64 x.flags) := (hB.cell (p := ⟨bb, o + k * 12 + 9, none⟩) hbn2).trans (hc 9 _ rfl)
      have q10 : wr.cell? ⟨bb, o + k * 12 + 10, none⟩ = some (ux) := (hB.cell (p := ⟨bb, o + k * 12 + 10, none⟩) hbn2).trans (hc 10 _ rfl)
      have q11 : wr.cell? ⟨bb, o + k * 12 + 11, none⟩ = some (.string (B x.payload)) := (hB.cell (p := ⟨bb, o + k * 12 + 11, none⟩) hbn2).trans (hc 11 _ rfl)
      have HUB := Lib.hid (hub.below hB (Nat.le_refl _) hB.size)
      obtain ⟨xa, xc, rfl, _⟩ := id hub
      have k0 : (0 : Int) ≤ (k : Int) := by omega
      have k1 : (k : Int) < (l.length : Int) := by omega
      have HX := Lib.hid hx
      have hsz := hB.size
      clear hc hub hx hcell
      have HFX := Lib.hid (HF.out x (List.mem_of_getElem? HX.out))
      obtain ⟨E, hE⟩ : ∃ q, chkE x = q := ⟨_, rfl⟩
      have HE := Lib.hid hE
      by_cases hz : E = 0
      case neg =>
        have HN : Hid (rjS l seq = 1) := Lib.hid (by
          have : chkJ l = 1 := by rw [HJ.out, if_pos (any_of (List.mem_of_getElem? HX.out) (by simp [hE, hz]))]
          unfold rjS; rw [this]; rfl)
        have hz2 : (E != 0) = true := by rw [bne_iff_ne]; exact hz
        clear hE hz
        go_wp2_with fail
        refine (rcheck_any x _ _ HUB.out HFX.out).mono ?_
        rw [HE.out]
        rintro e w2 ⟨rfl, hb2⟩
        have hB2 : Below w.heap.size w w2 := btrans0 hB hb2
        go_wp2
        go_ret
        rw [HN.out]
        exact ⟨rfl, hB2⟩
      subst hz
      clear hE
      go_wp2_with fail
      refine (rcheck_any x _ _ HUB.out HFX.out).mono ?_
      rw [HE.out]
      rintro e w2 ⟨rfl, hb2⟩
      have hB2 : Below w.heap.size w w2 := btrans0 hB hb2
      go_wp2
      go_roundw
      case rel =>
        refine ⟨k + 1, by omega, by go_num, Lib.hid ?_, hB2⟩
        intro z hz
        rw [List.take_add_one, HX.out] at hz
        rcases List.mem_append.1 hz with hz | hz
        · exact HV.out z hz
        · simp at hz; subst hz; exact HE.out
      case measure => simp [intOf]; omega
    obtain rfl : k = l.length := by omega
    have HALL : Hid (∀ x ∈ l, chkE x = 0) := Lib.hid (by have := HV.out; rwa [List.take_length] at this)
    have HA1 : Hid (l.any (fun x => chkE x != 0) = false) := Lib.hid (any_no (fun x hx => by simp [HALL.out x hx]))
    clear hk hlt HV
    obtain ⟨w1, rfl⟩ : ∃ q, q = wr := ⟨_, rfl⟩
    have hB1 := hB
    clear hB
    go_wp2
    go_loopw [6] (fun i wr => ∃ k : Nat, k ≤ l.length ∧ i = .int .i64 k ∧ Hid (∀ x ∈ l.take k, joinedB x = false) ∧ Below w.heap.size w wr) (fun i _ => l.length - (intOf i).toNat)
    case atStart => exact ⟨0, Nat.zero_le _, rfl, Lib.hid (by simp), hB1⟩
    case round =>
      obtain ⟨k, hk, rfl, HV, hB⟩ := hrel
      by_cases hlt : k < l.length
      · skip
        obtain ⟨b2, o2, e2, hbn2, hcell⟩ := H4.out (by omega)
        obtain ⟨rfl, rfl⟩ : bb = b2 ∧ o = o2 := by injection e2 with e2; injection e2 with e2 e3 _; exact ⟨e2, e3⟩
        clear e2
        obtain ⟨x, hx⟩ : ∃ x, l[k]? = some x := ⟨_, List.getElem?_eq_getElem hlt⟩
        obtain ⟨ux, hc, hub⟩ := hcell k x hx
        have q0 : wr.cell? ⟨bb, o + k * 12, none⟩ = some (.int .i64 x.src) := (hB.cell (p := ⟨bb, o + k * 12 + 0, none⟩) hbn2).trans (hc 0 _ rfl)
        have q1 : wr.cell? ⟨bb, o + k * 12 + 1, none⟩ = some (.int .i64 x.crt) := (hB.cell (p := ⟨bb, o + k * 12 + 1, none⟩) hbn2).trans (hc 1 _ rfl)
        have q2 : wr.cell? ⟨bb, o + k * 12 + 2, none⟩ = some (.int .i64 x.seq) := (hB.cell (p := ⟨bb, o + k * 12 + 2, none⟩) hbn2).trans (hc 2 _ rfl)
        have q3 : wr.cell? ⟨bb, o + k * 12 + 3, none⟩ = some (.int .i64 x.off) := (hB.cell (p := ⟨bb, o + k * 12 + 3, none⟩) hbn2).trans (hc 3 _ rfl)
        have q4 : wr.cell? ⟨bb, o + k * 12 + 4, none⟩ = some (.int .i64 x.tot) := (hB.cell (p := ⟨bb, o + k * 12 + 4, none⟩) hbn2).trans (hc 4 _ rfl)
        have q5 : wr.cell? ⟨bb, o + k * 12 + 5, none⟩ = some (.int .i64 x.dk) := (hB.cell (p := ⟨bb, o + k * 12 + 5, none⟩) hbn2).trans (hc 5 _ rfl)
        have q6 : wr.cell? ⟨bb, o + k * 12 + 6, none⟩ = some (.int .i64 x.dn) := (hB.cell (p := ⟨bb, o + k * 12 + 6, none⟩) hbn2).trans (hc 6 _ rfl)
        have q7 : wr.cell? ⟨bb, o + k * 12 + 7, none⟩ = some (.int .i64 x.life) := (hB.cell (p := ⟨bb, o + k * 12 + 7, none⟩) hbn2).trans (hc 7 _ rfl)
        have q8 : wr.cell? ⟨bb, o + k * 12 + 8, none⟩ = some (.int .i64 x.prio) := (hB.cell (p := ⟨bb, o + k * 12 + 8, none⟩) hbn2).trans (hc 8 _ rfl)
        have q9 : wr.cell? ⟨bb, o + k * 12 + 9, none⟩ = some (.int .i64 x.flags) := (hB.cell (p := ⟨bb, o + k * 12 + 9, none⟩) hbn2).trans (hc 9 _ rfl)
        have q10 : wr.cell? ⟨bb, o + k * 12 + 10, none⟩ = some (ux) := (hB.cell (p := ⟨bb, o + k * 12 + 10, none⟩) hbn2).trans (hc 10 _ rfl)
        have q11 : wr.cell? ⟨bb, o + k * 12 + 11, none⟩ = some (.string (B x.payload)) := (hB.cell (p := ⟨bb, o + k * 12 + 11, none⟩) hbn2).trans (hc 11 _ rfl)
        have HUB := Lib.hid (hub.below hB (Nat.le_refl _) hB.size)
        obtain ⟨xa, xc, rfl, _⟩ := id hub
        have k0 : (0 : Int) ≤ (k : Int) := by omega
        have k1 : (k : Int) < (l.length : Int) := by omega
        have HX := Lib.hid hx
        have hsz := hB.size
        clear hc hub hx hcell
        have hxv := HALL.out x (List.mem_of_getElem? HX.out)
        have HXV := Lib.hid hxv
        obtain ⟨E, hE⟩ : ∃ q, joinedB x = q := ⟨_, rfl⟩
        have HE := Lib.hid hE
        clear hxv
        cases E with
        | true =>
          have HN : Hid (rjS l seq = 8) := Lib.hid (by
            have : chkJ l = 8 := by rw [HJ.out, if_neg (by rw [HA1.out]; simp), if_pos (any_of (List.mem_of_getElem? HX.out) hE)]
            unfold rjS; rw [this]; rfl)
          clear hE
          go_wp2_with fail
          refine (flagged_any x _ _ HUB.out HXV.out).mono ?_
          rw [HE.out]
          rintro e w2 ⟨rfl, hb2⟩
          have hB2 : Below w.heap.size w w2 := btrans0 hB hb2
          go_wp2
          go_ret
          rw [HN.out]
          exact ⟨rfl, hB2⟩
        | false =>
          clear hE
          go_wp2_with fail
          refine (flagged_any x _ _ HUB.out HXV.out).mono ?_
          rw [HE.out]
          rintro e w2 ⟨rfl, hb2⟩
          have hB2 : Below w.heap.size w w2 := btrans0 hB hb2
          go_wp2
          go_roundw
          case rel =>
            refine ⟨k + 1, by omega, by go_num, Lib.hid ?_, hB2⟩
            intro z hz
            rw [List.take_add_one, HX.out] at hz
            rcases List.mem_append.1 hz with hz | hz
            · exact HV.out z hz
            · simp at hz; subst hz; exact HE.out
          case measure => simp [intOf]; omega
      obtain rfl : k = l.length := by omega
      have HA2 : Hid (l.any joinedB = false) := Lib.hid (any_no (by have := HV.out; rwa [List.take_length] at this))
      clear hk hlt HV
      obtain ⟨w2, rfl⟩ : ∃ q, q = wr := ⟨_, rfl⟩
      have hB2 := hB
      clear hB
      go_wp2
      go_loopw [7] (fun i wr => ∃ k : Nat, 1 ≤ k ∧ k ≤ l.length ∧ i = .int .i64 k ∧ Hid (∀ x ∈ l.take k, misB y x = false) ∧ Below w.heap.size w wr) (fun i _ => l.length - (intOf i).toNat)
      case atStart => exact ⟨1, Nat.le_refl _, by omega, rfl, HT1, hB2⟩
      case round =>
        obtain ⟨k, hk1, hk, rfl, HV, hB⟩ := hrel
        by_cases hlt : k < l.length
        · skip
          obtain ⟨b2, o2, e2, hbn2, hcell⟩ := H4.out (by omega)
          obtain ⟨rfl, rfl⟩ : bb = b2 ∧ o = o2 := by injection e2 with e2; injection e2 with e2 e3 _; exact ⟨e2, e3⟩
          clear e2
          obtain ⟨x, hx⟩ : ∃ x, l[k]? = some x := ⟨_, List.getElem?_eq_getElem hlt⟩
          obtain ⟨ux, hc, hub⟩ := hcell k x hx
          have q0 : wr.cell? ⟨bb, o + k * 12, none⟩ = some (.int .i64 x.src) := (hB.cell (p := ⟨bb, o + k * 12 + 0, none⟩) hbn2).trans (hc 0 _ rfl)
          have q1 : wr.cell? ⟨bb, o + k * 12 + 1, none⟩ = some (.int .i64 x.crt) := (hB.cell (p := ⟨bb, o + k * 12 + 1, none⟩) hbn2).trans (hc 1 _ rfl)
          have q2 : wr.cell? ⟨bb, o + k * 12 + 2, none⟩ = some (.int .i64 x.seq) := (hB.cell (p := ⟨bb, o + k * 12 + 2, none⟩) hbn2).trans (hc 2 _ rfl)
          have q3 : wr.cell? ⟨bb, o + k * 12 + 3, none⟩ = some (.int .i64 x.off) := (hB.cell (p := ⟨bb, o + k * 12 + 3, none⟩) hbn2).trans (hc 3 _ rfl)
          have q4 : wr.cell? ⟨bb, o + k * 12 + 4, none⟩ = some (.int .i64 x.tot) := (hB.cell (p := ⟨bb, o + k * 12 + 4, none⟩) hbn2).trans (hc 4 _ rfl)
          have q5 : wr.cell? ⟨bb, o + k * 12 + 5, none⟩ = some (.int .i64 x.dk) := (hB.cell (p := ⟨bb, o + k * 12 + 5, none⟩) hbn2).trans (hc 5 _ rfl)
          have q6 : wr.cell? ⟨bb, o + k * 12 + 6, none⟩ = some (.int .i64 x.dn) := (hB.cell (p := ⟨bb, o + k * 12 + 6, none⟩) hbn2).trans (hc 6 _ rfl)
          have q7 : wr.cell? ⟨bb, o + k * 12 + 7, none⟩ = some (.int .i64 x.life) := (hB.cell (p := ⟨bb, o + k * 12 + 7, none⟩) hbn2).trans (hc 7 _ rfl)
          have q8 : wr.cell? ⟨bb, o + k * 12 + 8, none⟩ = some (.int .i64 x.prio) := (hB.cell (p := ⟨bb, o + k * 12 + 8, none⟩) hbn2).trans (hc 8 _ rfl)
          have q9 : wr.cell? ⟨bb, o + k * 12 + 9, none⟩ = some (.int .i64 x.flags) := (hB.cell (p := ⟨bb, o + k * 12 + 9, none⟩) hbn2).trans (hc 9 _ rfl)
          have q10 : wr.cell? ⟨bb, o + k * 12 + 10, none⟩ = some (ux) := (hB.cell (p := ⟨bb, o + k * 12 + 10, none⟩) hbn2).trans (hc 10 _ rfl)
          have q11 : wr.cell? ⟨bb, o + k * 12 + 11, none⟩ = some (.string (B x.payload)) := (hB.cell (p := ⟨bb, o + k * 12 + 11, none⟩) hbn2).trans (hc 11 _ rfl)
          have HUB := Lib.hid (hub.below hB (Nat.le_refl _) hB.size)
          obtain ⟨xa, xc, rfl, _⟩ := id hub
          have k0 : (0 : Int) ≤ (k : Int) := by omega
          have k1 : (k : Int) < (l.length : Int) := by omega
          have HX := Lib.hid hx
          have hsz := hB.size
          clear hc hub hx hcell
          have p0 : wr.cell? ⟨bb, o, none⟩ = some (.int .i64 y.src) := by have := (hB.cell (p := ⟨bb, o + 0 * 12 + 0, none⟩) hbn).trans (HCY.out 0 _ rfl); simpa using this
          have p5 : wr.cell? ⟨bb, o + 5, none⟩ = some (.int .i64 y.dk) := by have := (hB.cell (p := ⟨bb, o + 0 * 12 + 5, none⟩) hbn).trans (HCY.out 5 _ rfl); simpa using this
          have p6 : wr.cell? ⟨bb, o + 6, none⟩ = some (.int .i64 y.dn) := by have := (hB.cell (p := ⟨bb, o + 0 * 12 + 6, none⟩) hbn).trans (HCY.out 6 _ rfl); simpa using this
          have p8 : wr.cell? ⟨bb, o + 8, none⟩ = some (.int .i64 y.prio) := by have := (hB.cell (p := ⟨bb, o + 0 * 12 + 8, none⟩) hbn).trans (HCY.out 8 _ rfl); simpa using this
          obtain ⟨m1, hm1⟩ : ∃ q, (x.src != y.src) = q := ⟨_, rfl⟩
          obtain ⟨m2, hm2⟩ : ∃ q, (x.dk != y.dk || x.dn != y.dn) = q := ⟨_, rfl⟩
          obtain ⟨m3, hm3⟩ : ∃ q, (x.prio != y.prio) = q := ⟨_, rfl⟩
          have hM : misB y x = (m1 || m2 || m3) := by unfold misB; rw [hm1, hm2, hm3]
          have HM := Lib.hid hM
          have HN : Hid (misB y x = true → rjS l seq = 10) := Lib.hid (fun ht => by
            have : chkJ l = 10 := by rw [HJ.out, if_neg (by rw [HA1.out]; simp), if_neg (by rw [HA2.out]; simp), if_pos (any_of (List.mem_of_getElem? HX.out) ht)]
            unfold rjS; rw [this]; rfl)
          clear hM
          cases m1 with
          | true =>
            have HN2 := Lib.hid (HN.out (by rw [HM.out]; rfl))
            go_wp2
            go_quiet (fail)
            go_wp2
            go_ret
            rw [HN2.out]
            exact ⟨rfl, (by repeat' (first | with_reducible (first | refine bset ?_ ?_ | exact Below.refl _ _ | assumption | refine bdrewN ?_ _ | refine bdrew ?_ | refine balloc0 ?_ | refine balloc ?_ ?_ | (apply btrans0; rotate_left; assumption) | (apply btrans; rotate_left; assumption)) | exact Below.refl _ _ | assumption | (apply btrans0; rotate_left; assumption) | (apply btrans; rotate_left; assumption) | (simp; done) | omega | (simp; omega)))⟩
          | false =>
            cases m2 with
            | true =>
              have HN2 := Lib.hid (HN.out (by rw [HM.out]; rfl))
              go_wp2
              go_quiet (fail)
              go_wp2
              go_ret
              rw [HN2.out]
              exact ⟨rfl, (by repeat' (first | with_reducible (first | refine bset ?_ ?_ | exact Below.refl _ _ | assumption | refine bdrewN ?_ _ | refine bdrew ?_ | refine balloc0 ?_ | refine balloc ?_ ?_ | (apply btrans0; rotate_left; assumption) | (apply btrans; rotate_left; assumption)) | exact Below.refl _ _ | assumption | (apply btrans0; rotate_left; assumption) | (apply btrans; rotate_left; assumption) | (simp; done) | omega | (simp; omega)))⟩
            | false =>
              cases m3 with
              | true =>
                have HN2 := Lib.hid (HN.out (by rw [HM.out]; rfl))
                go_wp2
                go_quiet (fail)
                go_wp2
                go_ret
                rw [HN2.out]
                exact ⟨rfl, (by repeat' (first | with_reducible (first | refine bset ?_ ?_ | exact Below.refl _ _ | assumption | refine bdrewN ?_ _ | refine bdrew ?_ | refine balloc0 ?_ | refine balloc ?_ ?_ | (apply btrans0; rotate_left; assumption) | (apply btrans; rotate_left; assumption)) | exact Below.refl _ _ | assumption | (apply btrans0; rotate_left; assumption) | (apply btrans; rotate_left; assumption) | (simp; done) | omega | (simp; omega)))⟩
              | false =>
                have HM2 : Hid (misB y x = false) := Lib.hid (by rw [HM.out]; rfl)
                go_wp2
                go_quiet (fail)
                go_wp2
                go_roundw
                case rel =>
                  refine ⟨k + 1, by omega, by omega, by go_num, Lib.hid ?_, (by repeat' (first | with_reducible (first | refine bset ?_ ?_ | exact Below.refl _ _ | assumption | refine bdrewN ?_ _ | refine bdrew ?_ | refine balloc0 ?_ | refine balloc ?_ ?_ | (apply btrans0; rotate_left; assumption) | (apply btrans; rotate_left; assumption)) | exact Below.refl _ _ | assumption | (apply btrans0; rotate_left; assumption) | (apply btrans; rotate_left; assumption) | (simp; done) | omega | (simp; omega)))⟩
                  intro z hz
                  rw [List.take_add_one, HX.out] at hz
                  rcases List.mem_append.1 hz with hz | hz
                  · exact HV.out z hz
                  · simp at hz; subst hz; exact HM2.out
                case measure => simp [intOf]; omega
        obtain rfl : k = l.length := by omega
        have HA3 : Hid (chkJ l = 0) := Lib.hid (by
          have := HV.out
          rw [List.take_length] at this
          rw [HJ.out, if_neg (by rw [HA1.out]; simp), if_neg (by rw [HA2.out]; simp), if_neg (by rw [any_no this]; simp)])
        clear hk hk1 hlt HV
        by_cases r1 : seq < 0
        · have HN : Hid (rjS l seq = 2) := Lib.hid (by unfold rjS; rw [if_neg (by rw [HA3.out]; simp), if_pos (.inl r1)])
          go_wp2
          go_ret
          rw [HN.out]
          exact ⟨rfl, hB⟩
        by_cases r2 : 1099511627776 < seq
        · have HN : Hid (rjS l seq = 2) := Lib.hid (by unfold rjS; rw [if_neg (by rw [HA3.out]; simp), if_pos (.inr r2)])
          go_wp2
          go_ret
          rw [HN.out]
          exact ⟨rfl, hB⟩
        have hS : rjS l seq = if ¬ crtS l < endS l then 17 else 0 := by unfold rjS; rw [if_neg (by rw [HA3.out]; simp), if_neg (by omega)]
        obtain ⟨C, hC⟩ : ∃ q, crtS l = q := ⟨_, rfl⟩
        obtain ⟨E, hE⟩ : ∃ q, endS l = q := ⟨_, rfl⟩
        rw [hC, hE] at hS
        have HC := Lib.hid hC
        have HE := Lib.hid hE
        have HS := Lib.hid hS
        clear hC hE hS
        by_cases hce : C < E
        · have HN : Hid (rjS l seq = 0) := Lib.hid (by rw [HS.out, if_neg (by simpa using hce)])
          have hce2 : ¬ E ≤ C := by omega
          clear hce
          go_wp2_with fail
          refine (created_any l _ _ (HR.out.below'' hB) HF.out).mono ?_
          rw [HC.out]
          rintro e w3 ⟨rfl, hb3⟩
          have hB3 : Below w.heap.size w w3 := btrans0 hB hb3
          go_wp2_with fail
          refine (ends_any l _ _ (HR.out.below'' hB3) HF.out hp HALL.out).mono ?_
          rw [HE.out]
          rintro e w4 ⟨rfl, hb4⟩
          have hB4 : Below w.heap.size w w4 := btrans0 hB3 hb4
          go_wp2
          go_ret
          rw [HN.out]
          exact ⟨rfl, hB4⟩
        · have HN : Hid (rjS l seq = 17) := Lib.hid (by rw [HS.out, if_pos hce])
          have hce2 : E ≤ C := by omega
          clear hce
          go_wp2_with fail
          refine (created_any l _ _ (HR.out.below'' hB) HF.out).mono ?_
          rw [HC.out]
          rintro e w3 ⟨rfl, hb3⟩
          have hB3 : Below w.heap.size w w3 := btrans0 hB hb3
          go_wp2_with fail
          refine (ends_any l _ _ (HR.out.below'' hB3) HF.out hp HALL.out).mono ?_
          rw [HE.out]
          rintro e w4 ⟨rfl, hb4⟩
          have hB4 : Below w.heap.size w w4 := btrans0 hB3 hb4
          go_wp2
          go_ret
          rw [HN.out]
          exact ⟨rfl, hB4⟩
end Go.Proofs.YtpkklmkeflddkaaGreat
