/- Chapter 19, the reference: flagged, created, ends, joinable, payload. -/
import Derived.Test.YtpkklmkeflddkaaGreatQd
set_option linter.unusedVariables false
set_option linter.unusedSimpArgs false
namespace Go.Proofs.YtpkklmkeflddkaaGreat
open Go Go.RowKit
attribute [local go_sem] B_getElem B_size B_app B_extract B_get B_toList

attribute [local go_sem] bunC
theorem flag_rem (f : Int) (h1 : 0 ≤ f) (h2 : f ≤ 127) : ((f.tdiv 64).tmod 2 == 1) = hasF f 64 := by
  obtain ⟨n, rfl⟩ := Int.eq_ofNat_of_zero_le h1
  have h : ∀ n : Fin 128, (((n.val : Int).tdiv 64).tmod 2 == 1) = hasF (n.val : Int) 64 := by decide +kernel
  exact h ⟨n, by omega⟩
set_option maxRecDepth 100000 in
set_option maxHeartbeats 4000000 in
theorem flagged_any (b : Bun) (u : Value) (w : World) (h : RBlks w w.heap.size u b.blocks) (hv : chkE b = 0) :
    Calls Tryz.prog 31 #[.agg (bunC b u).toArray] w fun e w' => e = .returned (.bool (joinedB b)) ∧ Below w.heap.size w w' := by
  obtain ⟨f1, f2⟩ := chk_flags hv
  have a1 := flag_rem b.flags f1 f2
  obtain ⟨ua, uc, rfl, _⟩ := id h
  obtain ⟨J, hJ⟩ : ∃ q, joinedB b = q := ⟨_, rfl⟩
  rw [show hasF b.flags 64 = J from hJ] at a1
  rw [hJ]
  have hw1 : IntKind.i64.wrap (b.flags.tdiv 64) = b.flags.tdiv 64 := by
    rw [Int.tdiv_eq_ediv_of_nonneg f1, IntKind.wrap_i64]; omega
  clear h hJ
  go_enter Tryz.func31, Tryz.ntmps31
  simp only [bunC]
  go_wp2
  go_ret
  exact ⟨rfl, (by repeat' (first | with_reducible (first | refine bset ?_ ?_ | exact Below.refl _ _ | assumption | refine bdrewN ?_ _ | refine bdrew ?_ | refine balloc0 ?_ | refine balloc ?_ ?_ | (apply btrans0; rotate_left; assumption) | (apply btrans; rotate_left; assumption)) | exact Below.refl _ _ | assumption | (apply btrans0; rotate_left; assumption) | (apply btrans; rotate_left; assumption) | (simp; done) | omega | (simp; omega)))⟩
set_option maxRecDepth 100000 in
set_option maxHeartbeats 4000000 in
theorem created_any (l : List Bun) (v : Value) (w : World) (h : RBuns w w.heap.size v l) (hf : ∀ x ∈ l, Fits x) :
    Calls Tryz.prog 21 #[v] w fun e w' => e = .returned (.int .i64 (crtS l)) ∧ Below w.heap.size w w' := by
  have HF := Lib.hid hf
  obtain ⟨a, c, rfl, h1, h2, h3, h4⟩ := h
  unfold maxLen at h2
  have hlen : l.length ≤ 9223372036854775807 := by omega
  have H4 := Lib.hid h4
  clear h3 h4 hf
  go_enter Tryz.func21, Tryz.ntmps21
  go_wp2
  go_loopw [4, 3] (fun i cr wr => ∃ (k : Nat) (C : Int), k ≤ l.length ∧ i = .int .i64 k ∧ cr = .int .i64 C ∧ Hid (C = crtS (l.take k)) ∧ Below w.heap.size w wr) (fun i _ _ => l.length - (intOf i).toNat)
  case atStart => exact ⟨0, 0, Nat.zero_le _, rfl, rfl, Lib.hid (by simp [crtS]), Below.refl _ _⟩
  case round =>
    obtain ⟨k, C, hk, rfl, rfl, HC, hB⟩ := hrel
    by_cases hlt : k < l.length
    · skip
      obtain ⟨bb, o, rfl, hbn, hcell⟩ := H4.out (by omega)
      obtain ⟨x, hx⟩ : ∃ x, l[k]? = some x := ⟨_, List.getElem?_eq_getElem hlt⟩
      obtain ⟨ux, hc, hub⟩ := hcell k x hx
      have q0 : wr.cell? ⟨bb, o + k * 12, none⟩ = some (.int .i64 x.src) := (hB.cell (p := ⟨bb, o + k * 12 + 0, none⟩) hbn).trans (hc 0 _ rfl)
      have q1 : wr.cell? ⟨bb, o + k * 12 + 1, none⟩ = some (.int .i64 x.crt) := (hB.cell (p := ⟨bb, o + k * 12 + 1, none⟩) hbn).trans (hc 1 _ rfl)
      have q2 : wr.cell? ⟨bb, o + k * 12 + 2, none⟩ = some (.int .i64 x.seq) := (hB.cell (p := ⟨bb, o + k * 12 + 2, none⟩) hbn).trans (hc 2 _ rfl)
      have q3 : wr.cell? ⟨bb, o + k * 12 + 3, none⟩ = some (.int .i64 x.off) := (hB.cell (p := ⟨bb, o + k * 12 + 3, none⟩) hbn).trans (hc 3 _ rfl)
      have q4 : wr.cell? ⟨bb, o + k * 12 + 4, none⟩ = some (.int .i64 x.tot) := (hB.cell (p := ⟨bb, o + k * 12 + 4, none⟩) hbn).trans (hc 4 _ rfl)
      have q5 : wr.cell? ⟨bb, o + k * 12 + 5, none⟩ = some (.int .i64 x.dk) := (hB.cell (p := ⟨bb, o + k * 12 + 5, none⟩) hbn).trans (hc 5 _ rfl)
      have q6 : wr.cell? ⟨bb, o + k * 12 + 6, none⟩ = some (.int .i64 x.dn) := (hB.cell (p := ⟨bb, o + k * 12 + 6, none⟩) hbn).trans (hc 6 _ rfl)
      have q7 : wr.cell? ⟨bb, o + k * 12 + 7, none⟩ = some (.int .i64 x.life) := (hB.cell (p := ⟨bb, o + k * 12 + 7, none⟩) hbn).trans (hc 7 _ rfl)
      have q8 : wr.cell? ⟨bb, o + k * 12 + 8, none⟩ = some (.int .i64 x.prio) := (hB.cell (p := ⟨bb, o + k * 12 + 8, none⟩) hbn).trans (hc 8 _ rfl)
      have q9 : wr.cell? ⟨bb, o + k * 12 + 9, none⟩ = some (.int .i64 x.flags) := (hB.cell (p := ⟨bb, o + k * 12 + 9, none⟩) hbn).trans (hc 9 _ rfl)
      have q10 : wr.cell? ⟨bb, o + k * 12 + 10, none⟩ = some (ux) := (hB.cell (p := ⟨bb, o + k * 12 + 10, none⟩) hbn).trans (hc 10 _ rfl)
      have q11 : wr.cell? ⟨bb, o + k * 12 + 11, none⟩ = some (.string (B x.payload)) := (hB.cell (p := ⟨bb, o + k * 12 + 11, none⟩) hbn).trans (hc 11 _ rfl)
      have HUB := Lib.hid (hub.below hB (Nat.le_refl _) hB.size)
      obtain ⟨xa, xc, rfl, _⟩ := id hub
      have k0 : (0 : Int) ≤ (k : Int) := by omega
      have k1 : (k : Int) < (l.length : Int) := by omega
      have HX := Lib.hid hx
      have hsz := hB.size
      clear hc hub hx hcell
      have HC2 := Lib.hid (crtS_step HX.out)
      by_cases hgt : x.crt > C
      · have HN : Hid (x.crt = crtS (l.take (k + 1))) := Lib.hid (by rw [HC2.out, ← HC.out, if_pos hgt])
        have hgt2 : C < x.crt := hgt
        clear hgt
        go_wp2
        go_roundw
        case rel => exact ⟨k + 1, x.crt, by omega, by go_num, rfl, HN, hB⟩
        case measure => simp [intOf]; omega
      · have HN : Hid (C = crtS (l.take (k + 1))) := Lib.hid (by rw [HC2.out, ← HC.out, if_neg hgt])
        have hgt2 : ¬ C < x.crt := hgt
        clear hgt
        go_wp2
        go_roundw
        case rel => exact ⟨k + 1, C, by omega, by go_num, rfl, HN, hB⟩
        case measure => simp [intOf]; omega
    · obtain rfl : k = l.length := by omega
      have HCc : Hid (C = crtS l) := Lib.hid (by rw [HC.out, List.take_length])
      go_wp2
      go_ret
      rw [← HCc.out]
      exact ⟨rfl, hB⟩
theorem endS_cons (y : Bun) (r : List Bun) (h : expS y ≤ 1099511627776) : endS [y] = expS y := by
  unfold endS
  simp only [List.foldl_cons, List.foldl_nil]
  split <;> omega
set_option maxRecDepth 100000 in
set_option maxHeartbeats 4000000 in
theorem ends_any (l : List Bun) (v : Value) (w : World) (h : RBuns w w.heap.size v l) (hf : ∀ x ∈ l, Fits x) (hp : 0 < l.length) (hv : ∀ x ∈ l, chkE x = 0) :
    Calls Tryz.prog 22 #[v] w fun e w' => e = .returned (.int .i64 (endS l)) ∧ Below w.heap.size w w' := by
  have HV := Lib.hid hv
  clear hv
  have HF := Lib.hid hf
  obtain ⟨a, c, rfl, h1, h2, h3, h4⟩ := h
  unfold maxLen at h2
  have hlen : l.length ≤ 9223372036854775807 := by omega
  have H4 := Lib.hid h4
  clear h3 h4 hf
  obtain ⟨y, hy⟩ : ∃ y, l[0]? = some y := ⟨_, List.getElem?_eq_getElem hp⟩
  obtain ⟨bb, o, rfl, hbn, hcell⟩ := H4.out hp
  obtain ⟨uy, hcy, huy⟩ := hcell 0 y hy
  have p0 : w.cell? ⟨bb, o, none⟩ = some (.int .i64 y.src) := by have := hcy 0 _ rfl; simpa using this
  have p1 : w.cell? ⟨bb, o + 1, none⟩ = some (.int .i64 y.crt) := by have := hcy 1 _ rfl; simpa using this
  have p2 : w.cell? ⟨bb, o + 2, none⟩ = some (.int .i64 y.seq) := by have := hcy 2 _ rfl; simpa using this
  have p3 : w.cell? ⟨bb, o + 3, none⟩ = some (.int .i64 y.off) := by have := hcy 3 _ rfl; simpa using this
  have p4 : w.cell? ⟨bb, o + 4, none⟩ = some (.int .i64 y.tot) := by have := hcy 4 _ rfl; simpa using this
  have p5 : w.cell? ⟨bb, o + 5, none⟩ = some (.int .i64 y.dk) := by have := hcy 5 _ rfl; simpa using this
  have p6 : w.cell? ⟨bb, o + 6, none⟩ = some (.int .i64 y.dn) := by have := hcy 6 _ rfl; simpa using this
  have p7 : w.cell? ⟨bb, o + 7, none⟩ = some (.int .i64 y.life) := by have := hcy 7 _ rfl; simpa using this
  have p8 : w.cell? ⟨bb, o + 8, none⟩ = some (.int .i64 y.prio) := by have := hcy 8 _ rfl; simpa using this
  have p9 : w.cell? ⟨bb, o + 9, none⟩ = some (.int .i64 y.flags) := by have := hcy 9 _ rfl; simpa using this
  have p10 : w.cell? ⟨bb, o + 10, none⟩ = some (uy) := by have := hcy 10 _ rfl; simpa using this
  have p11 : w.cell? ⟨bb, o + 11, none⟩ = some (.string (B y.payload)) := by have := hcy 11 _ rfl; simpa using this
  have HUY := Lib.hid huy
  obtain ⟨ya, yc, rfl, _⟩ := id huy
  have HFY := Lib.hid (HF.out y (List.mem_of_getElem? hy))
  have hyv := HV.out y (List.mem_of_getElem? hy)
  have hye := exp_facts hyv
  obtain ⟨Y, hY⟩ : ∃ q, expS y = q := ⟨_, rfl⟩
  have hyE : Y = y.crt + y.life := by rw [← hY]; unfold expS; rw [if_neg (by simp [hyv])]
  have HEY := Lib.hid hY
  have HY1 : Hid (Y = endS (l.take 1)) := Lib.hid (by
    rw [show l.take 1 = [y] from by rw [List.take_add_one, hy]; simp, endS_cons y [] (by rw [hY, hyE]; omega), hY])
  have hlI : (0 : Int) < (l.length : Int) := by omega
  clear hcell hcy huy hy hyv hY hyE hye
  go_enter Tryz.func22, Tryz.ntmps22
  go_wp2_with fail
  refine (rexpires_any y _ _ HUY.out HFY.out).mono ?_
  rw [HEY.out]
  rintro e w1 ⟨rfl, hb1⟩
  go_wp2
  go_loopw [4, 3] (fun i en wr => ∃ (k : Nat) (E : Int), 1 ≤ k ∧ k ≤ l.length ∧ i = .int .i64 k ∧ en = .int .i64 E ∧ Hid (E = endS (l.take k)) ∧ Below w.heap.size w wr) (fun i _ _ => l.length - (intOf i).toNat)
  case atStart => exact ⟨1, Y, Nat.le_refl _, by omega, rfl, rfl, HY1, hb1⟩
  case round =>
    obtain ⟨k, E, hk1, hk, rfl, rfl, HE, hB⟩ := hrel
    by_cases hlt : k < l.length
    · skip
      obtain ⟨b2, o2, e2, hbn2, hcell⟩ := H4.out (by omega)
      obtain ⟨rfl, rfl⟩ : bb = b2 ∧ o = o2 := by injection e2 with e2; injection e2 with e2 e3 _; exact ⟨e2, e3⟩
      clear e2
      obtain ⟨x, hx⟩ : ∃ x, l[k]? = some x := ⟨_, List.getElem?_eq_getElem hlt⟩
      obtain ⟨ux, hc, hub⟩ := hcell k x hx
      have q0 : wr.cell? ⟨bb, o + k * 12, none⟩ = some (.int .i64 x.src) := (hB.cell (p := ⟨bb, o + k * 12 + 0, none⟩) hbn2).trans (hc 0 _ rfl)
      have q1 : wr.cell? ⟨bb, o + k * 12 + 1, none⟩ = some (.int .i64 x.crt) := (hB.cell (p := ⟨bb, o + k * 12 + 1, none⟩) hbn2).trans (hc 1 _ rfl)
      have q2 : wr.cell? ⟨bb, o + k * 12 + 2, none⟩ = some (.int .i64 x.seq) := (hB.cell (p := ⟨bb, o + k * 12 + 2, none⟩) hbn2).trans (hc 2 _ rfl)
      have q3 : wr.cell? ⟨bb, o + k * 12 + 3, none⟩ = some (.int .i64 x.off) := (hB.cell (p := ⟨bb, o + k * 12 + 3, none⟩) hbn2).trans (hc 3 _ rfl)
      have q4 : wr.cell? ⟨bb, o + k * 12 + 4, none⟩ = some (.int .i64 x.tot) := (hB.cell (p := ⟨bb, o + k * 12 + 4, none⟩) hbn2).trans (hc 4 _ rfl)
      have q5 : wr.cell? ⟨bb, o + k * 12 + 5, none⟩ = some (.int .i64 x.dk) := (hB.cell (p := ⟨bb, o + k * 12 + 5, none⟩) hbn2).trans (hc 5 _ rfl)
      have q6 : wr.cell? ⟨bb, o + k * 12 + 6, none⟩ = some (.int .i64 x.dn) := (hB.cell (p := ⟨bb, o + k * 12 + 6, none⟩) hbn2).trans (hc 6 _ rfl)
      have q7 : wr.cell? ⟨bb, o + k * 12 + 7, none⟩ = some (.int .i64 x.life) := (hB.cell (p := ⟨bb, o + k * 12 + 7, none⟩) hbn2).trans (hc 7 _ rfl)
      have q8 : wr.cell? ⟨bb, o + k * 12 + 8, none⟩ = some (.int .i64 x.prio) := (hB.cell (p := ⟨bb, o + k * 12 + 8, none⟩) hbn2).trans (hc 8 _ rfl)
      have q9 : wr.cell? ⟨bb, o + k * 12 + 9, none⟩ = some (.int .i64 x.flags) := (hB.cell (p := ⟨bb, o + k * 12 + 9, none⟩) hbn2).trans (hc 9 _ rfl)
      have q10 : wr.cell? ⟨bb, o + k * 12 + 10, none⟩ = some (ux) := (hB.cell (p := ⟨bb, o + k * 12 + 10, none⟩) hbn2).trans (hc 10 _ rfl)
      have q11 : wr.cell? ⟨bb, o + k * 12 + 11, none⟩ = some (.string (B x.payload)) := (hB.cell (p := ⟨bb, o + k * 12 + 11, none⟩) hbn2).trans (hc 11 _ rfl)
      have HUB := Lib.hid (hub.below hB (Nat.le_refl _) hB.size)
      obtain ⟨xa, xc, rfl, _⟩ := id hub
      have k0 : (0 : Int) ≤ (k : Int) := by omega
      have k1 : (k : Int) < (l.length : Int) := by omega
      have HX := Lib.hid hx
      have hsz := hB.size
      clear hc hub hx hcell
      have HFX := Lib.hid (HF.out x (List.mem_of_getElem? HX.out))
      have HE2 := Lib.hid (endS_step HX.out)
      obtain ⟨X, hX⟩ : ∃ q, expS x = q := ⟨_, rfl⟩
      have HEX := Lib.hid hX
      clear hX
      have HUB1 := HUB
      by_cases hgt : X < E
      · have HN : Hid (X = endS (l.take (k + 1))) := Lib.hid (by rw [HE2.out, ← HE.out, HEX.out, if_pos hgt])
        go_wp2_with fail
        refine (rexpires_any x _ _ HUB.out HFX.out).mono ?_
        rw [HEX.out]
        rintro e w2 ⟨rfl, hb2⟩
        have hB2 : Below w.heap.size w w2 := btrans0 hB hb2
        obtain ⟨k2, f2⟩ := bcell hb2
        have zz : bb < wr.heap.size := by have := hB.size; omega
        go_wp2_with fail
        refine (rexpires_any x _ _ (HUB.out.below' hb2) HFX.out).mono ?_
        rw [HEX.out]
        rintro e w3 ⟨rfl, hb3⟩
        have hB3 : Below w.heap.size w w3 := btrans0 hB2 hb3
        go_wp2
        go_roundw
        case rel => exact ⟨k + 1, X, by omega, by omega, by go_num, rfl, HN, hB3⟩
        case measure => simp [intOf]; omega
      · have HN : Hid (E = endS (l.take (k + 1))) := Lib.hid (by rw [HE2.out, ← HE.out, HEX.out, if_neg hgt])
        go_wp2_with fail
        refine (rexpires_any x _ _ HUB.out HFX.out).mono ?_
        rw [HEX.out]
        rintro e w2 ⟨rfl, hb2⟩
        have hB2 : Below w.heap.size w w2 := btrans0 hB hb2
        go_wp2
        go_roundw
        case rel => exact ⟨k + 1, E, by omega, by omega, by go_num, rfl, HN, hB2⟩
        case measure => simp [intOf]; omega
    · obtain rfl : k = l.length := by omega
      have HEe : Hid (E = endS l) := Lib.hid (by rw [HE.out, List.take_length])
      go_wp2
      go_ret
      rw [← HEe.out]
      exact ⟨rfl, hB⟩
end Go.Proofs.YtpkklmkeflddkaaGreat
