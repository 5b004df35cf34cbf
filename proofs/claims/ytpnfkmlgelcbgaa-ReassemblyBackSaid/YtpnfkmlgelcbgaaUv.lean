/- Chapter 18: a bundle's cut, its blocks in any set of places. -/
import Derived.Test.YtpnfkmlgelcbgaaJi
set_option linter.unusedVariables false
set_option linter.unusedSimpArgs false
namespace Go.Proofs.Ytpnfkmlgelcbgaa
open Go Go.RowKit
attribute [local go_sem] B_getElem B_size B_app B_extract B_get B_toList
def OldD (D : Nat → Prop) (w w' : World) (q : Nat) : Prop := D q ∨ (w.heap.size ≤ q ∧ q < w'.heap.size)
def BunPostD (D : Nat → Prop) (b : Bun) (w : World) (e : Ending) (w' : World) : Prop := ∃ u, e = .returned (.agg (bunC b u).toArray) ∧ RBlksD w' (OldD D w w') u b.blocks ∧ Below w.heap.size w w'
def BunEPostD (D : Nat → Prop) (b : Bun) (E : Int) (w : World) (e : Ending) (w' : World) : Prop := ∃ u, e = .returned (.tuple #[.agg (bunC b u).toArray, .int .i64 E]) ∧ RBlksD w' (OldD D w w') u b.blocks ∧ Below w.heap.size w w'
set_option maxRecDepth 100000 in
set_option maxHeartbeats 1000000 in
theorem cutD_any (b : Bun) (u : Value) (f t : Int) (D : Nat → Prop) (w : World) (hD : ∀ q, D q → q < w.heap.size) (hd : RBlksD w D u b.blocks) (h0 : 0 ≤ b.off) (h1 : b.off ≤ f) (h2 : f ≤ t) (h3 : t ≤ b.off + b.payload.length) (h4 : b.off ≤ 100000) (h5 : b.payload.length ≤ 100000)
    (hf : ∀ x ∈ b.blocks, 0 ≤ x.flags ∧ x.flags ≤ 15) (hl : b.blocks.length ≤ 1000) :
    Calls Try.prog 69 #[.agg (bunC b u).toArray, .int .i64 f, .int .i64 t] w (BunPostD D (cutS b f t) w) := by
  have hN : w.heap.size ≤ w.heap.size := Nat.le_refl _
  have h : RBlks w w.heap.size u b.blocks := hd.to hD
  have HD := Lib.hid hd
  clear hd
  obtain ⟨i, hi⟩ : ∃ i : Nat, f - b.off = i := ⟨(f - b.off).toNat, by omega⟩
  obtain ⟨j, hj⟩ : ∃ j : Nat, t - b.off = j := ⟨(t - b.off).toNat, by omega⟩
  have i1 : i ≤ j := by omega
  have i2 : j ≤ b.payload.length := by omega
  have hP : (cutS b f t).payload = (b.payload.drop i).take (j - i) := by
    unfold cutS
    show (b.payload.drop (f - b.off).toNat).take (t - f).toNat = _
    rw [show (f - b.off).toNat = i by omega, show (t - f).toNat = j - i by omega]
  have HP := Lib.hid hP
  obtain ⟨ua, uc, rfl, _⟩ := id h
  have HR := Lib.hid h
  have HF := Lib.hid hf
  clear hP h hf
  have i3 : (0 : Int) ≤ (i : Int) := by omega
  have i4 : (i : Int) ≤ (j : Int) := by omega
  have i5 : (j : Int) ≤ (b.payload.length : Int) := by omega
  have HT : Hid ((cutS b f t).tot = if b.tot = 0 then (b.payload.length : Int) else b.tot) := Lib.hid rfl
  by_cases zf : 0 < f
  · have HB : Hid ((cutS b f t).blocks = b.blocks.filter keepC) := Lib.hid (by unfold cutS; simp [zf])
    by_cases z : b.tot = 0
    · go_enter Try.func69, Try.ntmps69
      simp only [bunC]
      go_wp2_with fail
      refine (clone_any b.blocks _ _ (HR.out.below (C := w.heap.size) belowA hN (by first | omega | (simp; done) | (simp; omega))) hl).mono ?_
      rintro e w1 ⟨v1, rfl, hb1, ho1⟩
      obtain ⟨k1, f1⟩ := bcell hb1
      have z1 : w.heap.size + 1 < w1.heap.size := by have := hb1.size; simp at this; omega
      have z1' : w.heap.size < w1.heap.size := by omega
      go_wp2_with fail
      refine (delete_own b.blocks v1 _ _ hb1.size ho1 HF.out hl).mono ?_
      rintro e w2 ⟨v2, rfl, hr2, hb2, hfr2⟩
      obtain ⟨va, vc, rfl, _⟩ := id hr2
      have HR2 := Lib.hid hr2
      have k2 : ∀ b o, b < w.heap.size + 1 + 1 → w2.cell? ⟨b, o, none⟩ = w1.cell? ⟨b, o, none⟩ := fun b o h => hb2.cell (p := ⟨b, o, none⟩) (by simpa using h)
      have f2 : ∀ b o, b < w.heap.size + 1 + 1 → w2.frozen? ⟨b, o, none⟩ = w1.frozen? ⟨b, o, none⟩ := fun b o h => hb2.frozen (p := ⟨b, o, none⟩) (by simpa using h)
      have z2 : w.heap.size + 1 < w2.heap.size := by have := hb2.size; omega
      have z2' : w.heap.size < w2.heap.size := by omega
      have s2 : ∀ X : Value, (w2.setCell ⟨w.heap.size, 10, none⟩ X).cell? ⟨w.heap.size, 10, none⟩ = some X := fun X => World.cell?_setCell_same' _ _ _ (by rw [k2 _ _ (by omega), k1 _ _ (by simp; omega)]; go_simp)
      go_wp2
      refine bodyPost_ret (v := .agg #[.int .i64 b.src, .int .i64 b.crt, .int .i64 b.seq, .int .i64 f, .int .i64 (b.payload.length : Int), .int .i64 b.dk, .int .i64 b.dn, .int .i64 b.life, .int .i64 b.prio, .int .i64 b.flags, .slice va (b.blocks.filter keepC).length vc, .string (B ((b.payload.drop i).take (j - i)))]) (by simp [results, Try.results69, go_sem, World.cell?_setCell_same', k1, k2, z1, z1']) rfl ?_
      refine ⟨.slice va (b.blocks.filter keepC).length vc, ?_, ?_, belowA⟩
      · unfold bunC
        rw [HP.out, HT.out, if_pos z]
        rfl
      · rw [HB.out]
        refine RBlksD.keep (RBlksD.new_ (N := 0) HR2.out hfr2 (fun b o hb _ => ?_) (by simp; omega) (by simp)) (fun _ _ _ => rfl) (fun q hq => hq.elim (fun h => absurd h (Nat.not_lt_zero q)) Or.inr)
        simp at hb
        simp (disch := (simp; omega)) only [World.cell?_setCell_far]
    · have z' : (b.tot == 0) = false := beq_eq_false_iff_ne.2 z
      go_enter Try.func69, Try.ntmps69
      simp only [bunC]
      go_wp2_with fail
      refine (clone_any b.blocks _ _ (HR.out.below (C := w.heap.size) belowA hN (by first | omega | (simp; done) | (simp; omega))) hl).mono ?_
      rintro e w1 ⟨v1, rfl, hb1, ho1⟩
      obtain ⟨k1, f1⟩ := bcell hb1
      have z1 : w.heap.size + 1 < w1.heap.size := by have := hb1.size; simp at this; omega
      have z1' : w.heap.size < w1.heap.size := by omega
      go_wp2_with fail
      refine (delete_own b.blocks v1 _ _ hb1.size ho1 HF.out hl).mono ?_
      rintro e w2 ⟨v2, rfl, hr2, hb2, hfr2⟩
      obtain ⟨va, vc, rfl, _⟩ := id hr2
      have HR2 := Lib.hid hr2
      have k2 : ∀ b o, b < w.heap.size + 1 + 1 → w2.cell? ⟨b, o, none⟩ = w1.cell? ⟨b, o, none⟩ := fun b o h => hb2.cell (p := ⟨b, o, none⟩) (by simpa using h)
      have f2 : ∀ b o, b < w.heap.size + 1 + 1 → w2.frozen? ⟨b, o, none⟩ = w1.frozen? ⟨b, o, none⟩ := fun b o h => hb2.frozen (p := ⟨b, o, none⟩) (by simpa using h)
      have z2 : w.heap.size + 1 < w2.heap.size := by have := hb2.size; omega
      have z2' : w.heap.size < w2.heap.size := by omega
      have s2 : ∀ X : Value, (w2.setCell ⟨w.heap.size, 10, none⟩ X).cell? ⟨w.heap.size, 10, none⟩ = some X := fun X => World.cell?_setCell_same' _ _ _ (by rw [k2 _ _ (by omega), k1 _ _ (by simp; omega)]; go_simp)
      go_wp2
      refine bodyPost_ret (v := .agg #[.int .i64 b.src, .int .i64 b.crt, .int .i64 b.seq, .int .i64 f, .int .i64 b.tot, .int .i64 b.dk, .int .i64 b.dn, .int .i64 b.life, .int .i64 b.prio, .int .i64 b.flags, .slice va (b.blocks.filter keepC).length vc, .string (B ((b.payload.drop i).take (j - i)))]) (by simp [results, Try.results69, go_sem, World.cell?_setCell_same', k1, k2, z1, z1']) rfl ?_
      refine ⟨.slice va (b.blocks.filter keepC).length vc, ?_, ?_, belowA⟩
      · unfold bunC
        rw [HP.out, HT.out, if_neg z]
        rfl
      · rw [HB.out]
        refine RBlksD.keep (RBlksD.new_ (N := 0) HR2.out hfr2 (fun b o hb _ => ?_) (by simp; omega) (by simp)) (fun _ _ _ => rfl) (fun q hq => hq.elim (fun h => absurd h (Nat.not_lt_zero q)) Or.inr)
        simp at hb
        simp (disch := (simp; omega)) only [World.cell?_setCell_far]
  · have HB : Hid ((cutS b f t).blocks = b.blocks) := Lib.hid (by unfold cutS; simp [zf])
    have zf' : f ≤ 0 := by omega
    by_cases z : b.tot = 0
    · go_enter Try.func69, Try.ntmps69
      simp only [bunC]
      go_wp2
      refine bodyPost_ret (v := .agg #[.int .i64 b.src, .int .i64 b.crt, .int .i64 b.seq, .int .i64 f, .int .i64 (b.payload.length : Int), .int .i64 b.dk, .int .i64 b.dn, .int .i64 b.life, .int .i64 b.prio, .int .i64 b.flags, .slice ua b.blocks.length uc, .string (B ((b.payload.drop i).take (j - i)))]) (by simp [results, Try.results69, go_sem]) rfl ?_
      refine ⟨.slice ua b.blocks.length uc, ?_, ?_, belowA⟩
      · unfold bunC
        rw [HP.out, HT.out, if_pos z]
        rfl
      · rw [HB.out]
        exact RBlksD.keep HD.out (fun q o hq => (belowA : Below w.heap.size w _).cell (p := ⟨q, o, none⟩) (by simpa using hD q hq)) (fun q hq => Or.inl hq)
    · have z' : (b.tot == 0) = false := beq_eq_false_iff_ne.2 z
      go_enter Try.func69, Try.ntmps69
      simp only [bunC]
      go_wp2
      refine bodyPost_ret (v := .agg #[.int .i64 b.src, .int .i64 b.crt, .int .i64 b.seq, .int .i64 f, .int .i64 b.tot, .int .i64 b.dk, .int .i64 b.dn, .int .i64 b.life, .int .i64 b.prio, .int .i64 b.flags, .slice ua b.blocks.length uc, .string (B ((b.payload.drop i).take (j - i)))]) (by simp [results, Try.results69, go_sem]) rfl ?_
      refine ⟨.slice ua b.blocks.length uc, ?_, ?_, belowA⟩
      · unfold bunC
        rw [HP.out, HT.out, if_neg z]
        rfl
      · rw [HB.out]
        exact RBlksD.keep HD.out (fun q o hq => (belowA : Below w.heap.size w _).cell (p := ⟨q, o, none⟩) (by simpa using hD q hq)) (fun q hq => Or.inl hq)
set_option maxHeartbeats 1000000 in
theorem cutrD_any (b : Bun) (u : Value) (f t : Int) (D : Nat → Prop) (w : World) (hD : ∀ q, D q → q < w.heap.size) (hd : RBlksD w D u b.blocks) (hf : Fits b) :
    Calls Try.prog 32 #[.agg (bunC b u).toArray, .int .i64 f, .int .i64 t] w (BunEPostD D (cutR b f t).1 (cutR b f t).2 w) := by
  have hN : w.heap.size ≤ w.heap.size := Nat.le_refl _
  have h : RBlks w w.heap.size u b.blocks := hd.to hD
  have HD := Lib.hid hd
  clear hd
  obtain ⟨E, hE⟩ : ∃ E, chkE b = E := ⟨_, rfl⟩
  obtain ⟨C, hC⟩ : ∃ E, cutE b = E := ⟨_, rfl⟩
  obtain ⟨ua, uc, rfl, _⟩ := id h
  have HR := Lib.hid h
  have HF := Lib.hid hf
  have HE := Lib.hid hE
  have HC := Lib.hid hC
  clear h hf
  by_cases z : E = 0
  case neg =>
    have z' : (E != 0) = true := by simpa using z
    have hr : cutR b f t = (zBun, 1) := by unfold cutR; rw [hE, if_pos z]
    rw [hr]
    clear hE hC z hr
    go_enter Try.func32, Try.ntmps32
    simp only [bunC]
    go_wp2_with fail
    refine (check_any b _ _ (HR.out.below (C := w.heap.size) belowA hN (by first | omega | (simp; done) | (simp; omega))) HF.out).mono ?_
    rintro e w1 ⟨rfl, hb1⟩
    rw [HE.out]
    obtain ⟨k1, f1⟩ := bcell hb1
    have z1 : w.heap.size + 1 < w1.heap.size := by have := hb1.size; simp at this; omega
    go_wp2
    refine bodyPost_ret (v := .tuple #[.agg #[.int .i64 0, .int .i64 0, .int .i64 0, .int .i64 0, .int .i64 0, .int .i64 0, .int .i64 0, .int .i64 0, .int .i64 0, .int .i64 0, .slice none 0 0, .string (B [])], .int .i64 1]) (by simp [results, Try.results32, go_sem, World.cell?_setCell_same', k1, z1]; rfl) rfl ?_
    exact ⟨_, rfl, RBlksD.nil _ _, belowA⟩
  subst z
  obtain ⟨v1, v2, v3, v4, v5, v6, v7, v8, _, _⟩ := valid_facts hE
  have HV := Lib.hid (valid_blocks hE)
  by_cases y : C = 0
  case neg =>
    have y' : (C != 0) = true := by simpa using y
    have hr : cutR b f t = (zBun, C) := by unfold cutR; rw [hE, hC, if_neg (by simp), if_pos y]
    rw [hr]
    clear hE hC y hr
    go_enter Try.func32, Try.ntmps32
    simp only [bunC]
    go_wp2_with fail
    refine (check_any b _ _ (HR.out.below (C := w.heap.size) belowA hN (by first | omega | (simp; done) | (simp; omega))) HF.out).mono ?_
    rintro e w1 ⟨rfl, hb1⟩
    rw [HE.out]
    obtain ⟨k1, f1⟩ := bcell hb1
    have z1 : w.heap.size + 1 < w1.heap.size := by have := hb1.size; simp at this; omega
    have z1' : w.heap.size < w1.heap.size := by omega
    go_wp2_with fail
    refine (cuttable_any b _ _ v6 v7).mono ?_
    rintro e w2 ⟨rfl, hb2⟩
    rw [HC.out]
    obtain ⟨k2, f2⟩ := bcell hb2
    have z2 : w.heap.size + 1 < w2.heap.size := by have := hb2.size; omega
    go_wp2
    refine bodyPost_ret (v := .tuple #[.agg #[.int .i64 0, .int .i64 0, .int .i64 0, .int .i64 0, .int .i64 0, .int .i64 0, .int .i64 0, .int .i64 0, .int .i64 0, .int .i64 0, .slice none 0 0, .string (B [])], .int .i64 C]) (by simp [results, Try.results32, go_sem, World.cell?_setCell_same', k1, k2, z1, z2]; rfl) rfl ?_
    exact ⟨_, rfl, RBlksD.nil _ _, belowA⟩
  subst y
  have hr : cutR b f t = if t ≤ f ∨ f < b.off ∨ b.off + b.payload.length < t then (zBun, 2) else (cutS b f t, 0) := by unfold cutR; rw [hE, hC, if_neg (by simp), if_neg (by simp)]
  have HRR := Lib.hid hr
  clear hr hE hC
  have hl := HF.out.1
  unfold maxLen at hl
  by_cases x : t ≤ f ∨ f < b.off ∨ b.off + b.payload.length < t
  case pos =>
    have hr : cutR b f t = (zBun, 2) := by rw [HRR.out, if_pos x]
    rw [hr]
    clear hr HRR
    have X := Lib.hid x
    by_cases x1 : t ≤ f
    all_goals (try (have x1' : f < t := by omega))
    all_goals (by_cases x2 : f < b.off)
    all_goals (try (have x2' : b.off ≤ f := by omega))
    all_goals
      (try (have x3' : b.off + b.payload.length < t := by omega))
      clear x
      go_enter Try.func32, Try.ntmps32
      simp only [bunC]
      go_wp2_with fail
      refine (check_any b _ _ (HR.out.below (C := w.heap.size) belowA hN (by first | omega | (simp; done) | (simp; omega))) HF.out).mono ?_
      rintro e w1 ⟨rfl, hb1⟩
      rw [HE.out]
      obtain ⟨k1, f1⟩ := bcell hb1
      have z1 : w.heap.size + 1 < w1.heap.size := by have := hb1.size; simp at this; omega
      have z1' : w.heap.size < w1.heap.size := by omega
      go_wp2_with fail
      refine (cuttable_any b _ _ v6 v7).mono ?_
      rintro e w2 ⟨rfl, hb2⟩
      rw [HC.out]
      obtain ⟨k2, f2⟩ := bcell hb2
      have z2 : w.heap.size + 1 < w2.heap.size := by have := hb2.size; omega
      have z2' : w.heap.size < w2.heap.size := by omega
      go_wp2_with fail
      refine (span_any b _ _ v1 (by omega) (by omega)).mono ?_
      rintro e w3 ⟨rfl, hb3⟩
      obtain ⟨k3, f3⟩ := bcell hb3
      have z3 : w.heap.size + 1 < w3.heap.size := by have := hb3.size; omega
      have z3' : w.heap.size < w3.heap.size := by omega
      go_wp2
      all_goals
        refine bodyPost_ret (v := .tuple #[.agg #[.int .i64 0, .int .i64 0, .int .i64 0, .int .i64 0, .int .i64 0, .int .i64 0, .int .i64 0, .int .i64 0, .int .i64 0, .int .i64 0, .slice none 0 0, .string (B [])], .int .i64 2]) (by simp [results, Try.results32, go_sem, World.cell?_setCell_same', k1, k2, k3, z1, z2, z3]; rfl) rfl ?_
        exact ⟨_, rfl, RBlksD.nil _ _, belowA⟩
  have hr : cutR b f t = (cutS b f t, 0) := by rw [HRR.out, if_neg x]
  rw [hr]
  clear hr HRR
  have x1 : f < t := by omega
  have x2 : b.off ≤ f := by omega
  have x3 : t ≤ b.off + b.payload.length := by omega
  clear x
  obtain ⟨c, hc⟩ : ∃ c, cutS b f t = c := ⟨_, rfl⟩
  have HCC := Lib.hid hc
  rw [hc]
  clear hc
  go_enter Try.func32, Try.ntmps32
  simp only [bunC]
  go_wp2_with fail
  refine (check_any b _ _ (HR.out.below (C := w.heap.size) belowA hN (by first | omega | (simp; done) | (simp; omega))) HF.out).mono ?_
  rintro e w1 ⟨rfl, hb1⟩
  rw [HE.out]
  obtain ⟨k1, f1⟩ := bcell hb1
  have z1 : w.heap.size + 1 < w1.heap.size := by have := hb1.size; simp at this; omega
  have z1' : w.heap.size < w1.heap.size := by omega
  go_wp2_with fail
  refine (cuttable_any b _ _ v6 v7).mono ?_
  rintro e w2 ⟨rfl, hb2⟩
  rw [HC.out]
  obtain ⟨k2, f2⟩ := bcell hb2
  have z2 : w.heap.size + 1 < w2.heap.size := by have := hb2.size; omega
  have z2' : w.heap.size < w2.heap.size := by omega
  go_wp2_with fail
  refine (span_any b _ _ v1 (by omega) (by omega)).mono ?_
  rintro e w3 ⟨rfl, hb3⟩
  obtain ⟨k3, f3⟩ := bcell hb3
  have z3 : w.heap.size + 1 < w3.heap.size := by have := hb3.size; omega
  have z3' : w.heap.size < w3.heap.size := by omega
  go_wp2_with fail
  have hB3 : Below w.heap.size w (w3.alloc (.cells #[.int .i64 b.off, .int .i64 (b.off + b.payload.length)] 47)) := belowA
  refine (cutD_any b _ f t D _ (fun q hq => by have := hD q hq; have := hB3.size; omega) (HD.out.keep (fun q o hq => hB3.cell (p := ⟨q, o, none⟩) (by simpa using hD q hq)) (fun _ h => h)) v1 x2 (by omega) x3 (by omega) (by omega) HV.out (by omega)).mono ?_
  rintro e w4 ⟨u4, rfl, hr4, hb4⟩
  rw [HCC.out] at hr4
  rw [HCC.out]
  obtain ⟨a4, c4, rfl, _⟩ := id hr4
  have HR4 := Lib.hid hr4
  clear hr4
  obtain ⟨k4, f4⟩ := bcell hb4
  have z4 : w.heap.size + 1 < w4.heap.size := by have := hb4.size; simp at this; omega
  simp only [bunC]
  go_wp2
  refine bodyPost_ret (v := .tuple #[.agg #[.int .i64 c.src, .int .i64 c.crt, .int .i64 c.seq, .int .i64 c.off, .int .i64 c.tot, .int .i64 c.dk, .int .i64 c.dn, .int .i64 c.life, .int .i64 c.prio, .int .i64 c.flags, .slice a4 c.blocks.length c4, .string (B c.payload)], .int .i64 0]) (by simp [results, Try.results32, go_sem, World.cell?_setCell_same', k1, k2, k3, k4, z1, z2, z3, z1', z2', z3', z4]) rfl ?_
  refine ⟨_, rfl, HR4.out.keep (fun q o hq => ?_) (fun q hq => ?_), belowA⟩
  · have : q ≠ w.heap.size + 1 := by
      rcases hq with hq | hq
      · have := hD q hq; omega
      · (try simp at hq); omega
    simp (disch := (simp; omega)) only [World.cell?_setCell_far]
  · rcases hq with hq | hq
    · exact .inl hq
    · refine .inr ?_
      simp at hq ⊢
      omega
end Go.Proofs.Ytpnfkmlgelcbgaa
