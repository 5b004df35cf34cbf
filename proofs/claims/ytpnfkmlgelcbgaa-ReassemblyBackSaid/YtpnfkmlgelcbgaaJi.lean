/- Joined by port.py: XFc XFd XFe XFf -/
import Derived.Test.YtpnfkmlgelcbgaaJh
import Derived.Test.YtpnfkmlgelcbgaaJa
import Derived.Test.YtpnfkmlgelcbgaaJb
import Derived.Test.YtpnfkmlgelcbgaaJc
set_option linter.unusedVariables false
set_option linter.unusedSimpArgs false
/-! XFc -/
namespace Go.Proofs.Ytpnfkmlgelcbgaa
open Go Go.RowKit
attribute [local go_sem] B_getElem B_size B_app B_extract B_get B_toList
def cutS (b : Bun) (f t : Int) : Bun :=
  { b with tot := (if b.tot = 0 then (b.payload.length : Int) else b.tot), off := f, payload := (b.payload.drop (f - b.off).toNat).take (t - f).toNat, blocks := (if 0 < f then b.blocks.filter keepC else b.blocks) }
/-- a bundle comes back -/
def BunPost (N : Nat) (b : Bun) (w : World) (e : Ending) (w' : World) : Prop := ∃ u, e = .returned (.agg (bunC b u).toArray) ∧ RBlksD w' (OldNew N w w') u b.blocks ∧ Below w.heap.size w w'
set_option maxHeartbeats 1000000 in
theorem span_any (b : Bun) (u : Value) (w : World) (h1 : 0 ≤ b.off) (h2 : b.off ≤ 100000) (h3 : b.payload.length ≤ 100000) :
    Calls Try.prog 68 #[.agg (bunC b u).toArray] w fun e w' => e = .returned (.agg #[.int .i64 b.off, .int .i64 (b.off + b.payload.length)]) ∧ Below w.heap.size w w' := by
  go_enter Try.func68, Try.ntmps68
  simp only [bunC]
  go_wp2
  refine bodyPost_ret (v := .agg #[.int .i64 b.off, .int .i64 (b.off + b.payload.length)]) (by simp [results, Try.results68, go_sem]) rfl ?_
  exact ⟨rfl, belowA⟩
/-- why a valid bundle cannot be cut -/
def cutE (b : Bun) : Int := if hasF b.flags 2 = true then 19 else if b.payload = [] then 20 else 0
set_option maxHeartbeats 1000000 in
theorem cuttable_any (b : Bun) (u : Value) (w : World) (h1 : 0 ≤ b.flags) (h2 : b.flags ≤ 127) :
    Calls Try.prog 67 #[.agg (bunC b u).toArray] w fun e w' => e = .returned (.int .i64 (cutE b)) ∧ Below w.heap.size w w' := by
  obtain ⟨_, _, a3⟩ := and_flag b.flags h1 h2
  obtain ⟨E, hE⟩ : ∃ E, cutE b = E := ⟨_, rfl⟩
  have HE := Lib.hid hE
  rw [hE]
  obtain ⟨r, hr⟩ : ∃ p, hasF b.flags 2 = p := ⟨_, rfl⟩
  rw [hr] at a3
  have HR := Lib.hid hr
  clear hE hr
  go_enter Try.func67, Try.ntmps67
  simp only [bunC]
  go_wp2
  all_goals
    go_ret
    refine ⟨ret_int ?_, belowA⟩
    rw [← HE.out]
    unfold cutE
    rw [HR.out]
    first | (simp [*]; done) | (simp_all; done) | (rename_i hz; simp at hz; simp [hz, *])
set_option maxRecDepth 100000 in
set_option maxHeartbeats 1000000 in
theorem cut_any (b : Bun) (u : Value) (f t : Int) (N : Nat) (w : World) (hN : N ≤ w.heap.size) (h : RBlks w N u b.blocks) (h0 : 0 ≤ b.off) (h1 : b.off ≤ f) (h2 : f ≤ t) (h3 : t ≤ b.off + b.payload.length) (h4 : b.off ≤ 100000) (h5 : b.payload.length ≤ 100000)
    (hf : ∀ x ∈ b.blocks, 0 ≤ x.flags ∧ x.flags ≤ 15) (hl : b.blocks.length ≤ 1000) :
    Calls Try.prog 69 #[.agg (bunC b u).toArray, .int .i64 f, .int .i64 t] w (BunPost N (cutS b f t) w) := by
  obtain ⟨i, hi⟩ : ∃ i : Nat, f - b.off = i := ⟨(f - b.off).toNat, by omega⟩
  obtain ⟨j, hj⟩ : ∃ j : Nat, t - b.off = j := ⟨(t - b.off).toNat, by omega⟩
  have i1 : i ≤ j := by omega
  have i2 : j ≤ b.payload.length := by omega
  have hP : (cutS b f t).payload = (b.payload.drop i).take (j - i) := by
    unfold cutS
    show (b.payload.drop (f - b.off).toNat).take (t - f).toNat = _
    rw [show (f - b.off).toNat = i by omega, show (t - f).toNat = j - i by omega]
  have HP := Lib.hid hP
  obtain ⟨ua, uc, rfl, _⟩ := id h
  have HR := Lib.hid h
  have HF := Lib.hid hf
  clear hP h hf
  have i3 : (0 : Int) ≤ (i : Int) := by omega
  have i4 : (i : Int) ≤ (j : Int) := by omega
  have i5 : (j : Int) ≤ (b.payload.length : Int) := by omega
  have HT : Hid ((cutS b f t).tot = if b.tot = 0 then (b.payload.length : Int) else b.tot) := Lib.hid rfl
  by_cases zf : 0 < f
  · have HB : Hid ((cutS b f t).blocks = b.blocks.filter keepC) := Lib.hid (by unfold cutS; simp [zf])
    by_cases z : b.tot = 0
    · go_enter Try.func69, Try.ntmps69
      simp only [bunC]
      go_wp2_with fail
      refine (clone_any b.blocks _ _ (HR.out.below (C := w.heap.size) belowA hN (by first | omega | (simp; done) | (simp; omega))) hl).mono ?_
      rintro e w1 ⟨v1, rfl, hb1, ho1⟩
      obtain ⟨k1, f1⟩ := bcell hb1
      have z1 : w.heap.size + 1 < w1.heap.size := by have := hb1.size; simp at this; omega
      have z1' : w.heap.size < w1.heap.size := by omega
      go_wp2_with fail
      refine (delete_own b.blocks v1 _ _ hb1.size ho1 HF.out hl).mono ?_
      rintro e w2 ⟨v2, rfl, hr2, hb2, hfr2⟩
      obtain ⟨va, vc, rfl, _⟩ := id hr2
      have HR2 := Lib.hid hr2
      have k2 : ∀ b o, b < w.heap.size + 1 + 1 → w2.cell? ⟨b, o, none⟩ = w1.cell? ⟨b, o, none⟩ := fun b o h => hb2.cell (p := ⟨b, o, none⟩) (by simpa using h)
      have f2 : ∀ b o, b < w.heap.size + 1 + 1 → w2.frozen? ⟨b, o, none⟩ = w1.frozen? ⟨b, o, none⟩ := fun b o h => hb2.frozen (p := ⟨b, o, none⟩) (by simpa using h)
      have z2 : w.heap.size + 1 < w2.heap.size := by have := hb2.size; omega
      have z2' : w.heap.size < w2.heap.size := by omega
      have s2 : ∀ X : Value, (w2.setCell ⟨w.heap.size, 10, none⟩ X).cell? ⟨w.heap.size, 10, none⟩ = some X := fun X => World.cell?_setCell_same' _ _ _ (by rw [k2 _ _ (by omega), k1 _ _ (by simp; omega)]; go_simp)
      go_wp2
      refine bodyPost_ret (v := .agg #[.int .i64 b.src, .int .i64 b.crt, .int .i64 b.seq, .int .i64 f, .int .i64 (b.payload.length : Int), .int .i64 b.dk, .int .i64 b.dn, .int .i64 b.life, .int .i64 b.prio, .int .i64 b.flags, .slice va (b.blocks.filter keepC).length vc, .string (B ((b.payload.drop i).take (j - i)))]) (by simp [results, Try.results69, go_sem, World.cell?_setCell_same', k1, k2, z1, z1']) rfl ?_
      refine ⟨.slice va (b.blocks.filter keepC).length vc, ?_, ?_, belowA⟩
      · unfold bunC
        rw [HP.out, HT.out, if_pos z]
        rfl
      · rw [HB.out]
        refine RBlksD.new_ HR2.out hfr2 (fun b o hb _ => ?_) (by simp; omega) (by simp)
        simp at hb
        simp (disch := (simp; omega)) only [World.cell?_setCell_far]
    · have z' : (b.tot == 0) = false := beq_eq_false_iff_ne.2 z
      go_enter Try.func69, Try.ntmps69
      simp only [bunC]
      go_wp2_with fail
      refine (clone_any b.blocks _ _ (HR.out.below (C := w.heap.size) belowA hN (by first | omega | (simp; done) | (simp; omega))) hl).mono ?_
      rintro e w1 ⟨v1, rfl, hb1, ho1⟩
      obtain ⟨k1, f1⟩ := bcell hb1
      have z1 : w.heap.size + 1 < w1.heap.size := by have := hb1.size; simp at this; omega
      have z1' : w.heap.size < w1.heap.size := by omega
      go_wp2_with fail
      refine (delete_own b.blocks v1 _ _ hb1.size ho1 HF.out hl).mono ?_
      rintro e w2 ⟨v2, rfl, hr2, hb2, hfr2⟩
      obtain ⟨va, vc, rfl, _⟩ := id hr2
      have HR2 := Lib.hid hr2
      have k2 : ∀ b o, b < w.heap.size + 1 + 1 → w2.cell? ⟨b, o, none⟩ = w1.cell? ⟨b, o, none⟩ := fun b o h => hb2.cell (p := ⟨b, o, none⟩) (by simpa using h)
      have f2 : ∀ b o, b < w.heap.size + 1 + 1 → w2.frozen? ⟨b, o, none⟩ = w1.frozen? ⟨b, o, none⟩ := fun b o h => hb2.frozen (p := ⟨b, o, none⟩) (by simpa using h)
      have z2 : w.heap.size + 1 < w2.heap.size := by have := hb2.size; omega
      have z2' : w.heap.size < w2.heap.size := by omega
      have s2 : ∀ X : Value, (w2.setCell ⟨w.heap.size, 10, none⟩ X).cell? ⟨w.heap.size, 10, none⟩ = some X := fun X => World.cell?_setCell_same' _ _ _ (by rw [k2 _ _ (by omega), k1 _ _ (by simp; omega)]; go_simp)
      go_wp2
      refine bodyPost_ret (v := .agg #[.int .i64 b.src, .int .i64 b.crt, .int .i64 b.seq, .int .i64 f, .int .i64 b.tot, .int .i64 b.dk, .int .i64 b.dn, .int .i64 b.life, .int .i64 b.prio, .int .i64 b.flags, .slice va (b.blocks.filter keepC).length vc, .string (B ((b.payload.drop i).take (j - i)))]) (by simp [results, Try.results69, go_sem, World.cell?_setCell_same', k1, k2, z1, z1']) rfl ?_
      refine ⟨.slice va (b.blocks.filter keepC).length vc, ?_, ?_, belowA⟩
      · unfold bunC
        rw [HP.out, HT.out, if_neg z]
        rfl
      · rw [HB.out]
        refine RBlksD.new_ HR2.out hfr2 (fun b o hb _ => ?_) (by simp; omega) (by simp)
        simp at hb
        simp (disch := (simp; omega)) only [World.cell?_setCell_far]
  · have HB : Hid ((cutS b f t).blocks = b.blocks) := Lib.hid (by unfold cutS; simp [zf])
    have zf' : f ≤ 0 := by omega
    by_cases z : b.tot = 0
    · go_enter Try.func69, Try.ntmps69
      simp only [bunC]
      go_wp2
      refine bodyPost_ret (v := .agg #[.int .i64 b.src, .int .i64 b.crt, .int .i64 b.seq, .int .i64 f, .int .i64 (b.payload.length : Int), .int .i64 b.dk, .int .i64 b.dn, .int .i64 b.life, .int .i64 b.prio, .int .i64 b.flags, .slice ua b.blocks.length uc, .string (B ((b.payload.drop i).take (j - i)))]) (by simp [results, Try.results69, go_sem]) rfl ?_
      refine ⟨.slice ua b.blocks.length uc, ?_, ?_, belowA⟩
      · unfold bunC
        rw [HP.out, HT.out, if_pos z]
        rfl
      · rw [HB.out]
        exact RBlksD.old HR.out (C := w.heap.size) belowA hN _
    · have z' : (b.tot == 0) = false := beq_eq_false_iff_ne.2 z
      go_enter Try.func69, Try.ntmps69
      simp only [bunC]
      go_wp2
      refine bodyPost_ret (v := .agg #[.int .i64 b.src, .int .i64 b.crt, .int .i64 b.seq, .int .i64 f, .int .i64 b.tot, .int .i64 b.dk, .int .i64 b.dn, .int .i64 b.life, .int .i64 b.prio, .int .i64 b.flags, .slice ua b.blocks.length uc, .string (B ((b.payload.drop i).take (j - i)))]) (by simp [results, Try.results69, go_sem]) rfl ?_
      refine ⟨.slice ua b.blocks.length uc, ?_, ?_, belowA⟩
      · unfold bunC
        rw [HP.out, HT.out, if_neg z]
        rfl
      · rw [HB.out]
        exact RBlksD.old HR.out (C := w.heap.size) belowA hN _
end Go.Proofs.Ytpnfkmlgelcbgaa
/-! XFd -/
namespace Go.Proofs.Ytpnfkmlgelcbgaa
open Go Go.RowKit
attribute [local go_sem] B_getElem B_size B_app B_extract B_get B_toList
/-- the cells of the reference's out -/
def outC (b : Bun) (f T : Int) (va : Option Addr) (n c : Nat) (p : List UInt8) : Array Value :=
  #[.int .i64 b.src, .int .i64 b.crt, .int .i64 b.seq, .int .i64 f, .int .i64 T, .int .i64 b.dk, .int .i64 b.dn, .int .i64 b.life, .int .i64 b.prio, .int .i64 b.flags, .slice va n c, .string (B p)]
end Go.Proofs.Ytpnfkmlgelcbgaa
/-! XFe -/
namespace Go.Proofs.Ytpnfkmlgelcbgaa
open Go Go.RowKit
attribute [local go_sem] B_getElem B_size B_app B_extract B_get B_toList
theorem chkE_zero {b : Bun} (h : chkE b = 0) : idB b = true ∧ flB b = true ∧ blksE b.blocks = 0 ∧ payE b = 0 ∧ (1 ≤ b.life ∧ b.life ≤ 1099511627776 - b.crt) ∧ (0 ≤ b.prio ∧ b.prio ≤ 2) ∧ endE b.dk b.dn = 0 := by
  unfold chkE at h
  split at h
  · contradiction
  · rename_i h1
    split at h
    · contradiction
    · rename_i h2
      split at h
      · simp at h
      · split at h
        · simp at h
        · split at h
          · contradiction
          · rename_i h5
            split at h
            · contradiction
            · rename_i h6
              refine ⟨idE_zero (by simpa using h1), ?_, by simpa using h6, h, by omega, by omega, by simpa using h2⟩
              unfold flE at h5
              cases hb : flB b with
              | true => rfl
              | false => rw [hb] at h5; simp at h5
theorem blksE_zero {l : List Blk} (h : blksE l = 0) : l.length ≤ 8 ∧ firstE l = 0 ∧ ordB l = true := by
  unfold blksE at h
  split at h
  · simp at h
  · split at h
    · contradiction
    · split at h
      · rename_i h1 h2 h3; exact ⟨by omega, by simpa using h2, h3⟩
      · simp at h
theorem payE_zero {b : Bun} (h : payE b = 0) : b.payload.length ≤ 4096 ∧ (0 < b.tot → 1 ≤ b.payload.length ∧ (b.payload.length : Int) ≤ b.tot - b.off) := by
  unfold payE at h
  split at h
  · simp at h
  · split at h
    · simp at h
    · rename_i h1 h2
      refine ⟨by omega, fun ht => ?_⟩
      by_cases h3 : 1 ≤ b.payload.length ∧ (b.payload.length : Int) ≤ b.tot - b.off
      · exact h3
      · exact absurd ⟨ht, h3⟩ h2
/-- what a valid bundle's fields are -/
theorem valid_facts {b : Bun} (h : chkE b = 0) : 0 ≤ b.off ∧ b.off ≤ 4096 ∧ 0 ≤ b.tot ∧ b.tot ≤ 4096 ∧ b.payload.length ≤ 4096 ∧ 0 ≤ b.flags ∧ b.flags ≤ 127 ∧ b.blocks.length ≤ 8 ∧ (b.tot = 0 → b.off = 0) ∧ (0 < b.tot → 1 ≤ b.payload.length ∧ b.off + (b.payload.length : Int) ≤ b.tot) := by
  obtain ⟨h1, h2, h3, h4, _⟩ := chkE_zero h
  have a := of_decide_eq_true h1
  have c := payE_zero h4
  have d := blksE_zero h3
  unfold flB at h2
  simp only [Bool.and_eq_true, decide_eq_true_eq] at h2
  obtain ⟨⟨h5, _⟩, _⟩ := h2
  refine ⟨by omega, by omega, by omega, by omega, c.1, h5.1, h5.2, d.1, by omega, fun ht => ?_⟩
  have := c.2 ht
  omega
theorem valid_blocks {b : Bun} (h : chkE b = 0) : ∀ x ∈ b.blocks, 0 ≤ x.flags ∧ x.flags ≤ 15 := fun x hx => by
  obtain ⟨_, _, h3, _⟩ := chkE_zero h
  have := blkE_zero (firstE_zero (blksE_zero h3).2.1 x hx)
  omega
def zBun : Bun := ⟨0, 0, 0, 0, 0, 0, 0, 0, 0, 0, [], []⟩
/-- a bundle and an error come back -/
def BunEPost (N : Nat) (b : Bun) (E : Int) (w : World) (e : Ending) (w' : World) : Prop := ∃ u, e = .returned (.tuple #[.agg (bunC b u).toArray, .int .i64 E]) ∧ RBlksD w' (OldNew N w w') u b.blocks ∧ Below w.heap.size w w'
def cutR (b : Bun) (f t : Int) : Bun × Int :=
  if chkE b ≠ 0 then (zBun, 1) else if cutE b ≠ 0 then (zBun, cutE b) else if t ≤ f ∨ f < b.off ∨ b.off + b.payload.length < t then (zBun, 2) else (cutS b f t, 0)
def isS (b : Bun) : Bool := decide (chkE b = 0) && decide (0 < b.tot)
def spanR (b : Bun) : Int × Int × Int := if chkE b ≠ 0 then (0, 0, 1) else (b.off, b.off + b.payload.length, 0)
set_option maxHeartbeats 1000000 in
theorem cutr_any (b : Bun) (u : Value) (f t : Int) (N : Nat) (w : World) (hN : N ≤ w.heap.size) (h : RBlks w N u b.blocks) (hf : Fits b) :
    Calls Try.prog 32 #[.agg (bunC b u).toArray, .int .i64 f, .int .i64 t] w (BunEPost N (cutR b f t).1 (cutR b f t).2 w) := by
  obtain ⟨E, hE⟩ : ∃ E, chkE b = E := ⟨_, rfl⟩
  obtain ⟨C, hC⟩ : ∃ E, cutE b = E := ⟨_, rfl⟩
  obtain ⟨ua, uc, rfl, _⟩ := id h
  have HR := Lib.hid h
  have HF := Lib.hid hf
  have HE := Lib.hid hE
  have HC := Lib.hid hC
  clear h hf
  by_cases z : E = 0
  case neg =>
    have z' : (E != 0) = true := by simpa using z
    have hr : cutR b f t = (zBun, 1) := by unfold cutR; rw [hE, if_pos z]
    rw [hr]
    clear hE hC z hr
    go_enter Try.func32, Try.ntmps32
    simp only [bunC]
    go_wp2_with fail
    refine (check_any b _ _ (HR.out.below (C := w.heap.size) belowA hN (by first | omega | (simp; done) | (simp; omega))) HF.out).mono ?_
    rintro e w1 ⟨rfl, hb1⟩
    rw [HE.out]
    obtain ⟨k1, f1⟩ := bcell hb1
    have z1 : w.heap.size + 1 < w1.heap.size := by have := hb1.size; simp at this; omega
    go_wp2
    refine bodyPost_ret (v := .tuple #[.agg #[.int .i64 0, .int .i64 0, .int .i64 0, .int .i64 0, .int .i64 0, .int .i64 0, .int .i64 0, .int .i64 0, .int .i64 0, .int .i64 0, .slice none 0 0, .string (B [])], .int .i64 1]) (by simp [results, Try.results32, go_sem, World.cell?_setCell_same', k1, z1]; rfl) rfl ?_
    exact ⟨_, rfl, RBlksD.nil _ _, belowA⟩
  subst z
  obtain ⟨v1, v2, v3, v4, v5, v6, v7, v8, _, _⟩ := valid_facts hE
  have HV := Lib.hid (valid_blocks hE)
  by_cases y : C = 0
  case neg =>
    have y' : (C != 0) = true := by simpa using y
    have hr : cutR b f t = (zBun, C) := by unfold cutR; rw [hE, hC, if_neg (by simp), if_pos y]
    rw [hr]
    clear hE hC y hr
    go_enter Try.func32, Try.ntmps32
    simp only [bunC]
    go_wp2_with fail
    refine (check_any b _ _ (HR.out.below (C := w.heap.size) belowA hN (by first | omega | (simp; done) | (simp; omega))) HF.out).mono ?_
    rintro e w1 ⟨rfl, hb1⟩
    rw [HE.out]
    obtain ⟨k1, f1⟩ := bcell hb1
    have z1 : w.heap.size + 1 < w1.heap.size := by have := hb1.size; simp at this; omega
    have z1' : w.heap.size < w1.heap.size := by omega
    go_wp2_with fail
    refine (cuttable_any b _ _ v6 v7).mono ?_
    rintro e w2 ⟨rfl, hb2⟩
    rw [HC.out]
    obtain ⟨k2, f2⟩ := bcell hb2
    have z2 : w.heap.size + 1 < w2.heap.size := by have := hb2.size; omega
    go_wp2
    refine bodyPost_ret (v := .tuple #[.agg #[.int .i64 0, .int .i64 0, .int .i64 0, .int .i64 0, .int .i64 0, .int .i64 0, .int .i64 0, .int .i64 0, .int .i64 0, .int .i64 0, .slice none 0 0, .string (B [])], .int .i64 C]) (by simp [results, Try.results32, go_sem, World.cell?_setCell_same', k1, k2, z1, z2]; rfl) rfl ?_
    exact ⟨_, rfl, RBlksD.nil _ _, belowA⟩
  subst y
  have hr : cutR b f t = if t ≤ f ∨ f < b.off ∨ b.off + b.payload.length < t then (zBun, 2) else (cutS b f t, 0) := by unfold cutR; rw [hE, hC, if_neg (by simp), if_neg (by simp)]
  have HRR := Lib.hid hr
  clear hr hE hC
  have hl := HF.out.1
  unfold maxLen at hl
  by_cases x : t ≤ f ∨ f < b.off ∨ b.off + b.payload.length < t
  case pos =>
    have hr : cutR b f t = (zBun, 2) := by rw [HRR.out, if_pos x]
    rw [hr]
    clear hr HRR
    have X := Lib.hid x
    by_cases x1 : t ≤ f
    all_goals (try (have x1' : f < t := by omega))
    all_goals (by_cases x2 : f < b.off)
    all_goals (try (have x2' : b.off ≤ f := by omega))
    all_goals
      (try (have x3' : b.off + b.payload.length < t := by omega))
      clear x
      go_enter Try.func32, Try.ntmps32
      simp only [bunC]
      go_wp2_with fail
      refine (check_any b _ _ (HR.out.below (C := w.heap.size) belowA hN (by first | omega | (simp; done) | (simp; omega))) HF.out).mono ?_
      rintro e w1 ⟨rfl, hb1⟩
      rw [HE.out]
      obtain ⟨k1, f1⟩ := bcell hb1
      have z1 : w.heap.size + 1 < w1.heap.size := by have := hb1.size; simp at this; omega
      have z1' : w.heap.size < w1.heap.size := by omega
      go_wp2_with fail
      refine (cuttable_any b _ _ v6 v7).mono ?_
      rintro e w2 ⟨rfl, hb2⟩
      rw [HC.out]
      obtain ⟨k2, f2⟩ := bcell hb2
      have z2 : w.heap.size + 1 < w2.heap.size := by have := hb2.size; omega
      have z2' : w.heap.size < w2.heap.size := by omega
      go_wp2_with fail
      refine (span_any b _ _ v1 (by omega) (by omega)).mono ?_
      rintro e w3 ⟨rfl, hb3⟩
      obtain ⟨k3, f3⟩ := bcell hb3
      have z3 : w.heap.size + 1 < w3.heap.size := by have := hb3.size; omega
      have z3' : w.heap.size < w3.heap.size := by omega
      go_wp2
      all_goals
        refine bodyPost_ret (v := .tuple #[.agg #[.int .i64 0, .int .i64 0, .int .i64 0, .int .i64 0, .int .i64 0, .int .i64 0, .int .i64 0, .int .i64 0, .int .i64 0, .int .i64 0, .slice none 0 0, .string (B [])], .int .i64 2]) (by simp [results, Try.results32, go_sem, World.cell?_setCell_same', k1, k2, k3, z1, z2, z3]; rfl) rfl ?_
        exact ⟨_, rfl, RBlksD.nil _ _, belowA⟩
  have hr : cutR b f t = (cutS b f t, 0) := by rw [HRR.out, if_neg x]
  rw [hr]
  clear hr HRR
  have x1 : f < t := by omega
  have x2 : b.off ≤ f := by omega
  have x3 : t ≤ b.off + b.payload.length := by omega
  clear x
  obtain ⟨c, hc⟩ : ∃ c, cutS b f t = c := ⟨_, rfl⟩
  have HCC := Lib.hid hc
  rw [hc]
  clear hc
  go_enter Try.func32, Try.ntmps32
  simp only [bunC]
  go_wp2_with fail
  refine (check_any b _ _ (HR.out.below (C := w.heap.size) belowA hN (by first | omega | (simp; done) | (simp; omega))) HF.out).mono ?_
  rintro e w1 ⟨rfl, hb1⟩
  rw [HE.out]
  obtain ⟨k1, f1⟩ := bcell hb1
  have z1 : w.heap.size + 1 < w1.heap.size := by have := hb1.size; simp at this; omega
  have z1' : w.heap.size < w1.heap.size := by omega
  go_wp2_with fail
  refine (cuttable_any b _ _ v6 v7).mono ?_
  rintro e w2 ⟨rfl, hb2⟩
  rw [HC.out]
  obtain ⟨k2, f2⟩ := bcell hb2
  have z2 : w.heap.size + 1 < w2.heap.size := by have := hb2.size; omega
  have z2' : w.heap.size < w2.heap.size := by omega
  go_wp2_with fail
  refine (span_any b _ _ v1 (by omega) (by omega)).mono ?_
  rintro e w3 ⟨rfl, hb3⟩
  obtain ⟨k3, f3⟩ := bcell hb3
  have z3 : w.heap.size + 1 < w3.heap.size := by have := hb3.size; omega
  have z3' : w.heap.size < w3.heap.size := by omega
  go_wp2_with fail
  have hB3 : Below w.heap.size w (w3.alloc (.cells #[.int .i64 b.off, .int .i64 (b.off + b.payload.length)] 47)) := belowA
  refine (cut_any b _ f t N _ (by simp; omega) (HR.out.below (C := w.heap.size) (by exact hB3) hN (Nat.le_refl _)) v1 x2 (by omega) x3 (by omega) (by omega) HV.out (by omega)).mono ?_
  rintro e w4 ⟨u4, rfl, hr4, hb4⟩
  rw [HCC.out] at hr4
  rw [HCC.out]
  obtain ⟨a4, c4, rfl, _⟩ := id hr4
  have HR4 := Lib.hid hr4
  clear hr4
  obtain ⟨k4, f4⟩ := bcell hb4
  have z4 : w.heap.size + 1 < w4.heap.size := by have := hb4.size; simp at this; omega
  simp only [bunC]
  go_wp2
  refine bodyPost_ret (v := .tuple #[.agg #[.int .i64 c.src, .int .i64 c.crt, .int .i64 c.seq, .int .i64 c.off, .int .i64 c.tot, .int .i64 c.dk, .int .i64 c.dn, .int .i64 c.life, .int .i64 c.prio, .int .i64 c.flags, .slice a4 c.blocks.length c4, .string (B c.payload)], .int .i64 0]) (by simp [results, Try.results32, go_sem, World.cell?_setCell_same', k1, k2, k3, k4, z1, z2, z3, z1', z2', z3', z4]) rfl ?_
  refine ⟨_, rfl, HR4.out.keep (fun q o hq => ?_) (fun q hq => ?_), belowA⟩
  · have : q ≠ w.heap.size + 1 := by rcases hq with hq | hq <;> (try simp at hq) <;> omega
    simp (disch := (simp; omega)) only [World.cell?_setCell_far]
  · rcases hq with hq | hq
    · exact .inl hq
    · refine .inr ?_
      simp at hq ⊢
      omega
set_option maxHeartbeats 1000000 in
theorem is_any (b : Bun) (u : Value) (w : World) (h : RBlks w w.heap.size u b.blocks) (hf : Fits b) :
    Calls Try.prog 30 #[.agg (bunC b u).toArray] w fun e w' => e = .returned (.bool (isS b)) ∧ Below w.heap.size w w' := by
  obtain ⟨E, hE⟩ : ∃ E, chkE b = E := ⟨_, rfl⟩
  obtain ⟨ua, uc, rfl, _⟩ := id h
  have HR := Lib.hid h
  have HF := Lib.hid hf
  have HE := Lib.hid hE
  clear h hf
  have hI : isS b = (decide (E = 0) && decide (0 < b.tot)) := by unfold isS; rw [hE]
  rw [hI]
  clear hI hE
  by_cases z : E = 0
  · subst z
    go_enter Try.func30, Try.ntmps30
    simp only [bunC]
    go_wp2_with fail
    refine (check_any b _ _ (HR.out.below (C := w.heap.size) belowA (Nat.le_refl _) (by first | omega | (simp; done) | (simp; omega))) HF.out).mono ?_
    rintro e w1 ⟨rfl, hb1⟩
    rw [HE.out]
    obtain ⟨k1, f1⟩ := bcell hb1
    have z1 : w.heap.size < w1.heap.size := by have := hb1.size; simp at this; omega
    go_wp2
    all_goals
      go_ret
      refine ⟨?_, belowA⟩
      first | rfl | (simp; done)
  · have z' : (E == 0) = false := beq_eq_false_iff_ne.2 z
    have HZ := Lib.hid z
    clear z
    go_enter Try.func30, Try.ntmps30
    simp only [bunC]
    go_wp2_with fail
    refine (check_any b _ _ (HR.out.below (C := w.heap.size) belowA (Nat.le_refl _) (by first | omega | (simp; done) | (simp; omega))) HF.out).mono ?_
    rintro e w1 ⟨rfl, hb1⟩
    rw [HE.out]
    obtain ⟨k1, f1⟩ := bcell hb1
    have z1 : w.heap.size < w1.heap.size := by have := hb1.size; simp at this; omega
    go_wp2
    all_goals
      go_ret
      refine ⟨?_, belowA⟩
      first | (simp [HZ.out]; done) | rfl
set_option maxHeartbeats 1000000 in
theorem spanr_any (b : Bun) (u : Value) (w : World) (h : RBlks w w.heap.size u b.blocks) (hf : Fits b) :
    Calls Try.prog 70 #[.agg (bunC b u).toArray] w fun e w' => e = .returned (.tuple #[.agg #[.int .i64 (spanR b).1, .int .i64 (spanR b).2.1], .int .i64 (spanR b).2.2]) ∧ Below w.heap.size w w' := by
  obtain ⟨E, hE⟩ : ∃ E, chkE b = E := ⟨_, rfl⟩
  obtain ⟨ua, uc, rfl, _⟩ := id h
  have HR := Lib.hid h
  have HF := Lib.hid hf
  have HE := Lib.hid hE
  clear h hf
  by_cases z : E = 0
  · subst z
    obtain ⟨v1, v2, v3, v4, v5, _⟩ := valid_facts hE
    have hr : spanR b = (b.off, b.off + b.payload.length, 0) := by unfold spanR; rw [hE, if_neg (by simp)]
    rw [hr]
    clear hr hE
    go_enter Try.func70, Try.ntmps70
    simp only [bunC]
    go_wp2_with fail
    refine (check_any b _ _ (HR.out.below (C := w.heap.size) belowA (Nat.le_refl _) (by first | omega | (simp; done) | (simp; omega))) HF.out).mono ?_
    rintro e w1 ⟨rfl, hb1⟩
    rw [HE.out]
    obtain ⟨k1, f1⟩ := bcell hb1
    have z1 : w.heap.size + 1 < w1.heap.size := by have := hb1.size; simp at this; omega
    have z1' : w.heap.size < w1.heap.size := by omega
    go_wp2_with fail
    refine (span_any b _ _ v1 (by omega) (by omega)).mono ?_
    rintro e w3 ⟨rfl, hb3⟩
    obtain ⟨k3, f3⟩ := bcell hb3
    have z3 : w.heap.size + 1 < w3.heap.size := by have := hb3.size; omega
    go_wp2
    refine bodyPost_ret (v := .tuple #[.agg #[.int .i64 b.off, .int .i64 (b.off + b.payload.length)], .int .i64 0]) (by simp [results, Try.results70, go_sem, World.cell?_setCell_same', k1, k3, z1, z1', z3]) rfl ?_
    exact ⟨rfl, belowA⟩
  · have z' : (E != 0) = true := by simpa using z
    have hr : spanR b = (0, 0, 1) := by unfold spanR; rw [hE, if_pos z]
    rw [hr]
    clear hr hE z
    go_enter Try.func70, Try.ntmps70
    simp only [bunC]
    go_wp2_with fail
    refine (check_any b _ _ (HR.out.below (C := w.heap.size) belowA (Nat.le_refl _) (by first | omega | (simp; done) | (simp; omega))) HF.out).mono ?_
    rintro e w1 ⟨rfl, hb1⟩
    rw [HE.out]
    obtain ⟨k1, f1⟩ := bcell hb1
    have z1 : w.heap.size + 1 < w1.heap.size := by have := hb1.size; simp at this; omega
    go_wp2
    refine bodyPost_ret (v := .tuple #[.agg #[.int .i64 0, .int .i64 0], .int .i64 1]) (by simp [results, Try.results70, go_sem, World.cell?_setCell_same', k1, z1]) rfl ?_
    exact ⟨rfl, belowA⟩
end Go.Proofs.Ytpnfkmlgelcbgaa
