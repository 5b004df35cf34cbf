/- Joined by port.py: XFc XFd XFe XPd XPe XPf XPg -/
import Derived.Test.YtmknchdciblfjaaGreatJh
import Derived.Test.YtmknchdciblfjaaGreatJa
import Derived.Test.YtmknchdciblfjaaGreatJiz
import Derived.Test.YtmknchdciblfjaaGreatJl
import Derived.Lib.ConvBytes
import Derived.Test.YtmknchdciblfjaaGreatJb
import Derived.Test.YtmknchdciblfjaaGreatJc
import Derived.Test.YtmknchdciblfjaaGreatJd
import Derived.Test.YtmknchdciblfjaaGreatJe
import Derived.Test.YtmknchdciblfjaaGreatJf
import Derived.Test.YtmknchdciblfjaaGreatJg
import Derived.Test.YtmknchdciblfjaaGreatJk
set_option linter.unusedVariables false
set_option linter.unusedSimpArgs false
/-! XFc -/
namespace Go.Proofs.YtmknchdciblfjaaGreat
open Go Go.RowKit
attribute [local go_sem] B_getElem B_size B_app B_extract B_get B_toList
def cutS (b : Bun) (f t : Int) : Bun :=
  { b with tot := (if b.tot = 0 then (b.payload.length : Int) else b.tot), off := f, payload := (b.payload.drop (f - b.off).toNat).take (t - f).toNat, blocks := (if 0 < f then b.blocks.filter keepC else b.blocks) }
/-- a bundle comes back -/
def BunPost (N : Nat) (b : Bun) (w : World) (e : Ending) (w' : World) : Prop := ∃ u, e = .returned (.agg (bunC b u).toArray) ∧ RBlksD w' (OldNew N w w') u b.blocks ∧ Below w.heap.size w w'
set_option maxHeartbeats 1000000 in
theorem span_any (b : Bun) (u : Value) (w : World) (h1 : 0 ≤ b.off) (h2 : b.off ≤ 100000) (h3 : b.payload.length ≤ 100000) :
    Calls Tryz.prog 77 #[.agg (bunC b u).toArray] w fun e w' => e = .returned (.agg #[.int .i64 b.off, .int .i64 (b.off + b.payload.length)]) ∧ Below w.heap.size w w' := by
  go_enter Tryz.func77, Tryz.ntmps77
  simp only [bunC]
  go_wp2
  refine bodyPost_ret (v := .agg #[.int .i64 b.off, .int .i64 (b.off + b.payload.length)]) (by simp [results, Tryz.results77, go_sem]) rfl ?_
  exact ⟨rfl, belowA⟩
/-- why a valid bundle cannot be cut -/
def cutE (b : Bun) : Int := if hasF b.flags 2 = true then 19 else if b.payload = [] then 20 else 0
set_option maxHeartbeats 1000000 in
theorem cuttable_any (b : Bun) (u : Value) (w : World) (h1 : 0 ≤ b.flags) (h2 : b.flags ≤ 127) :
    Calls Tryz.prog 26 #[.agg (bunC b u).toArray] w fun e w' => e = .returned (.int .i64 (cutE b)) ∧ Below w.heap.size w w' := by
  obtain ⟨_, _, a3⟩ := and_flag b.flags h1 h2
  obtain ⟨E, hE⟩ : ∃ E, cutE b = E := ⟨_, rfl⟩
  have HE := Lib.hid hE
  rw [hE]
  obtain ⟨r, hr⟩ : ∃ p, hasF b.flags 2 = p := ⟨_, rfl⟩
  rw [hr] at a3
  have HR := Lib.hid hr
  clear hE hr
  go_enter Tryz.func26, Tryz.ntmps26
  simp only [bunC]
  go_wp2
  all_goals
    go_ret
    refine ⟨ret_int ?_, belowA⟩
    rw [← HE.out]
    unfold cutE
    rw [HR.out]
    first | (simp [*]; done) | (simp_all; done) | (rename_i hz; simp at hz; simp [hz, *])
set_option maxRecDepth 100000 in
set_option maxHeartbeats 1000000 in
theorem cut_any (b : Bun) (u : Value) (f t : Int) (N : Nat) (w : World) (hN : N ≤ w.heap.size) (h : RBlks w N u b.blocks) (h0 : 0 ≤ b.off) (h1 : b.off ≤ f) (h2 : f ≤ t) (h3 : t ≤ b.off + b.payload.length) (h4 : b.off ≤ 100000) (h5 : b.payload.length ≤ 100000)
    (hf : ∀ x ∈ b.blocks, 0 ≤ x.flags ∧ x.flags ≤ 15) (hl : b.blocks.length ≤ 1000) :
    Calls Tryz.prog 78 #[.agg (bunC b u).toArray, .int .i64 f, .int .i64 t] w (BunPost N (cutS b f t) w) := by
  obtain ⟨i, hi⟩ : ∃ i : Nat, f - b.off = i := ⟨(f - b.off).toNat, by omega⟩
  obtain ⟨j, hj⟩ : ∃ j : Nat, t - b.off = j := ⟨(t - b.off).toNat, by omega⟩
  have i1 : i ≤ j := by omega
  have i2 : j ≤ b.payload.length := by omega
  have hP : (cutS b f t).payload = (b.payload.drop i).take (j - i) := by
    unfold cutS
    show (b.payload.drop (f - b.off).toNat).take (t - f).toNat = _
    rw [show (f - b.off).toNat = i by omega, show (t - f).toNat = j - i by omega]
  have HP := Lib.hid hP
  obtain ⟨ua, uc, rfl, _⟩ := id h
  have HR := Lib.hid h
  have HF := Lib.hid hf
  clear hP h hf
  have i3 : (0 : Int) ≤ (i : Int) := by omega
  have i4 : (i : Int) ≤ (j : Int) := by omega
  have i5 : (j : Int) ≤ (b.payload.length : Int) := by omega
  have HT : Hid ((cutS b f t).tot = if b.tot = 0 then (b.payload.length : Int) else b.tot) := Lib.hid rfl
  by_cases zf : 0 < f
  · have HB : Hid ((cutS b f t).blocks = b.blocks.filter keepC) := Lib.hid (by unfold cutS; simp [zf])
    by_cases z : b.tot = 0
    · go_enter Tryz.func78, Tryz.ntmps78
      simp only [bunC]
      go_wp2_with fail
      refine (clone_any b.blocks _ _ (HR.out.below (C := w.heap.size) belowA hN (by first | omega | (simp; done) | (simp; omega))) hl).mono ?_
      rintro e w1 ⟨v1, rfl, hb1, ho1⟩
      obtain ⟨k1, f1⟩ := bcell hb1
      have z1 : w.heap.size + 1 < w1.heap.size := by have := hb1.size; simp at this; omega
      have z1' : w.heap.size < w1.heap.size := by omega
      go_wp2_with fail
      refine (delete_own b.blocks v1 _ _ hb1.size ho1 HF.out hl).mono ?_
      rintro e w2 ⟨v2, rfl, hr2, hb2, hfr2⟩
      obtain ⟨va, vc, rfl, _⟩ := id hr2
      have HR2 := Lib.hid hr2
      have k2 : ∀ b o, b < w.heap.size + 1 + 1 → w2.cell? ⟨b, o, none⟩ = w1.cell? ⟨b, o, none⟩ := fun b o h => hb2.cell (p := ⟨b, o, none⟩) (by simpa using h)
      have f2 : ∀ b o, b < w.heap.size + 1 + 1 → w2.frozen? ⟨b, o, none⟩ = w1.frozen? ⟨b, o, none⟩ := fun b o h => hb2.frozen (p := ⟨b, o, none⟩) (by simpa using h)
      have z2 : w.heap.size + 1 < w2.heap.size := by have := hb2.size; omega
      have z2' : w.heap.size < w2.heap.size := by omega
      have s2 : ∀ X : Value, (w2.setCell ⟨w.heap.size, 10, none⟩ X).cell? ⟨w.heap.size, 10, none⟩ = some X := fun X => World.cell?_setCell_same' _ _ _ (by rw [k2 _ _ (by omega), k1 _ _ (by simp; omega)]; go_simp)
      go_wp2
      refine bodyPost_ret (v := .agg #[.int .i64 b.src, .int .i64 b.crt, .int .i64 b.seq, .int .i64 f, .int .i64 (b.payload.length : Int), .int .i64 b.dk, .int .i64 b.dn, .int .i64 b.life, .int .i64 b.prio, .int .i64 b.flags, .slice va (b.blocks.filter keepC).length vc, .string (B ((b.payload.drop i).take (j - i)))]) (by simp [results, Tryz.results78, go_sem, World.cell?_setCell_same', k1, k2, z1, z1']) rfl ?_
      refine ⟨.slice va (b.blocks.filter keepC).length vc, ?_, ?_, belowA⟩
      · unfold bunC
        rw [HP.out, HT.out, if_pos z]
        rfl
      · rw [HB.out]
        refine RBlksD.new_ HR2.out hfr2 (fun b o hb _ => ?_) (by simp; omega) (by simp)
        simp at hb
        simp (disch := (simp; omega)) only [World.cell?_setCell_far]
    · have z' : (b.tot == 0) = false := beq_eq_false_iff_ne.2 z
      go_enter Tryz.func78, Tryz.ntmps78
      simp only [bunC]
      go_wp2_with fail
      refine (clone_any b.blocks _ _ (HR.out.below (C := w.heap.size) belowA hN (by first | omega | (simp; done) | (simp; omega))) hl).mono ?_
      rintro e w1 ⟨v1, rfl, hb1, ho1⟩
      obtain ⟨k1, f1⟩ := bcell hb1
      have z1 : w.heap.size + 1 < w1.heap.size := by have := hb1.size; simp at this; omega
      have z1' : w.heap.size < w1.heap.size := by omega
      go_wp2_with fail
      refine (delete_own b.blocks v1 _ _ hb1.size ho1 HF.out hl).mono ?_
      rintro e w2 ⟨v2, rfl, hr2, hb2, hfr2⟩
      obtain ⟨va, vc, rfl, _⟩ := id hr2
      have HR2 := Lib.hid hr2
      have k2 : ∀ b o, b < w.heap.size + 1 + 1 → w2.cell? ⟨b, o, none⟩ = w1.cell? ⟨b, o, none⟩ := fun b o h => hb2.cell (p := ⟨b, o, none⟩) (by simpa using h)
      have f2 : ∀ b o, b < w.heap.size + 1 + 1 → w2.frozen? ⟨b, o, none⟩ = w1.frozen? ⟨b, o, none⟩ := fun b o h => hb2.frozen (p := ⟨b, o, none⟩) (by simpa using h)
      have z2 : w.heap.size + 1 < w2.heap.size := by have := hb2.size; omega
      have z2' : w.heap.size < w2.heap.size := by omega
      have s2 : ∀ X : Value, (w2.setCell ⟨w.heap.size, 10, none⟩ X).cell? ⟨w.heap.size, 10, none⟩ = some X := fun X => World.cell?_setCell_same' _ _ _ (by rw [k2 _ _ (by omega), k1 _ _ (by simp; omega)]; go_simp)
      go_wp2
      refine bodyPost_ret (v := .agg #[.int .i64 b.src, .int .i64 b.crt, .int .i64 b.seq, .int .i64 f, .int .i64 b.tot, .int .i64 b.dk, .int .i64 b.dn, .int .i64 b.life, .int .i64 b.prio, .int .i64 b.flags, .slice va (b.blocks.filter keepC).length vc, .string (B ((b.payload.drop i).take (j - i)))]) (by simp [results, Tryz.results78, go_sem, World.cell?_setCell_same', k1, k2, z1, z1']) rfl ?_
      refine ⟨.slice va (b.blocks.filter keepC).length vc, ?_, ?_, belowA⟩
      · unfold bunC
        rw [HP.out, HT.out, if_neg z]
        rfl
      · rw [HB.out]
        refine RBlksD.new_ HR2.out hfr2 (fun b o hb _ => ?_) (by simp; omega) (by simp)
        simp at hb
        simp (disch := (simp; omega)) only [World.cell?_setCell_far]
  · have HB : Hid ((cutS b f t).blocks = b.blocks) := Lib.hid (by unfold cutS; simp [zf])
    have zf' : f ≤ 0 := by omega
    by_cases z : b.tot = 0
    · go_enter Tryz.func78, Tryz.ntmps78
      simp only [bunC]
      go_wp2
      refine bodyPost_ret (v := .agg #[.int .i64 b.src, .int .i64 b.crt, .int .i64 b.seq, .int .i64 f, .int .i64 (b.payload.length : Int), .int .i64 b.dk, .int .i64 b.dn, .int .i64 b.life, .int .i64 b.prio, .int .i64 b.flags, .slice ua b.blocks.length uc, .string (B ((b.payload.drop i).take (j - i)))]) (by simp [results, Tryz.results78, go_sem]) rfl ?_
      refine ⟨.slice ua b.blocks.length uc, ?_, ?_, belowA⟩
      · unfold bunC
        rw [HP.out, HT.out, if_pos z]
        rfl
      · rw [HB.out]
        exact RBlksD.old HR.out (C := w.heap.size) belowA hN _
    · have z' : (b.tot == 0) = false := beq_eq_false_iff_ne.2 z
      go_enter Tryz.func78, Tryz.ntmps78
      simp only [bunC]
      go_wp2
      refine bodyPost_ret (v := .agg #[.int .i64 b.src, .int .i64 b.crt, .int .i64 b.seq, .int .i64 f, .int .i64 b.tot, .int .i64 b.dk, .int .i64 b.dn, .int .i64 b.life, .int .i64 b.prio, .int .i64 b.flags, .slice ua b.blocks.length uc, .string (B ((b.payload.drop i).take (j - i)))]) (by simp [results, Tryz.results78, go_sem]) rfl ?_
      refine ⟨.slice ua b.blocks.length uc, ?_, ?_, belowA⟩
      · unfold bunC
        rw [HP.out, HT.out, if_neg z]
        rfl
      · rw [HB.out]
        exact RBlksD.old HR.out (C := w.heap.size) belowA hN _
end Go.Proofs.YtmknchdciblfjaaGreat
/-! XFe -/
namespace Go.Proofs.YtmknchdciblfjaaGreat
open Go Go.RowKit
attribute [local go_sem] B_getElem B_size B_app B_extract B_get B_toList
theorem chkE_zero {b : Bun} (h : chkE b = 0) : idB b = true ∧ flB b = true ∧ blksE b.blocks = 0 ∧ payE b = 0 ∧ (1 ≤ b.life ∧ b.life ≤ 1099511627776 - b.crt) ∧ (0 ≤ b.prio ∧ b.prio ≤ 2) ∧ endE b.dk b.dn = 0 := by
  unfold chkE at h
  split at h
  · contradiction
  · rename_i h1
    split at h
    · contradiction
    · rename_i h2
      split at h
      · simp at h
      · split at h
        · simp at h
        · split at h
          · contradiction
          · rename_i h5
            split at h
            · contradiction
            · rename_i h6
              refine ⟨idE_zero (by simpa using h1), ?_, by simpa using h6, h, by omega, by omega, by simpa using h2⟩
              unfold flE at h5
              cases hb : flB b with
              | true => rfl
              | false => rw [hb] at h5; simp at h5
theorem blksE_zero {l : List Blk} (h : blksE l = 0) : l.length ≤ 8 ∧ firstE l = 0 ∧ ordB l = true := by
  unfold blksE at h
  split at h
  · simp at h
  · split at h
    · contradiction
    · split at h
      · rename_i h1 h2 h3; exact ⟨by omega, by simpa using h2, h3⟩
      · simp at h
theorem payE_zero {b : Bun} (h : payE b = 0) : b.payload.length ≤ 4096 ∧ (0 < b.tot → 1 ≤ b.payload.length ∧ (b.payload.length : Int) ≤ b.tot - b.off) := by
  unfold payE at h
  split at h
  · simp at h
  · split at h
    · simp at h
    · rename_i h1 h2
      refine ⟨by omega, fun ht => ?_⟩
      by_cases h3 : 1 ≤ b.payload.length ∧ (b.payload.length : Int) ≤ b.tot - b.off
      · exact h3
      · exact absurd ⟨ht, h3⟩ h2
/-- what a valid bundle's fields are -/
theorem valid_facts {b : Bun} (h : chkE b = 0) : 0 ≤ b.off ∧ b.off ≤ 4096 ∧ 0 ≤ b.tot ∧ b.tot ≤ 4096 ∧ b.payload.length ≤ 4096 ∧ 0 ≤ b.flags ∧ b.flags ≤ 127 ∧ b.blocks.length ≤ 8 ∧ (b.tot = 0 → b.off = 0) ∧ (0 < b.tot → 1 ≤ b.payload.length ∧ b.off + (b.payload.length : Int) ≤ b.tot) := by
  obtain ⟨h1, h2, h3, h4, _⟩ := chkE_zero h
  have a := of_decide_eq_true h1
  have c := payE_zero h4
  have d := blksE_zero h3
  unfold flB at h2
  simp only [Bool.and_eq_true, decide_eq_true_eq] at h2
  obtain ⟨⟨h5, _⟩, _⟩ := h2
  refine ⟨by omega, by omega, by omega, by omega, c.1, h5.1, h5.2, d.1, by omega, fun ht => ?_⟩
  have := c.2 ht
  omega
theorem valid_blocks {b : Bun} (h : chkE b = 0) : ∀ x ∈ b.blocks, 0 ≤ x.flags ∧ x.flags ≤ 15 := fun x hx => by
  obtain ⟨_, _, h3, _⟩ := chkE_zero h
  have := blkE_zero (firstE_zero (blksE_zero h3).2.1 x hx)
  omega
def zBun : Bun := ⟨0, 0, 0, 0, 0, 0, 0, 0, 0, 0, [], []⟩
end Go.Proofs.YtmknchdciblfjaaGreat
/-! XPd -/
namespace Go.Proofs.YtmknchdciblfjaaGreat
open Go Go.RowKit
theorem trip' {α β γ : Type} {a a' : α} {b b' : β} {c c' : γ} (h : (a, b, c) = (a', b', c')) : a = a' ∧ b = b' ∧ c = c' := by
  injection h with h1 h2
  injection h2 with h2 h3
  exact ⟨h1, h2, h3⟩
theorem hi_zero (f : Nat) : hi f 0 = [] := by cases f <;> simp [hi]
theorem hi_length : ∀ (g f m : Nat), m < 128 ^ g → (hi f m).length ≤ g
  | g, 0, m, h => by simp [hi]
  | 0, f + 1, m, h => by
    have : m = 0 := by simpa using h
    subst this; simp [hi]
  | g + 1, f + 1, m, h => by
    rw [hi]
    split
    · simp
    · have := hi_length g f (m / 128) (by rw [Nat.pow_succ] at h; omega)
      simp; omega
theorem ofNat_toNat' {n : Nat} (h : n < 256) : (UInt8.ofNat n).toNat = n := by simp; omega
theorem hi_read (b0 : Bool) : ∀ (f m F : Nat) (r : List UInt8), m < 128 ^ f → (hi f m).length ≤ F → rdL b0 F (hi f m ++ r) 0 0 = rdL b0 (F - (hi f m).length) r m (hi f m).length
  | 0, m, F, r, h, hF => by
    have : m = 0 := by simpa using h
    subst this; simp [hi]
  | f + 1, m, F, r, h, hF => by
    rw [hi] at hF ⊢
    by_cases hm : m = 0
    · rw [if_pos hm]; subst hm; simp
    · rw [if_neg hm] at hF ⊢
      rw [List.append_assoc, hi_read b0 f (m / 128) F _ (by rw [Nat.pow_succ] at h; omega) (by rw [List.length_append] at hF; omega)]
      rw [List.length_append] at hF ⊢
      simp only [List.length_singleton] at hF ⊢
      obtain ⟨G, hG⟩ : ∃ G, F - (hi f (m / 128)).length = G + 1 := ⟨F - (hi f (m / 128)).length - 1, by omega⟩
      have ht : (UInt8.ofNat (128 + m % 128)).toNat = 128 + m % 128 := ofNat_toNat' (by omega)
      rw [hG, List.singleton_append, rdL_step, ht, if_pos (by omega)]
      congr 1
      · omega
      · omega
theorem hi_head : ∀ (f m : Nat), m < 128 ^ f → (hi f m).head? ≠ some 128 ∧ (m ≠ 0 → hi f m ≠ [])
  | 0, m, h => by simp [hi]; simpa using h
  | f + 1, m, h => by
    rw [hi]
    by_cases hm : m = 0
    · rw [if_pos hm]; simp [hm]
    · rw [if_neg hm]
      refine ⟨?_, fun _ => by simp⟩
      obtain ⟨h1, h2⟩ := hi_head f (m / 128) (by rw [Nat.pow_succ] at h; omega)
      by_cases hz : m / 128 = 0
      · rw [hz, hi_zero]
        simp only [List.nil_append, List.head?_cons]
        intro he
        injection he with he
        have ht : (UInt8.ofNat (128 + m % 128)).toNat = 128 + m % 128 := ofNat_toNat' (by omega)
        rw [he] at ht
        have : (128 : UInt8).toNat = 128 := rfl
        omega
      · obtain ⟨x, l, hxl⟩ := List.exists_cons_of_ne_nil (h2 hz)
        rw [hxl] at h1 ⊢
        simpa using h1
theorem finS_zz {n : Int} {i : Nat} (h1 : -1152921504606846976 ≤ n) (h2 : n ≤ 1152921504606846976) : finS false (zz n) i = (n, (i : Int), 0) := by
  unfold finS
  have : (if zz n % 2 = 1 then -(((zz n + 1) / 2 : Nat) : Int) else ((zz n / 2 : Nat) : Int)) = n := by
    unfold zz
    split
    · split <;> omega
    · split <;> omega
  rw [this]
  simp only [Bool.false_eq_true, false_or]
  rw [if_neg (by omega)]
/-- what was written is read -/
theorem read_int (n : Int) (r : List UInt8) (h1 : -1152921504606846976 ≤ n) (h2 : n ≤ 1152921504606846976) : readS (intE n ++ r) = (n, ((intE n).length : Int), 0) := by
  have hz := zz_lt h1 h2
  have hm : zz n / 128 < 128 ^ 10 := by omega
  have hl := hi_length 8 10 (zz n / 128) (by omega)
  obtain ⟨e1, e2⟩ := hi_head 10 (zz n / 128) hm
  have hc : (UInt8.ofNat (zz n % 128)).toNat = zz n % 128 := ofNat_toNat' (by omega)
  have hb : ((intE n ++ r).head? == some 128) = false := by
    unfold intE
    cases hh : hi 10 (zz n / 128) with
    | nil =>
      simp only [List.nil_append, List.singleton_append, List.head?_cons]
      refine beq_eq_false_iff_ne.2 fun he => ?_
      injection he with he
      rw [he] at hc
      have : (128 : UInt8).toNat = 128 := rfl
      omega
    | cons x l =>
      rw [hh] at e1
      exact beq_eq_false_iff_ne.2 (by simpa using e1)
  unfold readS
  rw [hb]
  unfold intE
  rw [List.append_assoc, hi_read false 10 _ 9 _ hm (by omega)]
  obtain ⟨G, hG⟩ : ∃ G, 9 - (hi 10 (zz n / 128)).length = G + 1 := ⟨9 - (hi 10 (zz n / 128)).length - 1, by omega⟩
  rw [hG, List.singleton_append, rdL_step, hc, if_neg (by omega), show zz n / 128 * 128 + zz n % 128 % 128 = zz n by omega, finS_zz h1 h2, List.length_append]
  rfl
/-- the number of some groups -/
def gval (l : List UInt8) : Nat := l.foldl (fun m b => m * 128 + b.toNat % 128) 0
theorem gval_snoc (l : List UInt8) (b : UInt8) : gval (l ++ [b]) = gval l * 128 + b.toNat % 128 := by simp [gval, List.foldl_append]
theorem rdL_split (b0 : Bool) : ∀ (f : Nat) (l : List UInt8) (done : List UInt8) (n k : Int), rdL b0 f l (gval done) done.length = (n, k, 0) → (∀ b ∈ done, 128 ≤ b.toNat) →
    ∃ (pre : List UInt8) (c : UInt8) (rest : List UInt8), done ++ l = pre ++ c :: rest ∧ (∀ b ∈ pre, 128 ≤ b.toNat) ∧ c.toNat < 128 ∧ pre.length < done.length + f ∧ finS b0 (gval pre * 128 + c.toNat) (pre.length + 1) = (n, k, 0)
  | 0, l, done, n, k, h, hd => by
    rw [rdL] at h
    obtain ⟨_, _, h⟩ := trip' h
    exact absurd h (by decide)
  | f + 1, [], done, n, k, h, hd => by
    rw [rdL] at h
    obtain ⟨_, _, h⟩ := trip' h
    exact absurd h (by decide)
  | f + 1, c :: r, done, n, k, h, hd => by
    rw [rdL_step] at h
    by_cases hc : 128 ≤ c.toNat
    · rw [if_pos hc, ← gval_snoc, show done.length + 1 = (done ++ [c]).length by simp] at h
      obtain ⟨pre, x, rest, h1, h2, h3, h4, h5⟩ := rdL_split b0 f r (done ++ [c]) n k h (by
        intro b hb
        rcases List.mem_append.1 hb with hb | hb
        · exact hd b hb
        · simp at hb; subst hb; exact hc)
      refine ⟨pre, x, rest, by rw [← h1]; simp, h2, h3, ?_, h5⟩
      simp at h4; omega
    · rw [if_neg hc] at h
      have hm : c.toNat % 128 = c.toNat := Nat.mod_eq_of_lt (by omega)
      rw [hm] at h
      exact ⟨done, c, r, rfl, hd, by omega, by omega, h⟩
theorem snoc_cases {α : Type} (l : List α) : l = [] ∨ ∃ p b, l = p ++ [b] := by
  rcases List.eq_nil_or_concat l with h | ⟨p, b, h⟩
  · exact .inl h
  · exact .inr ⟨p, b, by rw [h, List.concat_eq_append]⟩
theorem gval_pos : ∀ (n : Nat) (l : List UInt8), l.length = n → l ≠ [] → (∀ b ∈ l, 128 ≤ b.toNat) → l.head? ≠ some 128 → 0 < gval l
  | 0, l, hn, hl, _, _ => absurd (List.length_eq_zero_iff.1 hn) hl
  | n + 1, l, hn, hl, hb, hh => by
    rcases snoc_cases l with rfl | ⟨p, b, rfl⟩
    · exact absurd rfl hl
    · rw [gval_snoc]
      by_cases hp : p = []
      · subst hp
        have h1 := hb b (by simp)
        have h2 : b.toNat ≠ 128 := fun e => hh (by simp; exact UInt8.toNat_inj.1 e)
        have := b.toNat_lt
        omega
      · have := gval_pos n p (by simpa using hn) hp (fun x hx => hb x (by simp [hx])) (by
          obtain ⟨x, q, rfl⟩ := List.exists_cons_of_ne_nil hp
          simpa using hh)
        omega
theorem gval_hi : ∀ (f : Nat) (l : List UInt8), l.length ≤ f → (∀ b ∈ l, 128 ≤ b.toNat) → l.head? ≠ some 128 → hi f (gval l) = l
  | 0, l, hf, _, _ => by
    have : l = [] := List.length_eq_zero_iff.1 (by omega)
    subst this; rfl
  | f + 1, l, hf, hb, hh => by
    rcases snoc_cases l with rfl | ⟨p, b, rfl⟩
    · rfl
    · have hpos := gval_pos _ (p ++ [b]) rfl (by simp) hb hh
      have h1 := hb b (by simp)
      have h2 := b.toNat_lt
      rw [hi, if_neg (by omega), gval_snoc]
      have e1 : (gval p * 128 + b.toNat % 128) / 128 = gval p := by omega
      have e2 : (gval p * 128 + b.toNat % 128) % 128 = b.toNat % 128 := by omega
      rw [e1, e2, show 128 + b.toNat % 128 = b.toNat by omega]
      rw [gval_hi f p (by simp at hf; omega) (fun x hx => hb x (by simp [hx])) (by
        cases p with
        | nil => simp
        | cons x q => simpa using hh)]
      simp
/-- what is read was written -/
theorem int_read {l : List UInt8} {n k : Int} (h : readS l = (n, k, 0)) : ∃ r, l = intE n ++ r ∧ k = ((intE n).length : Int) := by
  have hok := (readS_ok h).1 rfl
  unfold readS at h
  obtain ⟨b0, hb0⟩ : ∃ b, (l.head? == some 128) = b := ⟨_, rfl⟩
  rw [hb0] at h
  obtain ⟨pre, c, rest, h1, h2, h3, h4, h5⟩ := rdL_split b0 9 l [] n k h (by simp)
  simp only [List.nil_append, List.length_nil] at h1 h4
  cases b0
  case true =>
    unfold finS at h5
    simp only [true_or, if_true] at h5
    obtain ⟨_, _, h5⟩ := trip' h5
    exact absurd h5 (by decide)
  have hh : l.head? ≠ some 128 := beq_eq_false_iff_ne.1 hb0
  have hp : hi 10 (gval pre) = pre := gval_hi 10 pre (by omega) h2 (by
    cases pre with
    | nil => simp
    | cons x q => rw [h1] at hh; simpa using hh)
  obtain ⟨X, hX⟩ : ∃ X, gval pre * 128 + c.toNat = X := ⟨_, rfl⟩
  rw [hX] at h5
  unfold finS at h5
  obtain ⟨o, ho⟩ : ∃ o : Int, o = if X % 2 = 1 then -(((X + 1) / 2 : Nat) : Int) else ((X / 2 : Nat) : Int) := ⟨_, rfl⟩
  simp only [← ho, Bool.false_eq_true, false_or] at h5
  split at h5
  · obtain ⟨_, _, h5⟩ := trip' h5
    exact absurd h5 (by decide)
  · obtain ⟨rfl, rfl, _⟩ := trip' h5
    have hz : zz o = X := by
      unfold zz
      split at ho <;> split <;> omega
    have e1 : X / 128 = gval pre := by omega
    have e2 : X % 128 = c.toNat := by omega
    have hE : intE o = pre ++ [c] := by
      unfold intE
      rw [hz, e1, e2, hp]
      simp
    refine ⟨rest, by rw [hE, h1]; simp, by rw [hE]; simp⟩
/-- the same for strings -/
theorem read_text (d r : List UInt8) (h : d.length ≤ 65536) : textS (textE d ++ r) = (d, ((textE d).length : Int), 0) := by
  have hr := read_int d.length (d ++ r) (by omega) (by omega)
  have hl : lenS (textE d ++ r) = ((d.length : Int), ((intE (d.length : Int)).length : Int), 0) := by
    unfold lenS textE
    rw [List.append_assoc, hr]
    simp only
    rw [if_neg (by simp), if_neg (by omega)]
  unfold textS
  rw [hl]
  simp only
  unfold textE
  rw [if_neg (by simp), if_neg (by simp only [List.length_append]; omega)]
  simp only [Int.toNat_natCast, List.append_assoc, List.drop_left, List.take_left, List.length_append]
  rfl
theorem text_read {l d : List UInt8} {k : Int} (h : textS l = (d, k, 0)) : (∃ r, l = textE d ++ r) ∧ k = ((textE d).length : Int) ∧ d.length ≤ 65536 := by
  obtain ⟨⟨n, c, e⟩, hl⟩ : ∃ x, lenS l = x := ⟨_, rfl⟩
  unfold textS at h
  rw [hl] at h
  simp only at h
  have hok := lenS_ok hl
  unfold lenS at hl
  by_cases he : e = 0
  case neg =>
    rw [if_pos he] at h
    obtain ⟨_, _, h⟩ := trip' h
    exact absurd h he
  subst he
  rw [if_neg (by simp)] at h
  split at h
  · obtain ⟨_, _, h⟩ := trip' h
    exact absurd h (by decide)
  rename_i hlt
  obtain ⟨rfl, rfl, _⟩ := trip' h
  have hb := hok.1 rfl
  split at hl
  · rename_i h1
    obtain ⟨_, _, h2⟩ := trip' hl
    exact absurd h2 h1
  split at hl
  · obtain ⟨_, _, h2⟩ := trip' hl
    exact absurd h2 (by decide)
  obtain ⟨r, rfl, hc⟩ := int_read hl
  subst hc
  obtain ⟨m, rfl⟩ : ∃ m : Nat, n = m := ⟨n.toNat, by omega⟩
  simp only [Int.toNat_natCast, List.drop_left] at h ⊢
  rw [List.length_append] at hlt
  have hm : m ≤ r.length := by omega
  have hd : (r.take m).length = m := by rw [List.length_take]; omega
  have hE : textE (r.take m) = intE (m : Int) ++ r.take m := by unfold textE; rw [hd]
  refine ⟨⟨r.drop m, ?_⟩, ?_, by omega⟩
  · rw [hE, List.append_assoc, List.take_append_drop]
  · rw [hE, List.length_append, hd]; omega
end Go.Proofs.YtmknchdciblfjaaGreat
/-! XPe -/
namespace Go.Proofs.YtmknchdciblfjaaGreat
open Go Go.RowKit
theorem take_app {α : Type} {a b : List α} {n : Nat} (h : n = a.length) : (a ++ b).take n = a := by subst h; exact List.take_left
theorem drop_app {α : Type} {a b : List α} {n : Nat} (h : n = a.length) : (a ++ b).drop n = b := by subst h; exact List.drop_left
theorem tailB_len (s : List UInt8) : (tailB s).length = 4 := rfl
theorem sealE_len (t : List UInt8) : (sealE t).length = (intE (t.length : Int)).length + t.length + 4 := by
  unfold sealE textE; simp [tailB_len]; omega
theorem open_seal (t r : List UInt8) (h : t.length ≤ 65536) : openS tailB (sealE t ++ r) = (t, ((sealE t).length : Int), 0) := by
  have hr := read_int t.length (t ++ (tailB (textE t) ++ r)) (by omega) (by omega)
  have hs : sealE t ++ r = intE (t.length : Int) ++ (t ++ (tailB (textE t) ++ r)) := by simp [sealE, textE]
  have hs2 : sealE t ++ r = textE t ++ (tailB (textE t) ++ r) := by simp [sealE]
  have hl := sealE_len t
  have hx : ((intE (t.length : Int)).length : Int) + (t.length : Int) = ((textE t).length : Int) := by unfold textE; rw [List.length_append]; omega
  unfold openS
  have hr' : readS (sealE t ++ r) = ((t.length : Int), ((intE (t.length : Int)).length : Int), 0) := by rw [hs]; exact hr
  rw [hr']
  simp only
  rw [if_neg (by simp), if_neg (by omega), hx]
  have hlen : (sealE t ++ r).length = (textE t).length + 4 + r.length := by rw [hs2]; simp [tailB_len]; omega
  rw [if_neg (by omega), Int.toNat_natCast]
  have e1 : (sealE t ++ r).take (textE t).length = textE t := by rw [hs2]; exact List.take_left
  have e2 : ((sealE t ++ r).drop (textE t).length).take 4 = tailB (textE t) := by rw [hs2, List.drop_left]; exact take_app rfl
  rw [e1, e2, if_neg (by simp), Int.toNat_natCast, Int.toNat_natCast]
  have e3 : ((sealE t ++ r).drop (intE (t.length : Int)).length).take t.length = t := by rw [hs, List.drop_left]; exact List.take_left
  rw [e3]
  have e4 : ((textE t).length : Int) + 4 = ((sealE t).length : Int) := by rw [hl]; omega
  rw [e4]
theorem seal_open {s t : List UInt8} {k : Int} (h : openS tailB s = (t, k, 0)) : (∃ r, s = sealE t ++ r) ∧ k = ((sealE t).length : Int) ∧ t.length ≤ 65536 := by
  obtain ⟨⟨n, c, e⟩, hr⟩ : ∃ x, readS s = x := ⟨_, rfl⟩
  unfold openS at h
  rw [hr] at h
  simp only at h
  split at h
  · rename_i h1; obtain ⟨_, _, h2⟩ := trip' h; exact absurd h2 h1
  rename_i he
  obtain rfl : e = 0 := Decidable.not_not.1 he
  split at h
  · obtain ⟨_, _, h2⟩ := trip' h; exact absurd h2 (by decide)
  rename_i hn
  split at h
  · obtain ⟨_, _, h2⟩ := trip' h; exact absurd h2 (by decide)
  rename_i hl
  split at h
  · obtain ⟨_, _, h2⟩ := trip' h; exact absurd h2 (by decide)
  rename_i ht
  obtain ⟨rfl, rfl, _⟩ := trip' h
  obtain ⟨r, rfl, rfl⟩ := int_read hr
  obtain ⟨m, rfl⟩ : ∃ m : Nat, n = m := ⟨n.toNat, by omega⟩
  simp only [Int.toNat_natCast, List.drop_left] at h ⊢
  rw [List.length_append] at hl
  have hm : m + 4 ≤ r.length := by omega
  have hd : (r.take m).length = m := by rw [List.length_take]; omega
  have hE : textE (r.take m) = intE (m : Int) ++ r.take m := by unfold textE; rw [hd]
  have hp : ((((intE (m : Int)).length : Int) + (m : Int))).toNat = (intE (m : Int)).length + m := by omega
  rw [hp] at ht
  have e1 : (intE (m : Int) ++ r).take ((intE (m : Int)).length + m) = textE (r.take m) := by rw [hE, List.take_append, List.take_of_length_le (by omega)]; simp
  have e2 : (intE (m : Int) ++ r).drop ((intE (m : Int)).length + m) = r.drop m := by rw [List.drop_append]; simp
  rw [e1, e2] at ht
  have ht' : tailB (textE (r.take m)) = (r.drop m).take 4 := Decidable.not_not.1 ht
  refine ⟨⟨(r.drop m).drop 4, ?_⟩, ?_, by omega⟩
  · unfold sealE
    rw [ht', hE, List.append_assoc, List.append_assoc, List.take_append_drop, List.take_append_drop]
  · rw [sealE_len, hd]; omega
theorem body_write {x : Blk} (h : blkE x = 0) : bodyS (intE x.kind ++ intE x.flags ++ textE x.data) = some x := by
  obtain ⟨v1, v2, v3, v4, v5⟩ := blkE_zero h
  have h1 := read_int x.kind (intE x.flags ++ textE x.data) (by omega) (by omega)
  have h2 := read_int x.flags (textE x.data) (by omega) (by omega)
  have h3 := read_text x.data [] (by omega)
  rw [List.append_nil] at h3
  unfold bodyS
  rw [List.append_assoc, h1]
  simp only [Int.toNat_natCast, List.drop_left]
  rw [h2]
  simp only [Int.toNat_natCast]
  have e1 : (intE x.kind ++ (intE x.flags ++ textE x.data)).drop ((intE x.kind).length + (intE x.flags).length) = textE x.data := by
    rw [← List.append_assoc]; exact drop_app (by simp)
  rw [e1, h3]
  simp only [Int.toNat_natCast]
  rw [if_neg (by simp), if_neg (by simp), if_neg (by simp), if_neg (by simp; omega), if_neg (by simp [h])]
theorem body_read {t : List UInt8} {x : Blk} (h : bodyS t = some x) : t = intE x.kind ++ intE x.flags ++ textE x.data ∧ blkE x = 0 := by
  have hE := bodyS_ok h
  refine ⟨?_, hE⟩
  unfold bodyS at h
  obtain ⟨⟨n1, k1, e1⟩, h1⟩ : ∃ q, readS t = q := ⟨_, rfl⟩
  rw [h1] at h
  simp only at h
  split at h
  · cases h
  rename_i q1
  obtain rfl : e1 = 0 := Decidable.not_not.1 q1
  obtain ⟨r1, rfl, rfl⟩ := int_read h1
  simp only [Int.toNat_natCast, List.drop_left] at h
  obtain ⟨⟨n2, k2, e2⟩, h2⟩ : ∃ q, readS r1 = q := ⟨_, rfl⟩
  rw [h2] at h
  simp only at h
  split at h
  · cases h
  rename_i q2
  obtain rfl : e2 = 0 := Decidable.not_not.1 q2
  obtain ⟨r2, rfl, rfl⟩ := int_read h2
  simp only [Int.toNat_natCast] at h
  have e1 : (intE n1 ++ (intE n2 ++ r2)).drop ((intE n1).length + (intE n2).length) = r2 := by
    rw [← List.append_assoc]; exact drop_app (by simp)
  rw [e1] at h
  obtain ⟨⟨d, k3, e3⟩, h3⟩ : ∃ q, textS r2 = q := ⟨_, rfl⟩
  rw [h3] at h
  simp only at h
  split at h
  · cases h
  rename_i q3
  obtain rfl : e3 = 0 := Decidable.not_not.1 q3
  obtain ⟨⟨r3, rfl⟩, rfl, _⟩ := text_read h3
  split at h
  · cases h
  rename_i q4
  have q4' := Decidable.not_not.1 q4
  simp only [Int.toNat_natCast, List.length_append] at q4'
  split at h
  · cases h
  injection h with h
  subst h
  have : r3 = [] := List.length_eq_zero_iff.1 (by omega)
  subst this
  simp
theorem dec_enc {x : Blk} (r : List UInt8) (h : blkE x = 0) : decS (encB x ++ r) = (x, ((encB x).length : Int), 0) := by
  obtain ⟨v1, v2, v3, v4, v5⟩ := blkE_zero h
  have hl : (intE x.kind ++ intE x.flags ++ textE x.data).length ≤ 65536 := by
    have a := intE_len x.kind
    have b := intE_len x.flags
    have c := textE_len x.data
    simp only [List.length_append]; omega
  unfold decS
  have ho : openS tailB (encB x ++ r) = (intE x.kind ++ intE x.flags ++ textE x.data, ((encB x).length : Int), 0) := open_seal _ r hl
  rw [ho]
  simp only
  rw [if_neg (by simp), body_write h]
theorem enc_dec {s : List UInt8} {x : Blk} {k : Int} (h : decS s = (x, k, 0)) : (∃ r, s = encB x ++ r) ∧ k = ((encB x).length : Int) ∧ blkE x = 0 := by
  unfold decS at h
  obtain ⟨⟨t, c, e⟩, ho⟩ : ∃ q, openS tailB s = q := ⟨_, rfl⟩
  rw [ho] at h
  simp only at h
  split at h
  · rename_i h1; obtain ⟨_, _, h2⟩ := trip' h; exact absurd h2 h1
  rename_i he
  obtain rfl : e = 0 := Decidable.not_not.1 he
  split at h
  · obtain ⟨_, _, h2⟩ := trip' h; exact absurd h2 (by decide)
  rename_i b hb
  obtain ⟨rfl, rfl, _⟩ := trip' h
  obtain ⟨ht, hE⟩ := body_read hb
  obtain ⟨⟨r, hs⟩, hk, _⟩ := seal_open ho
  subst ht
  exact ⟨⟨r, hs⟩, hk, hE⟩
theorem decR_enc : ∀ (l : List Blk) (p : Option Int) (r : List UInt8), caE p l = 0 → decR l.length p (l.flatMap encB ++ r) = (l, (l.flatMap encB).length, 0)
  | [], p, r, h => rfl
  | x :: l, p, r, h => by
    rw [caE] at h
    split at h
    · rename_i h1; exact absurd h h1
    rename_i h1
    split at h
    · cases h
    rename_i h2
    have hE : blkE x = 0 := Decidable.not_not.1 h1
    have hd := dec_enc (l.flatMap encB ++ r) hE
    have hi := decR_enc l (some x.kind) r h
    have e : (x :: l).flatMap encB ++ r = encB x ++ (l.flatMap encB ++ r) := by simp
    rw [e, List.length_cons, decR_ok hd h2 (by rw [Int.toNat_natCast, List.drop_left, hi])]
    rw [Int.toNat_natCast, List.drop_left, hi]
    simp
theorem enc_decR : ∀ (f : Nat) (p : Option Int) (s : List UInt8) (l : List Blk) (k : Nat), decR f p s = (l, k, 0) → (∃ r, s = l.flatMap encB ++ r) ∧ k = (l.flatMap encB).length ∧ l.length = f ∧ caE p l = 0
  | 0, p, s, l, k, h => by
    rw [decR] at h
    obtain ⟨rfl, rfl, _⟩ := trip' h
    exact ⟨⟨s, rfl⟩, rfl, rfl, by rw [caE]⟩
  | f + 1, p, s, l, k, h => by
    obtain ⟨⟨x, c, e⟩, hd⟩ : ∃ q, decS s = q := ⟨_, rfl⟩
    by_cases he : e = 0
    case neg =>
      rw [decR_err hd he] at h
      obtain ⟨_, _, h2⟩ := trip' h; exact absurd h2 he
    subst he
    by_cases hq : ∃ q, p = some q ∧ x.kind ≤ q
    · rw [decR_order hd hq] at h
      obtain ⟨_, _, h2⟩ := trip' h; exact absurd h2 (by decide)
    obtain ⟨⟨r, rfl⟩, rfl, hE⟩ := enc_dec hd
    have hdrop : (encB x ++ r).drop ((encB x).length : Int).toNat = r := by rw [Int.toNat_natCast]; exact List.drop_left
    obtain ⟨⟨l2, k2, e2⟩, h2⟩ : ∃ q, decR f (some x.kind) r = q := ⟨_, rfl⟩
    by_cases hz : e2 = 0
    case neg =>
      rw [decR_bad hd hq (by rw [hdrop, h2]; exact hz), hdrop, h2] at h
      obtain ⟨_, _, h3⟩ := trip' h; exact absurd h3 hz
    subst hz
    rw [decR_ok hd hq (by rw [hdrop, h2]), hdrop, h2] at h
    obtain ⟨rfl, rfl, _⟩ := trip' h
    obtain ⟨⟨r2, rfl⟩, hk, hlen, hc⟩ := enc_decR f _ _ _ _ h2
    refine ⟨⟨r2, by simp⟩, by simp [hk], by simp [hlen], ?_⟩
    rw [caE, if_neg (by simp [hE]), if_neg hq]
    exact hc
theorem decA_enc {l : List Blk} (r : List UInt8) (h : chkAll l = 0) : decAS (encA l ++ r) = (l, (encA l).length, 0) := by
  unfold chkAll at h
  split at h
  · cases h
  rename_i hl
  have hr := read_int l.length (l.flatMap encB ++ r) (by omega) (by omega)
  have hd := decR_enc l none r h
  have e : encA l ++ r = intE (l.length : Int) ++ (l.flatMap encB ++ r) := by simp [encA]
  unfold decAS
  rw [e, hr]
  simp only [Int.toNat_natCast, List.drop_left]
  rw [if_neg (by simp), if_neg (by omega), hd, if_neg (by simp)]
  simp [encA]
theorem enc_decA {s : List UInt8} {l : List Blk} {k : Nat} (h : decAS s = (l, k, 0)) : (∃ r, s = encA l ++ r) ∧ k = (encA l).length ∧ chkAll l = 0 := by
  unfold decAS at h
  obtain ⟨⟨n, c, e⟩, hr⟩ : ∃ q, readS s = q := ⟨_, rfl⟩
  rw [hr] at h
  simp only at h
  split at h
  · rename_i h1; obtain ⟨_, _, h2⟩ := trip' h; exact absurd h2 h1
  rename_i he
  obtain rfl : e = 0 := Decidable.not_not.1 he
  split at h
  · obtain ⟨_, _, h2⟩ := trip' h; exact absurd h2 (by decide)
  rename_i hn
  obtain ⟨r, rfl, rfl⟩ := int_read hr
  obtain ⟨m, rfl⟩ : ∃ m : Nat, n = m := ⟨n.toNat, by omega⟩
  simp only [Int.toNat_natCast, List.drop_left] at h
  obtain ⟨⟨l2, k2, e2⟩, h2⟩ : ∃ q, decR m none r = q := ⟨_, rfl⟩
  rw [h2] at h
  split at h
  · rename_i h1; obtain ⟨_, _, h3⟩ := trip' h; exact absurd h3 h1
  rename_i hz
  obtain rfl : e2 = 0 := Decidable.not_not.1 hz
  obtain ⟨rfl, rfl, _⟩ := trip' h
  obtain ⟨⟨r2, rfl⟩, hk, hlen, hc⟩ := enc_decR _ _ _ _ _ h2
  subst hlen
  refine ⟨⟨r2, by simp [encA]⟩, by simp [encA, hk], ?_⟩
  unfold chkAll
  simp only at hn ⊢
  rw [if_neg (by omega)]
  exact hc
end Go.Proofs.YtmknchdciblfjaaGreat
/-! XPg -/
namespace Go.Proofs.YtmknchdciblfjaaGreat
open Go Go.RowKit
theorem str_bytes (s : List UInt8) (w : World) : (convert 9 23 (.string (B s))).run Tryz.prog w = .ok (.slice (some ⟨w.heap.size, 0, none⟩) s.length (grownCap w s.length 0 5)) (Lib.bytesWorld w 5 (B s)) := by
  have := Lib.run_convert_string_bytes (P := Tryz.prog) w 9 23 5 (B s) Tryz.underlying9 Tryz.underlying23 Tryz.underlying5
  rw [B_size] at this
  exact this
theorem bytes_below {w : World} {e : TypeId} {s : ByteArray} : Below w.heap.size w (Lib.bytesWorld w e s) := ⟨rfl, rfl, rfl, by rw [Lib.bytesWorld_size]; omega, fun g hg => Lib.bytesWorld_at_old w e s g hg⟩
end Go.Proofs.YtmknchdciblfjaaGreat
