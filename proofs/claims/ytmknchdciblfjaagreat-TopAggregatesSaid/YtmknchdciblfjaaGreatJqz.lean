/- Joined by port.py: XTd XTe XTf -/
import Derived.Test.YtmknchdciblfjaaGreatJp
import Derived.Test.YtmknchdciblfjaaGreatJa
import Derived.Test.YtmknchdciblfjaaGreatJb
import Derived.Test.YtmknchdciblfjaaGreatJc
import Derived.Test.YtmknchdciblfjaaGreatJd
import Derived.Test.YtmknchdciblfjaaGreatJe
import Derived.Test.YtmknchdciblfjaaGreatJg
import Derived.Test.YtmknchdciblfjaaGreatJh
import Derived.Test.YtmknchdciblfjaaGreatJm
import Derived.Test.YtmknchdciblfjaaGreatJo
import Derived.Test.YtmknchdciblfjaaGreatJf
import Derived.Test.YtmknchdciblfjaaGreatJiz
import Derived.Test.YtmknchdciblfjaaGreatJk
import Derived.Test.YtmknchdciblfjaaGreatJl
import Derived.Test.YtmknchdciblfjaaGreatJs
set_option linter.unusedVariables false
set_option linter.unusedSimpArgs false
/-! XTd -/
namespace Go.Proofs.YtmknchdciblfjaaGreat
open Go Go.RowKit
attribute [local go_sem] B_getElem B_size B_app B_extract B_get B_toList
theorem nums_take (b : Bun) (k : Nat) (n : Int) (h : (nums b)[k]? = some n) : ((nums b).take (k + 1)).flatMap intE = ((nums b).take k).flatMap intE ++ intE n := by
  rw [List.take_add_one, h, List.flatMap_append]; simp
theorem take_size (b : Bun) (k : Nat) : (((nums b).take k).flatMap intE).length ≤ 110 := by
  have h1 := nums_size ((nums b).take k)
  have h2 : ((nums b).take k).length ≤ 10 := by have := List.length_take_le' k (nums b); rw [nums_len] at this; exact this
  omega
theorem bunR_bad {b : Bun} (h : chkE b ≠ 0) : bunR b = [] := by unfold bunR; rw [if_neg h]
theorem bunR_ok {b : Bun} (h : chkE b = 0) : bunR b = bunE b := by unfold bunR; rw [if_pos h]
set_option maxRecDepth 100000 in
set_option maxHeartbeats 3000000 in
theorem bunEncode_any (b : Bun) (u : Value) (w : World) (h : RBlks w w.heap.size u b.blocks) (hf : Fits b) :
    Calls Tryz.prog 68 #[.agg (bunC b u).toArray] w fun e w' => e = .returned (.tuple #[.string (B (bunR b)), .int .i64 (chkE b)]) ∧ Below w.heap.size w w' := by
  obtain ⟨E, hE⟩ : ∃ E, chkE b = E := ⟨_, rfl⟩
  obtain ⟨ua, uc, rfl, _⟩ := id h
  have HR := Lib.hid h
  have HF := Lib.hid hf
  have HE := Lib.hid hE
  clear h hf
  by_cases z : E = 0
  case neg =>
    have z' : (E != 0) = true := by simpa using z
    rw [bunR_bad (by rw [hE]; exact z), hE]
    clear hE z
    go_enter Tryz.func68, Tryz.ntmps68
    simp only [bunC]
    go_wp2_with fail
    refine (check_any b _ _ (HR.out.below (C := w.heap.size) belowA (Nat.le_refl _) (by simp)) HF.out).mono ?_
    rintro e w1 ⟨rfl, hb1⟩
    rw [HE.out]
    go_wp2
    go_ret2
    exact ⟨rfl, belowA⟩
  subst z
  rw [bunR_ok hE, hE]
  have hblk := blks_chk (chkE_zero hE).2.2.1
  have hpay := (payE_zero (chkE_zero hE).2.2.2.1).1
  have hel := encA_len hblk
  have hbl := bodyE_len hE
  have HNB := Lib.hid (nums_ok hE)
  have HCA := Lib.hid hblk
  have HEA : Hid (encAR b.blocks = encA b.blocks) := Lib.hid (by unfold encAR; rw [if_pos hblk])
  obtain ⟨R, hR⟩ : ∃ R, bunE b = R := ⟨_, rfl⟩
  have HRR := Lib.hid hR
  rw [hR]
  obtain ⟨i0, hin, hz0, hz1, hz2⟩ := info_parts infoU8
  have sb := str_bytes (textE magicL)
  clear hE hblk hR
  go_enter Tryz.func68, Tryz.ntmps68
  simp only [bunC]
  go_wp2_with fail
  refine (check_any b _ _ (HR.out.below (C := w.heap.size) belowA (Nat.le_refl _) (by simp)) HF.out).mono ?_
  rintro e w1 ⟨rfl, hb1⟩
  rw [HE.out]
  have hB1 : Below w.heap.size w w1 := belowA
  have z1 : w.heap.size < w1.heap.size := by have := hb1.size; simp at this; omega
  have G1 : w1.heap[w.heap.size]? = some (.cells (bunC b (.slice ua b.blocks.length uc)).toArray 32 (0, 0)) := (hb1.block _ (by simp)).trans heap_new
  clear hb1
  go_wp2_with fail
  refine (text_ok magicL _ (by decide)).mono ?_
  rintro e w2 ⟨rfl, hb2⟩
  have hB2 : Below w.heap.size w w2 := belowA
  have z2 : w.heap.size < w2.heap.size := by have := hb2.size; omega
  have G2 := (hb2.block _ z1).trans G1
  clear hb2 G1 hB1
  go_wp2_with fail
  have hO := OwnS.conv w2 (textE magicL) (by decide)
  have hBc : Below w2.heap.size w2 (Lib.bytesWorld w2 5 (B (textE magicL))) := bytes_below
  have zc : w2.heap.size < (Lib.bytesWorld w2 5 (B (textE magicL))).heap.size := by rw [Lib.bytesWorld_size]; omega
  clear sb
  generalize Lib.bytesWorld w2 5 (B (textE magicL)) = wc at *
  generalize (Value.slice (some ⟨w2.heap.size, 0, none⟩) (textE magicL).length (grownCap w2 (textE magicL).length 0 5)) = vo at *
  refine (numbers_any w.heap.size _).mono ?_
  rintro e w3 ⟨rfl, hb3⟩
  have hO3 := Lib.hid (hO.below hb3)
  have hB3 : Below w2.heap.size w2 w3 := belowA
  have z3 : w2.heap.size < w3.heap.size := by have := hb3.size; omega
  clear hO hBc hb3
  go_wp2
  go_loopw [28, 7] (fun i o wr => ∃ k : Nat, i = .int .i64 k ∧ k ≤ 10 ∧ OwnS wr w2.heap.size o (textE magicL ++ ((nums b).take k).flatMap intE) ∧ Below w2.heap.size w2 wr) (fun i _ _ => 10 - (intOf i).toNat)
  case atStart => exact ⟨0, rfl, by omega, by simpa using hO3.out, hB3⟩
  case round =>
    obtain ⟨k, rfl, hk, hO, hB⟩ := hrel
    have zr : w2.heap.size ≤ wr.heap.size := hB.size
    have zr0 : w.heap.size < wr.heap.size := by omega
    have G := (hB.block _ z2).trans G2
    have m1 : (textE magicL).length ≤ 14 := (textE_len magicL).2
    have hBw : Below w.heap.size w wr := hB2.trans (hB.mono (by omega))
    by_cases hlt : k < 10
    · obtain ⟨n, hn, hc⟩ := nums_cell b (.slice ua b.blocks.length uc) k hlt
      have ck : wr.cell? ⟨w.heap.size, k, none⟩ = some (.int .i64 n) := by rw [cellB G k]; simpa using hc
      have hix := ptrs_run w.heap.size k hlt
      obtain ⟨n1, n2⟩ := HNB.out n (List.mem_of_getElem? hn)
      have HT := Lib.hid (nums_take b k n hn)
      have m2 := take_size b k
      obtain ⟨L, hL⟩ : ∃ L, textE magicL ++ ((nums b).take k).flatMap intE = L := ⟨_, rfl⟩
      have hLl : L.length ≤ 200 := by rw [← hL, List.length_append]; omega
      rw [hL] at hO
      have HL := Lib.hid hL
      have k0 : (0 : Int) ≤ (k : Int) := by omega
      have k1 : (k : Int) < 10 := by omega
      have i1 := (intE_len n).2
      clear hn hc G hL m2
      go_wp2_with fail
      refine (int_any n _ n1 n2).mono ?_
      rintro e w5 ⟨rfl, hb5⟩
      have hO5 := hO.below hb5
      have hB5 : Below w2.heap.size w2 w5 := belowA
      have z5 : w2.heap.size ≤ w5.heap.size := hB5.size
      clear hb5
      go_wp2_with (at_builtin; refine wpList_append_S rfl _ _ _ _ rfl w2.heap.size i0 Tryz.underlying23 Tryz.underlying9 hin hz0 hz1 hz2 _ L rfl hO5 (intE n) rfl (by omega) (by omega) ?_; intro v' w6 hO6 hg6)
      have hB6 : Below w2.heap.size w2 w6 := hB5.grown hg6 z5 (fun q hq => (hO5.lt q hq).1)
      go_roundw
      case rel => exact ⟨k + 1, by go_num, by omega, by rw [HT.out, ← List.append_assoc, HL.out]; exact hO6, hB6⟩
      case measure => simp [intOf]; omega
    · obtain rfl : k = 10 := by omega
      have hten : (nums b).take 10 = nums b := List.take_of_length_le (by rw [nums_len]; exact Nat.le_refl _)
      rw [hten] at hO
      have m2 := nums_size (nums b)
      rw [nums_len] at m2
      obtain ⟨L, hL⟩ : ∃ L, textE magicL ++ (nums b).flatMap intE = L := ⟨_, rfl⟩
      have hLl : L.length ≤ 200 := by rw [← hL, List.length_append]; omega
      rw [hL] at hO
      obtain ⟨EA, hEA⟩ : ∃ q, encA b.blocks = q := ⟨_, rfl⟩
      obtain ⟨P, hP⟩ : ∃ q, textE b.payload = q := ⟨_, rfl⟩
      have hpl := (textE_len b.payload).2
      rw [hEA] at hel
      rw [hP] at hpl
      have hbody : bodyE b = L ++ (EA ++ P) := by unfold bodyE; rw [hEA, hP, ← hL]; simp
      rw [hbody] at hbl
      have HBD : Hid (R = sealE (L ++ (EA ++ P))) := Lib.hid (by rw [← HRR.out, ← hbody]; rfl)
      have HEA2 := Lib.hid hEA
      have HP2 := Lib.hid hP
      have hcat1 : ¬ 9223372036854775807 < L.length + EA.length := by omega
      have hcat2 : ¬ 9223372036854775807 < L.length + EA.length + P.length := by omega
      have ca := fun o => cellB G o
      simp only [bunC] at ca
      have HG := Lib.hid G
      have HBW := Lib.hid hbl
      clear hten hL hEA hP hbody G hbl
      go_wp2_with fail
      refine (encodeAll_any b.blocks _ _ (HR.out.below (C := w.heap.size) hBw (Nat.le_refl _) (by omega)) HF.out.2).mono ?_
      rw [HEA.out, HEA2.out, HCA.out]
      rintro e w5 ⟨rfl, hb5⟩
      have hO5 := hO.below hb5
      have hB5 : Below w2.heap.size w2 w5 := belowA
      have z5 : w.heap.size < w5.heap.size := by have := hb5.size; omega
      have G5 := (hb5.block _ zr0).trans HG.out
      have ca := fun o => cellB G5 o
      simp only [bunC] at ca
      have HG5 := Lib.hid G5
      clear hb5 G5 hO
      go_wp2_with fail
      refine (text_ok b.payload _ (by omega)).mono ?_
      rw [HP2.out]
      rintro e w7 ⟨rfl, hb7⟩
      have hcv := (hO5.below hb7).back
      have hB7 : Below w2.heap.size w2 w7 := belowA
      clear hb7 hO5 ca
      go_wp2_with fail
      refine (seal_ok (L ++ (EA ++ P)) _ (by have := HBW.out; omega)).mono ?_
      rw [← HBD.out]
      rintro e w8 ⟨rfl, hb8⟩
      go_wp2
      go_ret2
      exact ⟨rfl, hB2.trans ((belowA : Below w2.heap.size w2 w8).mono (by omega))⟩
theorem bunR_len (b : Bun) : (bunR b).length ≤ 30000 := by
  unfold bunR
  split
  · rename_i h
    have h1 := bodyE_len h
    have h2 := intE_len ((bodyE b).length : Int)
    unfold bunE
    rw [sealE_len]; omega
  · simp
end Go.Proofs.YtmknchdciblfjaaGreat
/-! XTe -/
namespace Go.Proofs.YtmknchdciblfjaaGreat
open Go Go.RowKit
attribute [local go_sem] B_getElem B_size B_app B_extract B_get B_toList
theorem RInts.lit {w : World} {N g : Nat} {t : TypeId} {l : List Int} (h : w.heap[g]? = some (.cells (ints l).toArray t (0, 0))) (hg : g < N) (hl : l.length ≤ 1000) : RInts w N (.slice (some ⟨g, 0, none⟩) l.length l.length) l := by
  refine ⟨some ⟨g, 0, none⟩, l.length, rfl, Nat.le_refl _, by unfold maxLen; omega, (fun h => by cases h), fun _ => ⟨g, 0, rfl, hg, fun i x hx => ?_⟩⟩
  rw [Nat.zero_add, cellB h i]
  simp [ints, hx]
def idV (s c q o t : Int) : Value := .agg #[.int .i64 s, .int .i64 c, .int .i64 q, .int .i64 o, .int .i64 t]
set_option maxHeartbeats 1000000 in
theorem parent_any (s c q o t : Int) (w : World) :
    Calls Tryz.prog 82 #[idV s c q o t] w fun e w' => e = .returned (idV s c q 0 0) ∧ Below w.heap.size w w' := by
  unfold idV
  go_enter Tryz.func82, Tryz.ntmps82
  go_wp2
  refine bodyPost_ret (v := .agg #[.int .i64 s, .int .i64 c, .int .i64 q, .int .i64 0, .int .i64 0]) (by simp [results, Tryz.results82, go_sem, World.cell?_setCell_same']) rfl ?_
  exact ⟨rfl, belowA⟩
end Go.Proofs.YtmknchdciblfjaaGreat
/-! XTf -/
namespace Go.Proofs.YtmknchdciblfjaaGreat
open Go Go.RowKit
attribute [local go_sem] B_getElem B_size B_app B_extract B_get B_toList
def expS (b : Bun) : Int := if chkE b ≠ 0 then 0 else b.crt + b.life
theorem exp_facts {b : Bun} (h : chkE b = 0) : 0 ≤ b.crt ∧ b.crt ≤ 1099511627776 ∧ 1 ≤ b.life ∧ b.crt + b.life ≤ 1099511627776 := by
  obtain ⟨h1, _, _, _, h5, _, _⟩ := chkE_zero h
  have := idB_crt h1
  omega
set_option maxHeartbeats 1000000 in
theorem expires_any (b : Bun) (u : Value) (w : World) (h : RBlks w w.heap.size u b.blocks) (hf : Fits b) :
    Calls Tryz.prog 34 #[.agg (bunC b u).toArray] w fun e w' => e = .returned (.int .i64 (expS b)) ∧ Below w.heap.size w w' := by
  obtain ⟨E, hE⟩ : ∃ E, chkE b = E := ⟨_, rfl⟩
  obtain ⟨ua, uc, rfl, _⟩ := id h
  have HR := Lib.hid h
  have HF := Lib.hid hf
  have HE := Lib.hid hE
  clear h hf
  by_cases z : E = 0
  case neg =>
    have z' : (E != 0) = true := by simpa using z
    rw [show expS b = 0 from by unfold expS; rw [if_pos (by rw [hE]; exact z)]]
    clear hE z
    go_enter Tryz.func34, Tryz.ntmps34
    simp only [bunC]
    go_wp2_with fail
    refine (check_any b _ _ (HR.out.below (C := w.heap.size) belowA (Nat.le_refl _) (by simp)) HF.out).mono ?_
    rintro e w1 ⟨rfl, hb1⟩
    rw [HE.out]
    go_wp2
    go_ret
    exact ⟨rfl, belowA⟩
  subst z
  obtain ⟨f1, f2, f3, f4⟩ := exp_facts hE
  rw [show expS b = b.crt + b.life from by unfold expS; rw [if_neg (by simp [hE])]]
  have hwk : IntKind.i64.wrap (b.crt + b.life) = b.crt + b.life := by rw [IntKind.wrap_i64]; omega
  clear hE
  go_enter Tryz.func34, Tryz.ntmps34
  simp only [bunC]
  go_wp2_with fail
  refine (check_any b _ _ (HR.out.below (C := w.heap.size) belowA (Nat.le_refl _) (by simp)) HF.out).mono ?_
  rintro e w1 ⟨rfl, hb1⟩
  rw [HE.out]
  have G1 : w1.heap[w.heap.size]? = some (.cells (bunC b (.slice ua b.blocks.length uc)).toArray 32 (0, 0)) := (hb1.block _ (by simp)).trans heap_new
  have ca := fun o => cellB G1 o
  simp only [bunC] at ca
  go_wp2
  go_ret
  exact ⟨rfl, belowA⟩
end Go.Proofs.YtmknchdciblfjaaGreat
/- Joined by port.py: XTh -/
set_option linter.unusedVariables false
set_option linter.unusedSimpArgs false
/-! XTh -/
namespace Go.Proofs.YtmknchdciblfjaaGreat
open Go Go.RowKit
attribute [local go_sem] B_getElem B_size B_app B_extract B_get B_toList
/-- f integers that the decoder reads: the integers, where it stands, whether something was wrong -/
def rdD (t : List UInt8) : Nat → Nat → Bool → List Int × Nat × Bool
  | 0, a, q => ([], a, q)
  | f + 1, a, q => ((readS (t.drop a)).1 :: (rdD t f (stA a q (readS (t.drop a)).2.1 (readS (t.drop a)).2.2) (stQ q (readS (t.drop a)).2.2)).1, (rdD t f (stA a q (readS (t.drop a)).2.1 (readS (t.drop a)).2.2) (stQ q (readS (t.drop a)).2.2)).2)
theorem rdD_step {t : List UInt8} {f a : Nat} {q : Bool} {n k e : Int} (h : readS (t.drop a) = (n, k, e)) : rdD t (f + 1) a q = (n :: (rdD t f (stA a q k e) (stQ q e)).1, (rdD t f (stA a q k e) (stQ q e)).2) := by rw [rdD, h]
theorem stA_le {a n : Nat} {q : Bool} {k e : Int} (ha : a ≤ n) (hk : e = 0 → k ≤ ((n - a : Nat) : Int)) : stA a q k e ≤ n := by
  unfold stA
  split
  · exact ha
  · rename_i h
    have := hk (Decidable.not_not.1 fun h2 => h (.inr h2))
    omega
theorem readS_fit {l : List UInt8} {n k e : Int} (h : readS l = (n, k, e)) : e = 0 → k ≤ (l.length : Int) := fun he => ((readS_ok h).1 he).2.2.1
theorem rdD_spec (t : List UInt8) : ∀ (f a : Nat) (q : Bool) (L : List Int) (A : Nat) (Q : Bool), rdD t f a q = (L, A, Q) → a ≤ t.length →
    A ≤ t.length ∧ L.length = f ∧ (Q = false → q = false ∧ a ≤ A ∧ rdNs f (t.drop a) = some (L, A - a)) ∧ (Q = true → q = true ∨ rdNs f (t.drop a) = none)
  | 0, a, q, L, A, Q, h, ha => by
    rw [rdD] at h
    obtain ⟨rfl, rfl, rfl⟩ := trip h
    exact ⟨ha, rfl, fun hq => ⟨hq, Nat.le_refl _, by simp [rdNs]⟩, fun hq => .inl hq⟩
  | f + 1, a, q, L, A, Q, h, ha => by
    obtain ⟨⟨n, k, e⟩, hr⟩ : ∃ r, readS (t.drop a) = r := ⟨_, rfl⟩
    rw [rdD_step hr] at h
    obtain ⟨⟨L2, A2, Q2⟩, h2⟩ : ∃ r, rdD t f (stA a q k e) (stQ q e) = r := ⟨_, rfl⟩
    rw [h2] at h
    obtain ⟨rfl, rfl, rfl⟩ := trip h
    have hf := readS_fit hr
    rw [List.length_drop] at hf
    obtain ⟨g1, g2, g3, g4⟩ := rdD_spec t f _ _ _ _ _ h2 (stA_le ha hf)
    refine ⟨g1, by simp [g2], fun hq => ?_, fun hq => ?_⟩
    · obtain ⟨p1, p2, p3⟩ := g3 hq
      obtain ⟨rfl, rfl⟩ := stQ_err p1
      have hk := (readS_ok hr).1 rfl
      have hA : stA a false k 0 = a + k.toNat := by unfold stA; rw [if_neg (by simp)]
      rw [hA] at p2 p3
      refine ⟨rfl, by omega, ?_⟩
      rw [rdNs, hr]
      simp only
      rw [if_neg (by simp), List.drop_drop, p3]
      simp only [Option.some.injEq, Prod.mk.injEq, true_and]
      omega
    · by_cases hq1 : q = true
      · exact .inl hq1
      · right
        rw [rdNs, hr]
        simp only
        by_cases he : e = 0
        · rw [if_neg (by simp [he])]
          subst he
          have hq0 : q = false := by simpa using hq1
          subst hq0
          have hA : stA a false k 0 = a + k.toNat := by unfold stA; rw [if_neg (by simp)]
          rcases g4 hq with h | h
          · simp [stQ] at h
          · rw [hA] at h
            rw [List.drop_drop, h]
        · rw [if_pos he]
theorem bodyD_eq {t p : List UInt8} {k kp ep : Int} {L : List Int} {A kb : Nat} {Q : Bool} {bl : List Blk} {eb : Int} (h1 : textS t = (magicL, k, 0)) (h2 : rdD t 10 k.toNat false = (L, A, Q)) (h3 : decAS (t.drop A) = (bl, kb, eb)) (h4 : textS (t.drop (stA A Q kb eb)) = (p, kp, ep)) :
    bodyD t = if stQ (stQ Q eb) ep = true then none else if stA (stA A Q kb eb) (stQ Q eb) kp ep ≠ t.length then none else if chkE (mkBun L bl p) ≠ 0 then none else some (mkBun L bl p) := by
  obtain ⟨c1, c2, _⟩ := (textS_ok h1).1 rfl
  obtain ⟨g1, g2, g3, g4⟩ := rdD_spec t 10 _ _ _ _ _ h2 (by omega)
  unfold bodyD
  rw [h1]
  simp only
  rw [if_neg (by simp)]
  cases Q with
  | true =>
    have h := (g4 rfl).resolve_left (by simp)
    rw [h]
    simp only
    rw [if_pos (by simp [stQ])]
  | false =>
    obtain ⟨_, p2, p3⟩ := g3 rfl
    rw [p3]
    simp only
    rw [show k.toNat + (A - k.toNat) = A by omega, h3]
    simp only
    by_cases he : eb = 0
    · subst he
      rw [if_neg (by simp)]
      have e1 : stA A false kb 0 = A + kb := by unfold stA; rw [if_neg (by simp)]; simp
      rw [e1] at h4 ⊢
      rw [h4]
      simp only
      by_cases hp : ep = 0
      · subst hp
        have e2 : stA (A + kb) (stQ false 0) kp 0 = A + kb + kp.toNat := by unfold stA; rw [if_neg (by simp [stQ])]
        have hq : stQ (stQ false 0) 0 = false := by simp [stQ]
        rw [if_neg (by simp), e2, hq, if_neg (show ¬ (false = true) by simp)]
      · rw [if_pos hp, if_pos (by simp [stQ, hp])]
    · rw [if_pos he, if_pos (by simp [stQ, he])]
/-- the cells of a bundle of which some numbers are there -/
def nbC (l : List Int) (v : Value) (p : List UInt8) : Array Value := ((l ++ List.replicate (10 - l.length) 0).map (Value.int .i64) ++ [v, .string (B p)]).toArray
theorem nbC_set {l : List Int} {k : Nat} (hl : l.length = k) (hk : k < 10) (n : Int) (v : Value) (p : List UInt8) : (nbC l v p).setIfInBounds k (.int .i64 n) = nbC (l ++ [n]) v p := by
  unfold nbC
  obtain ⟨m, hm⟩ : ∃ m, 10 - l.length = m + 1 := ⟨10 - l.length - 1, by omega⟩
  have hm2 : 10 - (l ++ [n]).length = m := by simp; omega
  rw [hm, hm2, List.replicate_succ]
  subst hl
  simp [List.set_append]
theorem list10 {α : Type} {xs : List α} (h : xs.length = 10) : ∃ a b c d e f g i j k, xs = [a, b, c, d, e, f, g, i, j, k] := by
  match xs, h with
  | [a, b, c, d, e, f, g, i, j, k], _ => exact ⟨a, b, c, d, e, f, g, i, j, k, rfl⟩
theorem nbC_get {l : List Int} {k : Nat} (hl : l.length = k) (hk : k < 10) (v : Value) (p : List UInt8) : (nbC l v p)[k]? = some (.int .i64 0) := by
  unfold nbC
  obtain ⟨m, hm⟩ : ∃ m, 10 - l.length = m + 1 := ⟨10 - l.length - 1, by omega⟩
  rw [hm, List.replicate_succ]
  subst hl
  simp
/-- what Decode returns -/
def DecPost (b : Bun) (E : Int) (w : World) (e : Ending) (w' : World) : Prop :=
  ∃ u, e = .returned (.tuple #[.agg (bunC b u).toArray, .int .i64 E]) ∧ RBlks w' w'.heap.size u b.blocks ∧ RFrom w.heap.size u ∧ Below w.heap.size w w'
theorem DecPost.err {E : Int} {w w' : World} (h : Below w.heap.size w w') : DecPost zBun E w (.returned (.tuple #[.agg #[.int .i64 0, .int .i64 0, .int .i64 0, .int .i64 0, .int .i64 0, .int .i64 0, .int .i64 0, .int .i64 0, .int .i64 0, .int .i64 0, .slice none 0 0, .string { data := #[] }], .int .i64 E])) w' :=
  ⟨.slice none 0 0, rfl, RBlks.nil _ _, RFrom.nil _, h⟩
theorem decB_open {s t : List UInt8} {c e : Int} (h : openS tailB s = (t, c, e)) (he : e ≠ 0) : decBS s = (zBun, e) := by
  unfold decBS; rw [h]; exact if_pos he
theorem decB_size {s t : List UInt8} {c : Int} (h : openS tailB s = (t, c, 0)) (hc : c ≠ s.length) : decBS s = (zBun, 11) := by
  unfold decBS; rw [h]; simp only; rw [if_neg (by simp), if_pos hc]
theorem decB_none {s t : List UInt8} {c : Int} (h : openS tailB s = (t, c, 0)) (hb : bodyD t = none) : decBS s = (zBun, 11) := by
  unfold decBS; rw [h]; simp only; rw [if_neg (by simp), hb]; split <;> rfl
theorem decB_some {s t : List UInt8} {c : Int} {b : Bun} (h : openS tailB s = (t, c, 0)) (hc : c = s.length) (hb : bodyD t = some b) : decBS s = (b, 0) := by
  unfold decBS; rw [h]; simp only; rw [if_neg (by simp), if_neg (by simp [hc]), hb]
theorem bodyD_name {t x : List UInt8} {k e : Int} (h : textS t = (x, k, e)) (hx : x ≠ magicL) : bodyD t = none := by
  unfold bodyD; rw [h]; simp only; rw [if_pos (.inr hx)]
theorem blks_fit {l : List Blk} (h : chkAll l = 0) : ∀ x ∈ l, x.data.length ≤ maxLen := fun x hx => by
  have := (blkE_zero ((chkAll_zero h).2 x hx)).2.2.2.2
  unfold maxLen; omega
set_option maxRecDepth 100000 in
set_option maxHeartbeats 6000000 in
theorem bunDecode_any (s : List UInt8) (w : World) (hs : s.length ≤ 1000000000) :
    Calls Tryz.prog 157 #[.string (B s)] w (DecPost (decBS s).1 (decBS s).2 w) := by
  obtain ⟨⟨t, c, e0⟩, h0⟩ : ∃ q, openS tailB s = q := ⟨_, rfl⟩
  have hok := openS_len h0
  have ht : t.length ≤ 1000000000 := by omega
  have H0 := Lib.hid h0
  by_cases he : e0 = 0
  case neg =>
    rw [decB_open h0 he]
    have he1 : (e0 == 0) = false := beq_eq_false_iff_ne.2 he
    have he2 : (e0 != 0) = true := by rw [bne_iff_ne]; exact he
    clear he h0
    go_enter Tryz.func157, Tryz.ntmps157
    go_wp2_with fail
    refine (open_any s t c e0 _ hs H0.out).mono ?_
    rintro e' w1 ⟨rfl, hb1⟩
    have z1 : w.heap.size < w1.heap.size := by have := hb1.size; simp at this; omega
    have G1 : w1.heap[w.heap.size]? = some (.cells bun0 32 (0, 0)) := (hb1.block _ (by simp)).trans heap_new
    have ca := fun o => cellB G1 o
    have fa := fun o => frozenB G1 o
    simp only [bun0] at ca
    go_wp2
    refine bodyPost_ret (v := .tuple #[.agg #[.int .i64 0, .int .i64 0, .int .i64 0, .int .i64 0, .int .i64 0, .int .i64 0, .int .i64 0, .int .i64 0, .int .i64 0, .int .i64 0, .slice none 0 0, .string { data := #[] }], .int .i64 e0]) (by simp [results, Tryz.results157, go_sem, World.cell?_setCell_same', ca]) rfl ?_
    exact DecPost.err belowA
  subst he
  obtain ⟨⟨x, k, e1⟩, h1⟩ : ∃ q, textS t = q := ⟨_, rfl⟩
  have H1 := Lib.hid h1
  by_cases hx : x = magicL
  case neg =>
    rw [decB_none h0 (bodyD_name h1 hx)]
    have hx' : ¬ x = [77, 66, 49] := hx
    clear hx h1 h0
    go_enter Tryz.func157, Tryz.ntmps157
    go_wp2_with fail
    refine (open_any s t c 0 _ hs H0.out).mono ?_
    rintro e' w1 ⟨rfl, hb1⟩
    have hB1 : Below w.heap.size w w1 := belowA
    have z1 : w.heap.size < w1.heap.size := by have := hb1.size; simp at this; omega
    have G1 : w1.heap[w.heap.size]? = some (.cells bun0 32 (0, 0)) := (hb1.block _ (by simp)).trans heap_new
    clear hb1
    go_wp2_with fail
    refine (dtext_any t 0 false x k e1 w1.heap.size _ (by exact (Below.heap_alloc _ _ _ (by simp)).trans heap_new) (Nat.zero_le _) ht (by simpa using H1.out)).mono ?_
    rintro e' w2 ⟨rfl, R2, K2, hb2⟩
    have z2 : w1.heap.size + 1 < w2.heap.size := by have := K2.1; simp at this; omega
    have G2 := (K2.2 w.heap.size (by simp; omega) (by omega)).trans ((Below.heap_alloc _ _ _ (by simp; omega)).trans ((Below.heap_alloc _ _ _ z1).trans G1))
    have hB2 : Below w.heap.size w w2 := by exact btrans (balloc0 (balloc0 hB1)) hb2 (by omega)
    have ca := fun o => cellB G2 o
    have fa := fun o => frozenB G2 o
    simp only [bun0] at ca
    clear hb2
    go_wp2
    refine bodyPost_ret (v := .tuple #[.agg #[.int .i64 0, .int .i64 0, .int .i64 0, .int .i64 0, .int .i64 0, .int .i64 0, .int .i64 0, .int .i64 0, .int .i64 0, .int .i64 0, .slice none 0 0, .string { data := #[] }], .int .i64 11]) (by simp [results, Tryz.results157, go_sem, World.cell?_setCell_same', ca]) rfl ?_
    exact DecPost.err belowA
  subst hx
  have he1 : e1 = 0 := Decidable.byContradiction fun q => by have := ((textS_ok h1).2 q).1; cases this
  subst he1
  have H1 : Hid (textS t = ([77, 66, 49], k, 0)) := H1
  by_cases hc : c = s.length
  case neg =>
    rw [decB_size h0 hc]
    have hc' : (c != (s.length : Int)) = true := by rw [bne_iff_ne]; exact hc
    clear hc h1 h0
    go_enter Tryz.func157, Tryz.ntmps157
    go_wp2_with fail
    refine (open_any s t c 0 _ hs H0.out).mono ?_
    rintro e' w1 ⟨rfl, hb1⟩
    have hB1 : Below w.heap.size w w1 := belowA
    have z1 : w.heap.size < w1.heap.size := by have := hb1.size; simp at this; omega
    have G1 : w1.heap[w.heap.size]? = some (.cells bun0 32 (0, 0)) := (hb1.block _ (by simp)).trans heap_new
    clear hb1
    go_wp2_with fail
    refine (dtext_any t 0 false [77, 66, 49] k 0 w1.heap.size _ (by exact (Below.heap_alloc _ _ _ (by simp)).trans heap_new) (Nat.zero_le _) ht (by simpa using H1.out)).mono ?_
    rintro e' w2 ⟨rfl, R2, K2, hb2⟩
    have z2 : w1.heap.size + 1 < w2.heap.size := by have := K2.1; simp at this; omega
    have G2 := (K2.2 w.heap.size (by simp; omega) (by omega)).trans ((Below.heap_alloc _ _ _ (by simp; omega)).trans ((Below.heap_alloc _ _ _ z1).trans G1))
    have hB2 : Below w.heap.size w w2 := by exact btrans (balloc0 (balloc0 hB1)) hb2 (by omega)
    have ca := fun o => cellB G2 o
    have fa := fun o => frozenB G2 o
    simp only [bun0] at ca
    clear hb2
    go_wp2
    refine bodyPost_ret (v := .tuple #[.agg #[.int .i64 0, .int .i64 0, .int .i64 0, .int .i64 0, .int .i64 0, .int .i64 0, .int .i64 0, .int .i64 0, .int .i64 0, .int .i64 0, .slice none 0 0, .string { data := #[] }], .int .i64 11]) (by simp [results, Tryz.results157, go_sem, World.cell?_setCell_same', ca]) rfl ?_
    exact DecPost.err belowA
  have hc' : (c != (s.length : Int)) = false := by rw [hc]; simp
  have hkk := (textS_ok h1).1 rfl
  obtain ⟨⟨L, A, Q⟩, h2⟩ : ∃ q, rdD t 10 k.toNat false = q := ⟨_, rfl⟩
  obtain ⟨⟨bl, kb, eb⟩, h3⟩ : ∃ q, decAS (t.drop A) = q := ⟨_, rfl⟩
  obtain ⟨A2, hA2⟩ : ∃ q, stA A Q kb eb = q := ⟨_, rfl⟩
  obtain ⟨Q2, hQ2⟩ : ∃ q, stQ Q eb = q := ⟨_, rfl⟩
  obtain ⟨⟨p, kp, ep⟩, h4⟩ : ∃ q, textS (t.drop A2) = q := ⟨_, rfl⟩
  obtain ⟨A3, hA3⟩ : ∃ q, stA A2 Q2 kp ep = q := ⟨_, rfl⟩
  obtain ⟨Q3, hQ3⟩ : ∃ q, stQ Q2 ep = q := ⟨_, rfl⟩
  have hbd := bodyD_eq (p := p) (kp := kp) (ep := ep) h1 h2 h3 (by rw [hA2]; exact h4)
  rw [hA2, hQ2, hA3, hQ3] at hbd
  obtain ⟨g1, g2, _, _⟩ := rdD_spec t 10 _ _ _ _ _ h2 (by omega)
  have hL2 : A2 ≤ t.length := by rw [← hA2]; exact stA_le g1 (fun _ => by have := decAS_len h3; rw [List.length_drop] at this; omega)
  have hL3 : A3 ≤ t.length := by rw [← hA3]; exact stA_le hL2 (fun he => by have := ((textS_ok h4).1 he).2.1; rw [List.length_drop] at this; omega)
  have HBD := Lib.hid hbd
  have H2 := Lib.hid h2
  have H3 := Lib.hid h3
  have H4 := Lib.hid h4
  have HA2 := Lib.hid hA2
  have HQ2 := Lib.hid hQ2
  have HA3 := Lib.hid hA3
  have HQ3 := Lib.hid hQ3
  have HC := Lib.hid hc
  have HG2 := Lib.hid g2
  obtain ⟨⟨D, ED⟩, hD⟩ : ∃ q, decBS s = q := ⟨_, rfl⟩
  have HD := Lib.hid hD
  rw [hD]
  have hstk : stA 0 false k 0 = k.toNat := by unfold stA; rw [if_neg (by simp)]; omega
  have HSTK := Lib.hid hstk
  have hkt : k.toNat ≤ t.length := by omega
  clear hbd h0 h1 h2 h3 h4 hA2 hQ2 hA3 hQ3 hc g2 hD hstk
  go_enter Tryz.func157, Tryz.ntmps157
  go_wp2_with fail
  refine (open_any s t c 0 _ hs H0.out).mono ?_
  rintro e' w1 ⟨rfl, hb1⟩
  have hB1 : Below w.heap.size w w1 := belowA
  have z1 : w.heap.size < w1.heap.size := by have := hb1.size; simp at this; omega
  have G1 : w1.heap[w.heap.size]? = some (.cells bun0 32 (0, 0)) := (hb1.block _ (by simp)).trans heap_new
  clear hb1
  go_wp2_with fail
  refine (dtext_any t 0 false [77, 66, 49] k 0 w1.heap.size _ (by exact (Below.heap_alloc _ _ _ (by simp)).trans heap_new) (Nat.zero_le _) ht (by simpa using H1.out)).mono ?_
  rw [HSTK.out]
  rintro e' w2 ⟨rfl, R2, K2, hb2⟩
  have z2 : w1.heap.size + 1 < w2.heap.size := by have := K2.1; simp at this; omega
  have G2 := (K2.2 w.heap.size (by simp; omega) (by omega)).trans ((Below.heap_alloc _ _ _ (by simp; omega)).trans ((Below.heap_alloc _ _ _ z1).trans G1))
  have X2 : w2.heap[w1.heap.size + 1]? = some (.cells bun0 32 (0, 0)) := (K2.2 (w1.heap.size + 1) (by simp) (by omega)).trans (by exact heap_new' (by simp))
  have hB2 : Below w.heap.size w w2 := by exact btrans (balloc0 (balloc0 hB1)) hb2 (by omega)
  clear hb2 K2 G1 hB1
  generalize w1.heap.size = rb at *
  go_wp2_with fail
  refine (numbers_any (rb + 1) _).mono ?_
  rintro e' w3 ⟨rfl, hb3⟩
  have hD3 : Dcr w3 rb t ((k.toNat : Nat) : Int) false := (hb3.block _ (by omega)).trans R2
  have G3 := (hb3.block _ (by omega)).trans G2
  have X3 := (hb3.block _ z2).trans X2
  have z3 : rb + 1 < w3.heap.size := by have := hb3.size; omega
  have hB3 : Below w.heap.size w w3 := belowA
  have HG3 := Lib.hid G3
  have HX3 := Lib.hid X3
  clear hb3 hB2 R2 G2 X2 G3 X3
  go_wp2
  go_loopw [36] (fun i wr => ∃ (j a : Nat) (q : Bool) (l : List Int), i = .int .i64 j ∧ j ≤ 10 ∧ l.length = j ∧ a ≤ t.length ∧ Hid ((l ++ (rdD t (10 - j) a q).1, (rdD t (10 - j) a q).2) = (L, A, Q)) ∧ Dcr wr rb t a q ∧
    Hid (wr.heap[rb + 1]? = some (.cells (nbC l (.slice none 0 0) []) 32 (0, 0))) ∧ Hid (wr.heap[w.heap.size]? = some (.cells bun0 32 (0, 0))) ∧ Below w.heap.size w wr ∧ rb + 1 < wr.heap.size) (fun i _ => 10 - (intOf i).toNat)
  case atStart => exact ⟨0, k.toNat, false, [], rfl, by omega, rfl, hkt, Lib.hid (by exact H2.out), hD3, Lib.hid HX3.out, Lib.hid HG3.out, hB3, z3⟩
  case round =>
    obtain ⟨j, a, q, l, rfl, hj, hl, ha, HLL, hD, HX, HG, hB, zr⟩ := hrel
    have HLN := Lib.hid hl
    clear hl
    by_cases hlt : j < 10
    · obtain ⟨⟨n, kk, e⟩, hr⟩ : ∃ r, readS (t.drop a) = r := ⟨_, rfl⟩
      have hst := HLL.out
      rw [show 10 - j = 10 - (j + 1) + 1 by omega, rdD_step hr] at hst
      have hf := readS_fit hr
      rw [List.length_drop] at hf
      have hle := stA_le (q := q) ha hf
      have HR := Lib.hid hr
      have HST := Lib.hid hst
      have hix := ptrs_run (rb + 1) j hlt
      have k0 : (0 : Int) ≤ (j : Int) := by omega
      have k1 : (j : Int) < 10 := by omega
      clear hst hr hf
      go_wp2_with fail
      refine (dinteger_any t a q n kk e rb _ hD ha ht HR.out).mono ?_
      rintro e' w5 ⟨rfl, R5, K5, hb5⟩
      have z5 : rb + 1 < w5.heap.size := by have := K5.1; omega
      have G5 := (K5.2 w.heap.size (by omega) (by omega)).trans HG.out
      have X5 := (K5.2 (rb + 1) zr (by omega)).trans HX.out
      have ck : w5.cell? ⟨rb + 1, j, none⟩ = some (.int .i64 0) := by rw [cellB X5 j]; exact nbC_get HLN.out hlt _ _
      have fk : w5.frozen? ⟨rb + 1, j, none⟩ = false := frozenB X5 j
      have hB5 : Below w.heap.size w w5 := btrans hB hb5 (by omega)
      have HG5 := Lib.hid G5
      have HX5 := Lib.hid X5
      clear hb5 K5 G5 X5
      go_wp2
      go_roundw
      case rel =>
        refine ⟨j + 1, stA a q kk e, stQ q e, l ++ [n], by go_num, by omega, by rw [List.length_append, HLN.out]; rfl, hle, Lib.hid ?_, ?_, Lib.hid ?_, Lib.hid ?_, belowA, by simpa using z5⟩
        · rw [← HST.out]; simp
        · exact (World.heap_setCell_ne' _ _ _ (by show rb + 1 ≠ rb; omega)).trans R5
        · rw [← nbC_set HLN.out hlt]; exact setB HX5.out j _
        · exact (World.heap_setCell_ne' _ _ _ (by show rb + 1 ≠ w.heap.size; omega)).trans HG5.out
      case measure => simp [intOf]; omega
    · obtain rfl : j = 10 := by omega
      have hfin := HLL.out
      rw [show 10 - 10 = 0 from rfl, rdD] at hfin
      simp only [List.append_nil] at hfin
      obtain ⟨rfl, rfl, rfl⟩ := trip hfin
      obtain ⟨n0, n1, n2, n3, n4, n5, n6, n7, n8, n9, rfl⟩ := list10 HLN.out
      have X := HX.out
      rw [show nbC [n0, n1, n2, n3, n4, n5, n6, n7, n8, n9] (.slice none 0 0) [] = (bunC ⟨n0, n1, n2, n3, n4, n5, n6, n7, n8, n9, [], []⟩ (.slice none 0 0)).toArray from rfl] at X
      have HX2 := Lib.hid X
      clear hfin HLL X HX
      go_wp2_with fail
      refine (dblocks_any t a q bl kb eb rb _ hD ha ht H3.out).mono ?_
      rw [HA2.out, HQ2.out]
      rintro e' w5 ⟨v, rfl, hv, fv, R5, K5, hb5⟩
      obtain ⟨va, vc, rfl, _⟩ := id hv
      have HV := Lib.hid hv
      have HF := Lib.hid fv
      have z5 : rb + 1 < w5.heap.size := by have := K5.1; omega
      have l5 : wr.heap.size ≤ w5.heap.size := K5.1
      have G5 := (K5.2 w.heap.size (by omega) (by omega)).trans HG.out
      have X5 := (K5.2 (rb + 1) zr (by omega)).trans HX2.out
      have hB5 : Below w.heap.size w w5 := btrans hB hb5 (by omega)
      have ca := fun o => cellB X5 o
      have fa := fun o => frozenB X5 o
      simp only [bunC] at ca
      have HG5 := Lib.hid G5
      have HX5 := Lib.hid X5
      clear hb5 K5 G5 X5 hv fv hD
      go_wp2_with fail
      refine (dtext_any t A2 Q2 p kp ep rb _ ((World.heap_setCell_ne' _ _ _ (by show rb + 1 ≠ rb; omega)).trans R5) hL2 ht H4.out).mono ?_
      rw [HA3.out, HQ3.out]
      rintro e' w6 ⟨rfl, R6, K6, hb6⟩
      have z6 : rb + 1 < w6.heap.size := by have := K6.1; simp at this; omega
      have l6 : w5.heap.size ≤ w6.heap.size := by have := K6.1; simpa using this
      have G6 := (K6.2 w.heap.size (by simp; omega) (by omega)).trans ((World.heap_setCell_ne' _ _ _ (by show rb + 1 ≠ w.heap.size; omega)).trans HG5.out)
      have X6' := (K6.2 (rb + 1) (by simpa using z5) (by omega)).trans (setB HX5.out 10 (.slice va bl.length vc))
      have X6 : w6.heap[rb + 1]? = some (.cells (bunC ⟨n0, n1, n2, n3, n4, n5, n6, n7, n8, n9, bl, []⟩ (.slice va bl.length vc)).toArray 32 (0, 0)) := by simpa [bunC] using X6'
      have hB6 : Below w.heap.size w w6 := btrans (bset hB5 (by show w.heap.size ≤ rb + 1; omega)) hb6 (by omega)
      have hv6 : RBlks w6 w6.heap.size (.slice va bl.length vc) bl := HV.out.keepFrom HF.out (fun b o h1 h2 => (K6.cell (p := ⟨b, o, none⟩) (by simpa using h2) (by show b ≠ rb; omega)).trans (World.cell?_setCell_far _ _ _ _ (by show rb + 1 ≠ b; omega))) l6
      have HV6 := Lib.hid hv6
      have ca := fun o => cellB X6 o
      have fa := fun o => frozenB X6 o
      simp only [bunC] at ca
      have HG6 := Lib.hid G6
      have HX6 := Lib.hid X6
      clear hb6 K6 G6 X6 X6' hv6 R5
      have hQ := HBD.out
      rw [show mkBun [n0, n1, n2, n3, n4, n5, n6, n7, n8, n9] bl p = ⟨n0, n1, n2, n3, n4, n5, n6, n7, n8, n9, bl, p⟩ from rfl] at hQ
      have hD6 : Dcr (w6.setCell ⟨rb + 1, 11, none⟩ (.string (B p))) rb t A3 Q3 := (World.heap_setCell_ne' _ _ _ (by show rb + 1 ≠ rb; omega)).trans R6
      have hG7 : (w6.setCell ⟨rb + 1, 11, none⟩ (.string (B p))).heap[w.heap.size]? = some (.cells bun0 32 (0, 0)) := (World.heap_setCell_ne' _ _ _ (by show rb + 1 ≠ w.heap.size; omega)).trans HG6.out
      have hX7 : (w6.setCell ⟨rb + 1, 11, none⟩ (.string (B p))).heap[rb + 1]? = some (.cells (bunC ⟨n0, n1, n2, n3, n4, n5, n6, n7, n8, n9, bl, p⟩ (.slice va bl.length vc)).toArray 32 (0, 0)) := by simpa [bunC] using setB HX6.out 11 (.string (B p))
      have hV7 : RBlks (w6.setCell ⟨rb + 1, 11, none⟩ (.string (B p))) (w6.setCell ⟨rb + 1, 11, none⟩ (.string (B p))).heap.size (.slice va bl.length vc) bl := HV6.out.keepFrom HF.out (fun b o h1 h2 => World.cell?_setCell_far _ _ _ _ (by show rb + 1 ≠ b; omega)) (by simp)
      have HD6 := Lib.hid hD6
      have HG7 := Lib.hid hG7
      have HX7 := Lib.hid hX7
      have HV7 := Lib.hid hV7
      have cd : (w6.setCell ⟨rb + 1, 11, none⟩ (.string (B p))).cell? ⟨rb, 2, none⟩ = some (.bool Q3) := cellB hD6 2
      clear hD6 hG7 hX7 hV7
      cases Q3 with
      | true =>
        rw [if_pos rfl] at hQ
        have e := decB_none H0.out hQ
        rw [HD.out] at e
        injection e with e1 e2
        subst e1 e2
        clear hQ
        have cg := fun o => cellB HG7.out o
        have fg := fun o => frozenB HG7.out o
        simp only [bun0] at cg
        go_wp2
        refine bodyPost_ret (v := .tuple #[.agg #[.int .i64 0, .int .i64 0, .int .i64 0, .int .i64 0, .int .i64 0, .int .i64 0, .int .i64 0, .int .i64 0, .int .i64 0, .int .i64 0, .slice none 0 0, .string { data := #[] }], .int .i64 11]) (by simp [results, Tryz.results157, go_sem, World.cell?_setCell_same', cg]) rfl ?_
        exact DecPost.err belowA
      | false =>
        rw [if_neg (by simp)] at hQ
        by_cases h3 : A3 = t.length
        case neg =>
          rw [if_pos h3] at hQ
          have e := decB_none H0.out hQ
          rw [HD.out] at e
          injection e with e1 e2
          subst e1 e2
          have h3' : ¬ t.length ≤ A3 := by omega
          clear hQ h3
          go_wp2_with fail
          refine (drest_any t A3 false rb _ HD6.out (by omega) ht).mono ?_
          rintro e' w7 ⟨rfl, hb7⟩
          have G7 := (hb7.block _ (by simp; omega)).trans HG7.out
          have cg := fun o => cellB G7 o
          have fg := fun o => frozenB G7 o
          simp only [bun0] at cg
          go_wp2
          refine bodyPost_ret (v := .tuple #[.agg #[.int .i64 0, .int .i64 0, .int .i64 0, .int .i64 0, .int .i64 0, .int .i64 0, .int .i64 0, .int .i64 0, .int .i64 0, .int .i64 0, .slice none 0 0, .string { data := #[] }], .int .i64 11]) (by simp [results, Tryz.results157, go_sem, World.cell?_setCell_same', cg]) rfl ?_
          exact DecPost.err belowA
        rw [if_neg (by simp [h3])] at hQ
        have h3' : t.drop A3 = [] := by rw [h3]; exact List.drop_length
        have H3' := Lib.hid h3'
        clear h3' h3
        obtain ⟨CE, hCE⟩ : ∃ q, chkE ⟨n0, n1, n2, n3, n4, n5, n6, n7, n8, n9, bl, p⟩ = q := ⟨_, rfl⟩
        rw [hCE] at hQ
        have HCE := Lib.hid hCE
        have heb : eb = 0 := (stQ_err (HQ2.out.trans (stQ_err HQ3.out).1)).2
        have hfit : Fits ⟨n0, n1, n2, n3, n4, n5, n6, n7, n8, n9, bl, p⟩ := by
          refine ⟨?_, ?_⟩
          · have h := H4.out
            rw [(stQ_err HQ3.out).2] at h
            have := ((textS_ok h).1 rfl).2.2
            show p.length ≤ maxLen
            unfold maxLen; omega
          · have h := H3.out
            rw [heb] at h
            exact blks_fit (enc_decA h).2.2
        have HFT := Lib.hid hfit
        clear heb hfit
        by_cases hz : CE = 0
        case neg =>
          rw [if_pos hz] at hQ
          have e := decB_none H0.out hQ
          rw [HD.out] at e
          injection e with e1 e2
          subst e1 e2
          have hz1 : (CE != 0) = true := by rw [bne_iff_ne]; exact hz
          clear hQ hz hCE
          go_wp2_with fail
          refine (drest_any t A3 false rb _ HD6.out (by omega) ht).mono ?_
          rw [H3'.out]
          rintro e' w7 ⟨rfl, hb7⟩
          have G7 := (hb7.block _ (by simp; omega)).trans HG7.out
          have X7 := (hb7.block _ (by simp; omega)).trans HX7.out
          have z7 : rb + 1 < w7.heap.size := by have := hb7.size; simp at this; omega
          have HV8 := Lib.hid (HV7.out.below hb7 (Nat.le_refl _) hb7.size)
          have cx := fun o => cellB X7 o
          simp only [bunC] at cx
          have HB7 : Below w.heap.size w w7 := belowA
          have HG8 := Lib.hid G7
          clear hb7 G7 X7
          go_wp2_with fail
          refine (check_any ⟨n0, n1, n2, n3, n4, n5, n6, n7, n8, n9, bl, p⟩ _ _ HV8.out HFT.out).mono ?_
          rw [HCE.out]
          rintro e' w8 ⟨rfl, hb8⟩
          have G8 := (hb8.block _ (by omega)).trans HG8.out
          have cg := fun o => cellB G8 o
          have fg := fun o => frozenB G8 o
          simp only [bun0] at cg
          go_wp2
          refine bodyPost_ret (v := .tuple #[.agg #[.int .i64 0, .int .i64 0, .int .i64 0, .int .i64 0, .int .i64 0, .int .i64 0, .int .i64 0, .int .i64 0, .int .i64 0, .int .i64 0, .slice none 0 0, .string { data := #[] }], .int .i64 11]) (by simp [results, Tryz.results157, go_sem, World.cell?_setCell_same', cg]) rfl ?_
          exact DecPost.err belowA
        subst hz
        rw [if_neg (by simp)] at hQ
        have e := decB_some H0.out HC.out hQ
        rw [HD.out] at e
        injection e with e1 e2
        subst e1 e2
        clear hQ hCE
        go_wp2_with fail
        refine (drest_any t A3 false rb _ HD6.out (by omega) ht).mono ?_
        rw [H3'.out]
        rintro e' w7 ⟨rfl, hb7⟩
        have G7 := (hb7.block _ (by simp; omega)).trans HG7.out
        have X7 := (hb7.block _ (by simp; omega)).trans HX7.out
        have z7 : rb + 1 < w7.heap.size := by have := hb7.size; simp at this; omega
        have HV8 := Lib.hid (HV7.out.below hb7 (Nat.le_refl _) hb7.size)
        have cx := fun o => cellB X7 o
        simp only [bunC] at cx
        have HB7 : Below w.heap.size w w7 := belowA
        have HG8 := Lib.hid G7
        have HX8 := Lib.hid X7
        clear hb7 G7 X7
        go_wp2_with fail
        refine (check_any ⟨n0, n1, n2, n3, n4, n5, n6, n7, n8, n9, bl, p⟩ _ _ HV8.out HFT.out).mono ?_
        rw [HCE.out]
        rintro e' w8 ⟨rfl, hb8⟩
        have G8 := (hb8.block _ (by omega)).trans HG8.out
        have X8 := (hb8.block _ z7).trans HX8.out
        have z8 : rb + 1 < w8.heap.size := by have := hb8.size; omega
        have HV9 := Lib.hid (HV8.out.below hb8 (Nat.le_refl _) hb8.size)
        have cg := fun o => cellB G8 o
        have fg := fun o => frozenB G8 o
        have cx := fun o => cellB X8 o
        simp only [bun0] at cg
        simp only [bunC] at cx
        have hB8 : Below w.heap.size w w8 := belowA
        clear hb8 G8 X8
        go_wp2
        refine bodyPost_ret (v := .tuple #[.agg #[.int .i64 n0, .int .i64 n1, .int .i64 n2, .int .i64 n3, .int .i64 n4, .int .i64 n5, .int .i64 n6, .int .i64 n7, .int .i64 n8, .int .i64 n9, .slice va bl.length vc, .string (B p)], .int .i64 0]) (by simp [results, Tryz.results157, go_sem, World.cell?_setCell_same', cg]) rfl ?_
        refine ⟨.slice va bl.length vc, rfl, ?_, HF.out.mono (by omega), belowA⟩
        refine HV9.out.keepFrom HF.out (fun b o h1 h2 => ?_) (by simp)
        have : w.heap.size ≠ b := by omega
        simp (disch := (simp; omega)) only [World.cell?_setCell_far]
end Go.Proofs.YtmknchdciblfjaaGreat
