/- Joined by port.py: XTd XTe XTf -/
import Derived.Test.YthlbddcllikolaaGreatJp
import Derived.Test.YthlbddcllikolaaGreatJa
import Derived.Test.YthlbddcllikolaaGreatJb
import Derived.Test.YthlbddcllikolaaGreatJc
import Derived.Test.YthlbddcllikolaaGreatJd
import Derived.Test.YthlbddcllikolaaGreatJe
import Derived.Test.YthlbddcllikolaaGreatJg
import Derived.Test.YthlbddcllikolaaGreatJh
import Derived.Test.YthlbddcllikolaaGreatJm
import Derived.Test.YthlbddcllikolaaGreatJo
set_option linter.unusedVariables false
set_option linter.unusedSimpArgs false
/-! XTd -/
namespace Go.Proofs.YthlbddcllikolaaGreat
open Go Go.RowKit
attribute [local go_sem] B_getElem B_size B_app B_extract B_get B_toList
theorem nums_take (b : Bun) (k : Nat) (n : Int) (h : (nums b)[k]? = some n) : ((nums b).take (k + 1)).flatMap intE = ((nums b).take k).flatMap intE ++ intE n := by
  rw [List.take_add_one, h, List.flatMap_append]; simp
theorem take_size (b : Bun) (k : Nat) : (((nums b).take k).flatMap intE).length ≤ 110 := by
  have h1 := nums_size ((nums b).take k)
  have h2 : ((nums b).take k).length ≤ 10 := by have := List.length_take_le' k (nums b); rw [nums_len] at this; exact this
  omega
theorem bunR_bad {b : Bun} (h : chkE b ≠ 0) : bunR b = [] := by unfold bunR; rw [if_neg h]
theorem bunR_ok {b : Bun} (h : chkE b = 0) : bunR b = bunE b := by unfold bunR; rw [if_pos h]
set_option maxRecDepth 100000 in
set_option maxHeartbeats 3000000 in
theorem bunEncode_any (b : Bun) (u : Value) (w : World) (h : RBlks w w.heap.size u b.blocks) (hf : Fits b) :
    Calls Tryz.prog 24 #[.agg (bunC b u).toArray] w fun e w' => e = .returned (.tuple #[.string (B (bunR b)), .int .i64 (chkE b)]) ∧ Below w.heap.size w w' := by
  obtain ⟨E, hE⟩ : ∃ E, chkE b = E := ⟨_, rfl⟩
  obtain ⟨ua, uc, rfl, _⟩ := id h
  have HR := Lib.hid h
  have HF := Lib.hid hf
  have HE := Lib.hid hE
  clear h hf
  by_cases z : E = 0
  case neg =>
    have z' : (E != 0) = true := by simpa using z
    rw [bunR_bad (by rw [hE]; exact z), hE]
    clear hE z
    go_enter Tryz.func24, Tryz.ntmps24
    simp only [bunC]
    go_wp2_with fail
    refine (check_any b _ _ (HR.out.below (C := w.heap.size) belowA (Nat.le_refl _) (by simp)) HF.out).mono ?_
    rintro e w1 ⟨rfl, hb1⟩
    rw [HE.out]
    go_wp2
    go_ret2
    exact ⟨rfl, belowA⟩
  subst z
  rw [bunR_ok hE, hE]
  have hblk := blks_chk (chkE_zero hE).2.2.1
  have hpay := (payE_zero (chkE_zero hE).2.2.2.1).1
  have hel := encA_len hblk
  have hbl := bodyE_len hE
  have HNB := Lib.hid (nums_ok hE)
  have HCA := Lib.hid hblk
  have HEA : Hid (encAR b.blocks = encA b.blocks) := Lib.hid (by unfold encAR; rw [if_pos hblk])
  obtain ⟨R, hR⟩ : ∃ R, bunE b = R := ⟨_, rfl⟩
  have HRR := Lib.hid hR
  rw [hR]
  obtain ⟨i0, hin, hz0, hz1, hz2⟩ := info_parts infoU8
  have sb := str_bytes (textE magicL)
  clear hE hblk hR
  go_enter Tryz.func24, Tryz.ntmps24
  simp only [bunC]
  go_wp2_with fail
  refine (check_any b _ _ (HR.out.below (C := w.heap.size) belowA (Nat.le_refl _) (by simp)) HF.out).mono ?_
  rintro e w1 ⟨rfl, hb1⟩
  rw [HE.out]
  have hB1 : Below w.heap.size w w1 := belowA
  have z1 : w.heap.size < w1.heap.size := by have := hb1.size; simp at this; omega
  have G1 : w1.heap[w.heap.size]? = some (.cells (bunC b (.slice ua b.blocks.length uc)).toArray 28 (0, 0)) := (hb1.block _ (by simp)).trans heap_new
  clear hb1
  go_wp2_with fail
  refine (text_ok magicL _ (by decide)).mono ?_
  rintro e w2 ⟨rfl, hb2⟩
  have hB2 : Below w.heap.size w w2 := belowA
  have z2 : w.heap.size < w2.heap.size := by have := hb2.size; omega
  have G2 := (hb2.block _ z1).trans G1
  clear hb2 G1 hB1
  go_wp2_with fail
  have hO := OwnS.conv w2 (textE magicL) (by decide)
  have hBc : Below w2.heap.size w2 (Lib.bytesWorld w2 5 (B (textE magicL))) := bytes_below
  have zc : w2.heap.size < (Lib.bytesWorld w2 5 (B (textE magicL))).heap.size := by rw [Lib.bytesWorld_size]; omega
  clear sb
  generalize Lib.bytesWorld w2 5 (B (textE magicL)) = wc at *
  generalize (Value.slice (some ⟨w2.heap.size, 0, none⟩) (textE magicL).length (grownCap w2 (textE magicL).length 0 5)) = vo at *
  refine (numbers_any w.heap.size _).mono ?_
  rintro e w3 ⟨rfl, hb3⟩
  have hO3 := Lib.hid (hO.below hb3)
  have hB3 : Below w2.heap.size w2 w3 := belowA
  have z3 : w2.heap.size < w3.heap.size := by have := hb3.size; omega
  clear hO hBc hb3
  go_wp2
  go_loopw [28, 7] (fun i o wr => ∃ k : Nat, i = .int .i64 k ∧ k ≤ 10 ∧ OwnS wr w2.heap.size o (textE magicL ++ ((nums b).take k).flatMap intE) ∧ Below w2.heap.size w2 wr) (fun i _ _ => 10 - (intOf i).toNat)
  case atStart => exact ⟨0, rfl, by omega, by simpa using hO3.out, hB3⟩
  case round =>
    obtain ⟨k, rfl, hk, hO, hB⟩ := hrel
    have zr : w2.heap.size ≤ wr.heap.size := hB.size
    have zr0 : w.heap.size < wr.heap.size := by omega
    have G := (hB.block _ z2).trans G2
    have m1 : (textE magicL).length ≤ 14 := (textE_len magicL).2
    have hBw : Below w.heap.size w wr := hB2.trans (hB.mono (by omega))
    by_cases hlt : k < 10
    · obtain ⟨n, hn, hc⟩ := nums_cell b (.slice ua b.blocks.length uc) k hlt
      have ck : wr.cell? ⟨w.heap.size, k, none⟩ = some (.int .i64 n) := by rw [cellB G k]; simpa using hc
      have hix := ptrs_run w.heap.size k hlt
      obtain ⟨n1, n2⟩ := HNB.out n (List.mem_of_getElem? hn)
      have HT := Lib.hid (nums_take b k n hn)
      have m2 := take_size b k
      obtain ⟨L, hL⟩ : ∃ L, textE magicL ++ ((nums b).take k).flatMap intE = L := ⟨_, rfl⟩
      have hLl : L.length ≤ 200 := by rw [← hL, List.length_append]; omega
      rw [hL] at hO
      have HL := Lib.hid hL
      have k0 : (0 : Int) ≤ (k : Int) := by omega
      have k1 : (k : Int) < 10 := by omega
      have i1 := (intE_len n).2
      clear hn hc G hL m2
      go_wp2_with fail
      refine (int_any n _ n1 n2).mono ?_
      rintro e w5 ⟨rfl, hb5⟩
      have hO5 := hO.below hb5
      have hB5 : Below w2.heap.size w2 w5 := belowA
      have z5 : w2.heap.size ≤ w5.heap.size := hB5.size
      clear hb5
      go_wp2_with (at_builtin; refine wpList_append_S rfl _ _ _ _ rfl w2.heap.size i0 Tryz.underlying30 Tryz.underlying9 hin hz0 hz1 hz2 _ L rfl hO5 (intE n) rfl (by omega) (by omega) ?_; intro v' w6 hO6 hg6)
      have hB6 : Below w2.heap.size w2 w6 := hB5.grown hg6 z5 (fun q hq => (hO5.lt q hq).1)
      go_roundw
      case rel => exact ⟨k + 1, by go_num, by omega, by rw [HT.out, ← List.append_assoc, HL.out]; exact hO6, hB6⟩
      case measure => simp [intOf]; omega
    · obtain rfl : k = 10 := by omega
      have hten : (nums b).take 10 = nums b := List.take_of_length_le (by rw [nums_len]; exact Nat.le_refl _)
      rw [hten] at hO
      have m2 := nums_size (nums b)
      rw [nums_len] at m2
      obtain ⟨L, hL⟩ : ∃ L, textE magicL ++ (nums b).flatMap intE = L := ⟨_, rfl⟩
      have hLl : L.length ≤ 200 := by rw [← hL, List.length_append]; omega
      rw [hL] at hO
      obtain ⟨EA, hEA⟩ : ∃ q, encA b.blocks = q := ⟨_, rfl⟩
      obtain ⟨P, hP⟩ : ∃ q, textE b.payload = q := ⟨_, rfl⟩
      have hpl := (textE_len b.payload).2
      rw [hEA] at hel
      rw [hP] at hpl
      have hbody : bodyE b = L ++ (EA ++ P) := by unfold bodyE; rw [hEA, hP, ← hL]; simp
      rw [hbody] at hbl
      have HBD : Hid (R = sealE (L ++ (EA ++ P))) := Lib.hid (by rw [← HRR.out, ← hbody]; rfl)
      have HEA2 := Lib.hid hEA
      have HP2 := Lib.hid hP
      have hcat1 : ¬ 9223372036854775807 < L.length + EA.length := by omega
      have hcat2 : ¬ 9223372036854775807 < L.length + EA.length + P.length := by omega
      have ca := fun o => cellB G o
      simp only [bunC] at ca
      have HG := Lib.hid G
      have HBW := Lib.hid hbl
      clear hten hL hEA hP hbody G hbl
      go_wp2_with fail
      refine (encodeAll_any b.blocks _ _ (HR.out.below (C := w.heap.size) hBw (Nat.le_refl _) (by omega)) HF.out.2).mono ?_
      rw [HEA.out, HEA2.out, HCA.out]
      rintro e w5 ⟨rfl, hb5⟩
      have hO5 := hO.below hb5
      have hB5 : Below w2.heap.size w2 w5 := belowA
      have z5 : w.heap.size < w5.heap.size := by have := hb5.size; omega
      have G5 := (hb5.block _ zr0).trans HG.out
      have ca := fun o => cellB G5 o
      simp only [bunC] at ca
      have HG5 := Lib.hid G5
      clear hb5 G5 hO
      go_wp2_with fail
      refine (text_ok b.payload _ (by omega)).mono ?_
      rw [HP2.out]
      rintro e w7 ⟨rfl, hb7⟩
      have hcv := (hO5.below hb7).back
      have hB7 : Below w2.heap.size w2 w7 := belowA
      clear hb7 hO5 ca
      go_wp2_with fail
      refine (seal_ok (L ++ (EA ++ P)) _ (by have := HBW.out; omega)).mono ?_
      rw [← HBD.out]
      rintro e w8 ⟨rfl, hb8⟩
      go_wp2
      go_ret2
      exact ⟨rfl, hB2.trans ((belowA : Below w2.heap.size w2 w8).mono (by omega))⟩
theorem bunR_len (b : Bun) : (bunR b).length ≤ 30000 := by
  unfold bunR
  split
  · rename_i h
    have h1 := bodyE_len h
    have h2 := intE_len ((bodyE b).length : Int)
    unfold bunE
    rw [sealE_len]; omega
  · simp
end Go.Proofs.YthlbddcllikolaaGreat
/-! XTe -/
namespace Go.Proofs.YthlbddcllikolaaGreat
open Go Go.RowKit
attribute [local go_sem] B_getElem B_size B_app B_extract B_get B_toList
theorem RInts.lit {w : World} {N g : Nat} {t : TypeId} {l : List Int} (h : w.heap[g]? = some (.cells (ints l).toArray t (0, 0))) (hg : g < N) (hl : l.length ≤ 1000) : RInts w N (.slice (some ⟨g, 0, none⟩) l.length l.length) l := by
  refine ⟨some ⟨g, 0, none⟩, l.length, rfl, Nat.le_refl _, by unfold maxLen; omega, (fun h => by cases h), fun _ => ⟨g, 0, rfl, hg, fun i x hx => ?_⟩⟩
  rw [Nat.zero_add, cellB h i]
  simp [ints, hx]
def idV (s c q o t : Int) : Value := .agg #[.int .i64 s, .int .i64 c, .int .i64 q, .int .i64 o, .int .i64 t]
set_option maxHeartbeats 1000000 in
theorem parent_any (s c q o t : Int) (w : World) :
    Calls Tryz.prog 31 #[idV s c q o t] w fun e w' => e = .returned (idV s c q 0 0) ∧ Below w.heap.size w w' := by
  unfold idV
  go_enter Tryz.func31, Tryz.ntmps31
  go_wp2
  refine bodyPost_ret (v := .agg #[.int .i64 s, .int .i64 c, .int .i64 q, .int .i64 0, .int .i64 0]) (by simp [results, Tryz.results31, go_sem, World.cell?_setCell_same']) rfl ?_
  exact ⟨rfl, belowA⟩
end Go.Proofs.YthlbddcllikolaaGreat
