/- Joined by port.py: XDf XDg XDh -/
import Derived.Test.YtmknchdciblfjaaGreatJg
import Derived.Test.YtmknchdciblfjaaGreatJa
import Derived.Test.YtmknchdciblfjaaGreatJb
import Derived.Test.YtmknchdciblfjaaGreatJd
import Derived.Test.YtmknchdciblfjaaGreatJe
import Derived.Test.YtmknchdciblfjaaGreatJf
import Derived.Test.YtmknchdciblfjaaGreatJh
set_option linter.unusedVariables false
set_option linter.unusedSimpArgs false
/-! XDf -/
namespace Go.Proofs.YtmknchdciblfjaaGreat
open Go Go.RowKit
attribute [local go_sem] B_getElem B_size B_app B_extract B_get B_toList
def RdrC (s : List UInt8) (a e : Int) : Array Value := #[.string (B s), .int .i64 a, .int .i64 e]
def finS (b0 : Bool) (X i : Nat) : Int × Int × Int :=
  let n : Int := if X % 2 = 1 then -(((X + 1) / 2 : Nat) : Int) else ((X / 2 : Nat) : Int)
  if b0 = true ∨ n < -1152921504606846976 ∨ 1152921504606846976 < n then (0, 0, 11) else (n, (i : Int), 0)
theorem rdL_step (b0 : Bool) (f : Nat) (c : UInt8) (r : List UInt8) (m i : Nat) : rdL b0 (f + 1) (c :: r) m i = if 128 ≤ c.toNat then rdL b0 f r (m * 128 + c.toNat % 128) (i + 1) else finS b0 (m * 128 + c.toNat % 128) (i + 1) := by
  rw [rdL]
  split
  · rfl
  · simp only [finS, Int.natCast_add, Int.cast_ofNat_Int]
set_option maxHeartbeats 1000000 in
theorem fail_any (s : List UInt8) (a e0 : Int) (rb : Nat) (w : World) (h : w.heap[rb]? = some (.cells (RdrC s a 0) 249 (0, 0))) :
    Calls Tryz.prog 204 #[.pointer (some ⟨rb, 0, none⟩), .int .i64 e0] w fun e w' => (∃ v, e = .returned v) ∧ Below rb w w' ∧ w'.heap.size = w.heap.size ∧ w'.heap[rb]? = some (.cells (RdrC s a e0) 249 (0, 0)) := by
  have ca := fun o => cellB h o
  have fa := fun o => frozenB h o
  have H := Lib.hid h
  simp only [RdrC] at ca
  clear h
  go_enter Tryz.func204, Tryz.ntmps204
  go_wp2
  go_end0
  exact ⟨⟨_, rfl⟩, bset (Below.refl _ _) (Nat.le_refl _), by simp, by simpa [RdrC] using setB H.out 2 (.int .i64 e0)⟩
set_option maxHeartbeats 1000000 in
theorem rest_any (s : List UInt8) (a e0 : Int) (rb : Nat) (w : World) (h : w.heap[rb]? = some (.cells (RdrC s a e0) 249 (0, 0))) (ha : 0 ≤ a) (ha2 : a ≤ s.length) (hs : s.length ≤ 1000000000) :
    Calls Tryz.prog 205 #[.pointer (some ⟨rb, 0, none⟩)] w fun e w' => e = .returned (.int .i64 ((s.length : Int) - a)) ∧ Below w.heap.size w w' ∧ w'.heap = w.heap := by
  have ca := fun o => cellB h o
  simp only [RdrC] at ca
  have hw : IntKind.i64.wrap ((s.length : Int) - a) = (s.length : Int) - a := by rw [IntKind.wrap_i64]; omega
  clear h
  go_enter Tryz.func205, Tryz.ntmps205
  go_wp2
  refine wp_region_plan (fun V => ∀ o, V.cell? ⟨rb, o, none⟩ = #[Value.string (B s), .int .i64 a, .int .i64 e0][o]?) [0, 0, 0, 1, 0, 0, 0, 0, 1, 0, 0] [0, 1, 2, 3, 4, 5, 6, 7, 8, 9, 10] (by kernel_rfl) (by kernel_rfl) ?_ ?_
  case refine_1 => exact ca
  (iterate 11 (refine plan_held rfl (by decide) (by rfl) (fun w1 hS => by (try (have hS := hS rfl; obtain hS := hS; repeat (obtain ⟨_, hS⟩ := hS))); go_simp; rfl) ?_; simp only [Act.put, List.setIfInBounds_toArray, List.set_cons_zero, List.set_cons_succ]))
  refine plan_done ?_
  go_wp2
  go_ret
  exact ⟨rfl, belowA, rfl⟩
theorem or7 (M c : Nat) (hM : M < 72057594037927936) (hc : c < 128) : bits .or .i64 ((M * 128 : Nat) : Int) (c : Int) = ((M * 128 + c : Nat) : Int) := by
  have h1 : (BitVec.ofInt 64 ((M * 128 : Nat) : Int)).toNat = M * 128 := by rw [BitVec.ofInt_natCast, BitVec.toNat_ofNat]; exact Nat.mod_eq_of_lt (by omega)
  have h2 : (BitVec.ofInt 64 (c : Int)).toNat = c := by rw [BitVec.ofInt_natCast, BitVec.toNat_ofNat]; exact Nat.mod_eq_of_lt (by omega)
  have h3 : M * 128 ||| c = M * 128 + c := by
    have := Nat.shiftLeft_add_eq_or_of_lt (b := c) (i := 7) (by omega) M
    rw [Nat.shiftLeft_eq] at this
    exact this.symm
  show IntKind.i64.wrap ((BitVec.ofInt 64 ((M * 128 : Nat) : Int) ||| BitVec.ofInt 64 (c : Int)).toNat : Int) = _
  rw [BitVec.toNat_or, h1, h2, h3, IntKind.wrap_i64]
  omega
theorem and1 (M : Nat) (hM : M < 9223372036854775808) : bits .and .i64 (M : Int) 1 = ((M % 2 : Nat) : Int) := by
  have h1 : (BitVec.ofInt 64 (M : Int)).toNat = M := by rw [BitVec.ofInt_natCast, BitVec.toNat_ofNat]; exact Nat.mod_eq_of_lt (by omega)
  show IntKind.i64.wrap ((BitVec.ofInt 64 (M : Int) &&& BitVec.ofInt 64 1).toNat : Int) = _
  rw [BitVec.toNat_and, h1, show (BitVec.ofInt 64 1).toNat = 1 from rfl, Nat.and_one_is_mod, IntKind.wrap_i64]
  omega
set_option maxRecDepth 100000 in
set_option maxHeartbeats 2000000 in
theorem integer_any (s : List UInt8) (a : Nat) (n k e : Int) (rb : Nat) (w : World) (h : w.heap[rb]? = some (.cells (RdrC s a 0) 249 (0, 0))) (ha : a ≤ s.length) (hs : s.length ≤ 1000000000) (hr : readS (s.drop a) = (n, k, e)) :
    Calls Tryz.prog 154 #[.pointer (some ⟨rb, 0, none⟩)] w fun e' w' => e' = .returned (.int .i64 n) ∧ Below rb w w' ∧ w'.heap.size = w.heap.size ∧ w'.heap[rb]? = some (.cells (RdrC s (a + k) e) 249 (0, 0)) := by
  obtain ⟨b0, hb0⟩ : ∃ b, ((s.drop a).head? == some 128) = b := ⟨_, rfl⟩
  have HB := Lib.hid hb0
  have HR : Hid (rdL b0 9 (s.drop a) 0 0 = (n, k, e)) := by unfold readS at hr; rw [hb0] at hr; exact hr
  have H := Lib.hid h
  have ca := fun o => cellB h o
  simp only [RdrC] at ca
  clear hb0 hr h
  go_enter Tryz.func154, Tryz.ntmps154
  go_wp2
  clear ca
  go_loopw [5, 3, 4] (fun l m i wr => ∃ (j M : Nat) (lb : Bool), l = .bool lb ∧ j ≤ 9 ∧ a + j ≤ s.length ∧ i = .int .i64 (j : Int) ∧ m = .int .i64 (M : Int) ∧ M < 9223372036854775808 ∧ Hid (M < 128 ^ j) ∧ (lb = true → 1 ≤ j) ∧ Hid ((if lb = true then finS b0 M j else rdL b0 (9 - j) (s.drop (a + j)) M j) = (n, k, e)) ∧ Below rb w wr ∧ wr.heap.size = w.heap.size ∧ Hid (wr.heap[rb]? = some (.cells (RdrC s a 0) 249 (0, 0)))) (fun _ _ i _ => 10 - (intOf i).toNat)
  case atStart => exact ⟨0, 0, false, rfl, by omega, by omega, rfl, rfl, by omega, Lib.hid (by simp), (by simp), Lib.hid (by simpa using HR.out), Below.refl _ _, rfl, H⟩
  case round =>
    obtain ⟨j, M, lb, rfl, hj, hjl, rfl, rfl, hM9, HM, hlb, HH, hB, hsz, HZ⟩ := hrel
    have ca := fun o => cellB HZ.out o
    simp only [RdrC] at ca
    cases lb
    case false =>
      have hh := HH.out
      rw [if_neg (by simp)] at hh
      by_cases h9 : j = 9
      · have h9' : ((j : Int) == 9) = true := beq_iff_eq.2 (by omega)
        obtain ⟨rfl, rfl, rfl⟩ : n = 0 ∧ k = 0 ∧ e = 11 := by
          subst h9
          rw [show 9 - 9 = 0 from rfl, rdL] at hh
          injection hh with h1 h2
          injection h2 with h2 h3
          exact ⟨h1.symm, h2.symm, h3.symm⟩
        clear hh
        go_wp2_with fail
        refine (fail_any s a 11 rb _ HZ.out).mono ?_
        rintro e' w1 ⟨⟨v, rfl⟩, hb1, hs1, hz1⟩
        go_wp2
        go_ret
        exact ⟨rfl, hB.trans hb1, by omega, by simpa using hz1⟩
      · have h9' : ((j : Int) == 9) = false := beq_eq_false_iff_ne.2 (by omega)
        go_wp2_with fail
        refine (rest_any s a 0 rb _ HZ.out (by omega) (by omega) hs).mono ?_
        rintro e' w1 ⟨rfl, hb1, hs1⟩
        have hb1' : Below rb wr w1 := ⟨hb1.os, hb1.tape, hb1.output, hb1.size, fun g _ => by rw [hs1]⟩
        have HZ1 : Hid (w1.heap[rb]? = some (.cells (RdrC s a 0) 249 (0, 0))) := Lib.hid (by rw [hs1]; exact HZ.out)
        have hB1 := hB.trans hb1'
        have hsz1 : w1.heap.size = w.heap.size := by rw [hs1]; exact hsz
        clear hb1 hb1' hs1 HZ hB ca
        by_cases hend : s.length = a + j
        · have he' : ((s.length : Int) - (a : Int) == (j : Int)) = true := beq_iff_eq.2 (by omega)
          obtain ⟨rfl, rfl, rfl⟩ : n = 0 ∧ k = 0 ∧ e = 12 := by
            rw [List.drop_eq_nil_of_le (by omega)] at hh
            obtain ⟨f, hf⟩ : ∃ f, 9 - j = f + 1 := ⟨8 - j, by omega⟩
            rw [hf, rdL] at hh
            injection hh with h1 h2
            injection h2 with h2 h3
            exact ⟨h1.symm, h2.symm, h3.symm⟩
          clear hh
          go_wp2_with fail
          refine (fail_any s a 12 rb _ HZ1.out).mono ?_
          rintro e' w2 ⟨⟨v, rfl⟩, hb2, hs2, hz2⟩
          go_wp2
          go_ret
          exact ⟨rfl, hB1.trans hb2, by omega, by simpa using hz2⟩
        · have he' : ((s.length : Int) - (a : Int) == (j : Int)) = false := beq_eq_false_iff_ne.2 (by omega)
          obtain ⟨p, hp⟩ : ∃ p, a + j = p := ⟨_, rfl⟩
          have hlt : p < s.length := by omega
          obtain ⟨x, hx⟩ : ∃ x, s[p]? = some x := ⟨_, List.getElem?_eq_getElem hlt⟩
          have hxx : s[p] = x := by rw [List.getElem?_eq_getElem hlt] at hx; injection hx
          have hdr : s.drop (a + j) = x :: s.drop (a + (j + 1)) := by rw [show a + (j + 1) = p + 1 by omega, hp, List.drop_eq_getElem_cons hlt, hxx]
          obtain ⟨f, hf⟩ : ∃ f, 9 - j = f + 1 := ⟨8 - j, by omega⟩
          rw [hdr, hf, rdL_step] at hh
          have HH2 := Lib.hid hh
          have HF := Lib.hid hf
          have hxl := x.toNat_lt
          have haj : (a : Int) + (j : Int) = (p : Int) := by omega
          have hwa : IntKind.i64.wrap (p : Int) = (p : Int) := by rw [IntKind.wrap_i64]; omega
          have h0 : (0 : Int) ≤ (p : Int) := by omega
          have h1 : (p : Int) < (s.length : Int) := by omega
          have ca := fun o => cellB HZ1.out o
          simp only [RdrC] at ca
          clear hh hdr hx hf
          go_wp2
          refine wp_region_plan (fun V => ∀ o, V.cell? ⟨rb, o, none⟩ = #[Value.string (B s), .int .i64 a, .int .i64 0][o]?) [0, 0, 0, 0, 1, 0, 0, 0, 0, 1, 0, 0, 0, 0] [0, 1, 2, 3, 4, 5, 6, 7, 8, 9, 10, 11, 12, 13] (by kernel_rfl) (by kernel_rfl) ?_ ?_
          case refine_1 => exact ca
          (iterate 14 (refine plan_held rfl (by decide) (by rfl) (fun w1 hS => by (try (have hS := hS rfl; obtain hS := hS; repeat (obtain ⟨_, hS⟩ := hS))); go_simp; rfl) ?_; simp only [Act.put, List.setIfInBounds_toArray, List.set_cons_zero, List.set_cons_succ]))
          refine plan_done ?_
          clear ca
          have hpow := HM.out
          have hM8 : M < 72057594037927936 := Nat.lt_of_lt_of_le hpow (by have : 128 ^ j ≤ 128 ^ 8 := Nat.pow_le_pow_right (by omega) (by omega); omega)
          have hbits : bits .or .i64 ((M : Int) * 128) (wrap64 (bits .and .u8 (x.toNat : Int) 127)) = ((M * 128 + x.toNat % 128 : Nat) : Int) := by
            rw [and127 x.toNat hxl, show (M : Int) * 128 = ((M * 128 : Nat) : Int) by omega, show wrap64 ((x.toNat % 128 : Nat) : Int) = ((x.toNat % 128 : Nat) : Int) by unfold wrap64; omega]
            exact or7 M (x.toNat % 128) hM8 (Nat.mod_lt _ (by decide))
          have HBT := Lib.hid hbits
          clear hbits hpow
          go_wp2
          rw [HBT.out]
          have hp2 : M * 128 + x.toNat % 128 < 128 ^ (j + 1) := by
            have := HM.out
            rw [Nat.pow_succ]
            have := Nat.mod_lt x.toNat (show 0 < 128 by decide)
            omega
          refine ⟨⟨j + 1, M * 128 + x.toNat % 128, decide ((x.toNat : Int) < 128), rfl, by omega, by omega, by go_num, rfl, by omega, Lib.hid hp2, fun _ => by omega, Lib.hid ?_, bdrew hB1, hsz1, HZ1⟩, by simp [intOf]; omega⟩
          have h2 := HH2.out
          by_cases hx128 : 128 ≤ x.toNat
          · rw [if_pos hx128] at h2
            rw [if_neg (by simp; omega), show 9 - (j + 1) = f by have := HF.out; omega]
            exact h2
          · rw [if_neg hx128] at h2
            rw [if_pos (by simp; omega)]
            exact h2
    case true =>
      have hj1 := hlb rfl
      have hh := HH.out
      rw [if_pos rfl] at hh
      have hla : a < s.length := by omega
      obtain ⟨x, hx⟩ : ∃ x, s[a]? = some x := ⟨_, List.getElem?_eq_getElem hla⟩
      have hxx : s[a] = x := by rw [List.getElem?_eq_getElem hla] at hx; injection hx
      have hxb : ((x.toNat : Int) == 128) = b0 := by
        have hb := HB.out
        rw [List.drop_eq_getElem_cons hla, hxx] at hb
        rw [← hb]
        by_cases h : x = 128
        · subst h; rfl
        · have h' : x.toNat ≠ 128 := fun e => h (UInt8.toNat_inj.1 (by rw [e]; rfl))
          rw [beq_eq_false_iff_ne.2 (show (x.toNat : Int) ≠ 128 by omega)]
          simp [h]
      have h0 : (0 : Int) ≤ (a : Int) := by omega
      have h1 : (a : Int) < (s.length : Int) := by omega
      have HHF := Lib.hid hh
      clear hx hh
      go_wp2
      refine wp_region_plan (fun V => ∀ o, V.cell? ⟨rb, o, none⟩ = #[Value.string (B s), .int .i64 a, .int .i64 0][o]?) [0, 0, 0, 0, 1, 0, 0, 0, 0, 1, 0, 0] [0, 1, 2, 3, 4, 5, 6, 7, 8, 9, 10, 11] (by kernel_rfl) (by kernel_rfl) ?_ ?_
      case refine_1 => exact ca
      (iterate 12 (refine plan_held rfl (by decide) (by rfl) (fun w1 hS => by (try (have hS := hS rfl; obtain hS := hS; repeat (obtain ⟨_, hS⟩ := hS))); go_simp; rfl) ?_; simp only [Act.put, List.setIfInBounds_toArray, List.set_cons_zero, List.set_cons_succ]))
      refine plan_done ?_
      clear ca
      have HZd : Hid (wr.drew.heap[rb]? = some (.cells (RdrC s a 0) 249 (0, 0))) := HZ
      have hBd : Below rb w wr.drew := bdrew hB
      have hszd : wr.drew.heap.size = w.heap.size := hsz
      clear hB hsz HZ
      generalize wr.drew = W at *
      cases b0
      case true =>
        obtain ⟨rfl, rfl, rfl⟩ : n = 0 ∧ k = 0 ∧ e = 11 := by
          have h := HHF.out
          unfold finS at h
          simp only [true_or, if_true] at h
          injection h with h1 h2
          injection h2 with h2 h3
          exact ⟨h1.symm, h2.symm, h3.symm⟩
        go_wp2_with fail
        refine (fail_any s a 11 rb _ HZd.out).mono ?_
        rintro e' w2 ⟨⟨v, rfl⟩, hb2, hs2, hz2⟩
        go_wp2
        go_ret
        exact ⟨rfl, hBd.trans hb2, by omega, by simpa using hz2⟩
      case false =>
        have hnn : ¬ ((M : Int) < 0) := by omega
        have hand := and1 M hM9
        obtain ⟨o, ho⟩ : ∃ o : Int, o = if M % 2 = 1 then -(((M + 1) / 2 : Nat) : Int) else ((M / 2 : Nat) : Int) := ⟨_, rfl⟩
        have HFO : Hid ((if (o < -1152921504606846976 ∨ 1152921504606846976 < o) then ((0 : Int), (0 : Int), (11 : Int)) else (o, (j : Int), 0)) = (n, k, e)) := Lib.hid (by have h := HHF.out; unfold finS at h; simp only [Bool.false_eq_true, false_or] at h; rw [ho]; exact h)
        have hr1 : (o < -1152921504606846976 ∨ 1152921504606846976 < o) ∨ (-1152921504606846976 ≤ o ∧ o ≤ 1152921504606846976) := by omega
        have HO := Lib.hid ho
        by_cases hodd : M % 2 = 1
        · have hodd' : (((M % 2 : Nat) : Int) == 1) = true := beq_iff_eq.2 (by omega)
          have ho' : -((M : Int) / 2) - 1 = o := by rw [ho, if_pos hodd]; omega
          have HO2 := Lib.hid ho'
          clear ho ho'
          go_wp2_with fail
          rw [HO2.out]
          rcases hr1 with hbad | ⟨hr1, hr2⟩
          · obtain ⟨rfl, rfl, rfl⟩ : n = 0 ∧ k = 0 ∧ e = 11 := by
              have h := HFO.out
              rw [if_pos hbad] at h
              injection h with h1 h2
              injection h2 with h2 h3
              exact ⟨h1.symm, h2.symm, h3.symm⟩
            refine (inRange_bad o _ hbad).mono ?_
            rintro e' w1 ⟨rfl, rfl⟩
            go_wp2_with fail
            refine (fail_any s a 11 rb _ HZd.out).mono ?_
            rintro e' w2 ⟨⟨v, rfl⟩, hb2, hs2, hz2⟩
            go_wp2
            go_ret
            exact ⟨rfl, hBd.trans hb2, by omega, by simpa using hz2⟩
          · obtain ⟨rfl, rfl, rfl⟩ : n = o ∧ k = (j : Int) ∧ e = 0 := by
              have h := HFO.out
              rw [if_neg (by omega)] at h
              injection h with h1 h2
              injection h2 with h2 h3
              exact ⟨h1.symm, h2.symm, h3.symm⟩
            refine (inRange_any n _ hr1 hr2).mono ?_
            rintro e' w1 ⟨rfl, rfl⟩
            have ca := fun o => cellB HZd.out o
            have fa := fun o => frozenB HZd.out o
            simp only [RdrC] at ca
            go_wp2
            go_ret
            exact ⟨rfl, bset hBd (Nat.le_refl _), by simpa using hszd, by simpa [RdrC] using setB HZd.out 1 (.int .i64 ((a : Int) + (j : Int)))⟩
        · have hodd' : (((M % 2 : Nat) : Int) == 1) = false := beq_eq_false_iff_ne.2 (by omega)
          have ho' : (M : Int) / 2 = o := by rw [ho, if_neg hodd]; omega
          have HO2 := Lib.hid ho'
          clear ho ho'
          go_wp2_with fail
          rw [HO2.out]
          rcases hr1 with hbad | ⟨hr1, hr2⟩
          · obtain ⟨rfl, rfl, rfl⟩ : n = 0 ∧ k = 0 ∧ e = 11 := by
              have h := HFO.out
              rw [if_pos hbad] at h
              injection h with h1 h2
              injection h2 with h2 h3
              exact ⟨h1.symm, h2.symm, h3.symm⟩
            refine (inRange_bad o _ hbad).mono ?_
            rintro e' w1 ⟨rfl, rfl⟩
            go_wp2_with fail
            refine (fail_any s a 11 rb _ HZd.out).mono ?_
            rintro e' w2 ⟨⟨v, rfl⟩, hb2, hs2, hz2⟩
            go_wp2
            go_ret
            exact ⟨rfl, hBd.trans hb2, by omega, by simpa using hz2⟩
          · obtain ⟨rfl, rfl, rfl⟩ : n = o ∧ k = (j : Int) ∧ e = 0 := by
              have h := HFO.out
              rw [if_neg (by omega)] at h
              injection h with h1 h2
              injection h2 with h2 h3
              exact ⟨h1.symm, h2.symm, h3.symm⟩
            refine (inRange_any n _ hr1 hr2).mono ?_
            rintro e' w1 ⟨rfl, rfl⟩
            have ca := fun o => cellB HZd.out o
            have fa := fun o => frozenB HZd.out o
            simp only [RdrC] at ca
            go_wp2
            go_ret
            exact ⟨rfl, bset hBd (Nat.le_refl _), by simpa using hszd, by simpa [RdrC] using setB HZd.out 1 (.int .i64 ((a : Int) + (j : Int)))⟩
end Go.Proofs.YtmknchdciblfjaaGreat
/-! XDg -/
namespace Go.Proofs.YtmknchdciblfjaaGreat
open Go Go.RowKit
attribute [local go_sem] B_getElem B_size B_app B_extract B_get B_toList
theorem readS_err {l : List UInt8} {n k e : Int} (h : readS l = (n, k, e)) (he : e ≠ 0) : n = 0 ∧ k = 0 := (readS_ok h).2.2 he
set_option maxRecDepth 100000 in
set_option maxHeartbeats 1000000 in
theorem readint_any (s : List UInt8) (n k e : Int) (w : World) (hs : s.length ≤ 1000000000) (hr : readS s = (n, k, e)) :
    Calls Tryz.prog 89 #[.string (B s)] w fun e' w' => e' = .returned (.tuple #[.int .i64 n, .int .i64 k, .int .i64 e]) ∧ Below w.heap.size w w' := by
  have HR := Lib.hid hr
  clear hr
  go_enter Tryz.func89, Tryz.ntmps89
  go_wp2_with fail
  refine (integer_any s 0 n k e w.heap.size _ (by exact heap_new) (by omega) hs (by simpa using HR.out)).mono ?_
  rintro e' w1 ⟨rfl, hb1, hs1, hz1⟩
  have z1 : w.heap.size < w1.heap.size := by simp at hs1; omega
  have hB1 : Below w.heap.size w w1 := ((Below.refl _ _).alloc (Nat.le_refl _) _).trans hb1
  simp only [Int.ofNat_zero, Int.natCast_zero, Int.zero_add, Int.cast_ofNat_Int] at hz1
  have ca := fun o => cellB hz1 o
  simp only [RdrC] at ca
  clear hb1 hs1 hz1
  by_cases he : e = 0
  · have he' : (e == 0) = true := beq_iff_eq.2 he
    subst he
    go_wp2
    refine wp_region_plan (fun V => ∀ o, V.cell? ⟨w.heap.size, o, none⟩ = #[Value.string (B s), .int .i64 k, .int .i64 0][o]?) [0, 0, 0, 0, 0, 1, 0, 0, 0] [0, 1, 2, 3, 4, 5, 6, 7, 8] (by kernel_rfl) (by kernel_rfl) ?_ ?_
    case refine_1 => exact ca
    (iterate 9 (refine plan_held rfl (by decide) (by rfl) (fun w1 hS => by (try (have hS := hS rfl; obtain hS := hS; repeat (obtain ⟨_, hS⟩ := hS))); go_simp; rfl) ?_; simp only [Act.put, List.setIfInBounds_toArray, List.set_cons_zero, List.set_cons_succ]))
    refine plan_done ?_
    go_wp2
    go_ret3
    exact ⟨rfl, bdrew hB1⟩
  · have he' : (e == 0) = false := beq_eq_false_iff_ne.2 he
    obtain ⟨rfl, rfl⟩ := readS_err HR.out he
    clear he
    go_wp2
    refine wp_region_plan (fun V => ∀ o, V.cell? ⟨w.heap.size, o, none⟩ = #[Value.string (B s), .int .i64 0, .int .i64 e][o]?) [0, 0, 0, 1, 0, 0, 0] [0, 1, 2, 3, 4, 5, 6] (by kernel_rfl) (by kernel_rfl) ?_ ?_
    case refine_1 => exact ca
    (iterate 7 (refine plan_held rfl (by decide) (by rfl) (fun w1 hS => by (try (have hS := hS rfl; obtain hS := hS; repeat (obtain ⟨_, hS⟩ := hS))); go_simp; rfl) ?_; simp only [Act.put, List.setIfInBounds_toArray, List.set_cons_zero, List.set_cons_succ]))
    refine plan_done ?_
    go_wp2
    go_ret3
    exact ⟨rfl, bdrew hB1⟩
set_option maxRecDepth 100000 in
set_option maxHeartbeats 1000000 in
theorem length_any (s : List UInt8) (a : Nat) (n k e : Int) (rb : Nat) (w : World) (h : w.heap[rb]? = some (.cells (RdrC s a 0) 249 (0, 0))) (ha : a ≤ s.length) (hs : s.length ≤ 1000000000) (hr : lenS (s.drop a) = (n, k, e)) :
    Calls Tryz.prog 206 #[.pointer (some ⟨rb, 0, none⟩)] w fun e' w' => e' = .returned (.int .i64 n) ∧ Below rb w w' ∧ w'.heap.size = w.heap.size ∧ ∃ a', w'.heap[rb]? = some (.cells (RdrC s a' e) 249 (0, 0)) ∧ 0 ≤ a' ∧ a' ≤ s.length ∧ (e = 0 → a' = a + k) := by
  obtain ⟨⟨n1, k1, e1⟩, h1⟩ : ∃ x, readS (s.drop a) = x := ⟨_, rfl⟩
  have H1 := Lib.hid h1
  have HL := hr
  unfold lenS at HL
  rw [h1] at HL
  simp only at HL
  have hk1 : 0 ≤ k1 ∧ (a : Int) + k1 ≤ s.length := by
    by_cases he : e1 = 0
    · have := (readS_ok h1).1 he
      rw [List.length_drop] at this
      omega
    · obtain ⟨_, h⟩ := readS_err h1 he
      omega
  obtain ⟨hk1a, hk1b⟩ := hk1
  have H := Lib.hid h
  clear h h1 hr
  go_enter Tryz.func206, Tryz.ntmps206
  go_wp2_with fail
  refine (integer_any s a n1 k1 e1 rb _ H.out ha hs H1.out).mono ?_
  rintro e' w1 ⟨rfl, hb1, hs1, hz1⟩
  by_cases he : e1 = 0
  · rw [if_neg (by simp [he])] at HL
    by_cases hb : n1 < 0 ∨ 65536 < n1
    · rw [if_pos hb] at HL
      injection HL with q1 q2
      injection q2 with q2 q3
      subst q1 q2 q3 he
      rcases hb with hb | hb
      all_goals
        go_wp2_with fail
        refine (fail_any s (a + k1) 11 rb _ hz1).mono ?_
        rintro e' w2 ⟨⟨v, rfl⟩, hb2, hs2, hz2⟩
        go_wp2
        go_ret
        exact ⟨rfl, hb1.trans hb2, by omega, _, hz2, by omega, by omega, fun h => by cases h⟩
    · rw [if_neg hb] at HL
      injection HL with q1 q2
      injection q2 with q2 q3
      subst q1 q2 q3 he
      have hb1' : ¬ n1 < 0 := by omega
      have hb2' : ¬ 65536 < n1 := by omega
      have HZ := Lib.hid hz1
      clear hz1 hb
      go_wp2
      go_ret
      exact ⟨rfl, hb1, hs1, _, HZ.out, by omega, by omega, by simp⟩
  · rw [if_pos he] at HL
    injection HL with q1 q2
    injection q2 with q2 q3
    obtain ⟨rfl, rfl⟩ := readS_err H1.out he
    subst q1 q2 q3
    have HZ := Lib.hid hz1
    have HE := Lib.hid he
    clear hz1 he
    go_wp2
    go_ret
    exact ⟨rfl, hb1, hs1, _, HZ.out, by omega, by omega, fun h => absurd h HE.out⟩
set_option maxRecDepth 100000 in
set_option maxHeartbeats 1000000 in
theorem readtext_any (s t : List UInt8) (k e : Int) (w : World) (hs : s.length ≤ 1000000000) (hr : textS s = (t, k, e)) :
    Calls Tryz.prog 156 #[.string (B s)] w fun e' w' => e' = .returned (.tuple #[.string (B t), .int .i64 k, .int .i64 e]) ∧ Below w.heap.size w w' := by
  obtain ⟨⟨n1, k1, e1⟩, h1⟩ : ∃ x, lenS s = x := ⟨_, rfl⟩
  have H1 := Lib.hid h1
  have HL := hr
  unfold textS at HL
  rw [h1] at HL
  simp only at HL
  have hok := lenS_ok h1
  clear h1 hr
  go_enter Tryz.func156, Tryz.ntmps156
  go_wp2_with fail
  refine (length_any s 0 n1 k1 e1 w.heap.size _ (by exact heap_new) (by omega) hs (by simpa using H1.out)).mono ?_
  rintro e' w1 ⟨rfl, hb1, hs1, a', hz1, ha0, ha1, hak⟩
  have z1 : w.heap.size < w1.heap.size := by simp at hs1; omega
  have hB1 : Below w.heap.size w w1 := ((Below.refl _ _).alloc (Nat.le_refl _) _).trans hb1
  clear hb1 hs1
  go_wp2_with fail
  refine (rest_any s a' e1 w.heap.size _ hz1 ha0 ha1 hs).mono ?_
  obtain ⟨d, hd⟩ : ∃ d : Int, (s.length : Int) - a' = d := ⟨_, rfl⟩
  rw [hd]
  rintro e' w2 ⟨rfl, hb2, hs2⟩
  have hz2 : w2.heap[w.heap.size]? = some (.cells (RdrC s a' e1) 249 (0, 0)) := by rw [hs2]; exact hz1
  have z2 : w.heap.size < w2.heap.size := by rw [hs2]; exact z1
  have hB2 : Below w.heap.size w w2 := belowA
  clear hb2 hs2 hz1 hB1
  by_cases he : e1 = 0
  · subst he
    rw [if_neg (by simp)] at HL
    obtain ⟨g1, g2, g3, g4, g5⟩ := hok.1 rfl
    have hak' : a' = k1 := by have := hak rfl; simpa using this
    subst hak'
    rw [hd] at HL
    by_cases hlt : d < n1
    · rw [if_pos hlt] at HL
      injection HL with q1 q2
      injection q2 with q2 q3
      subst q1 q2 q3
      go_wp2_with fail
      refine (fail_any s a' 12 w.heap.size _ hz2).mono ?_
      rintro e' w3 ⟨⟨v, rfl⟩, hb3, hs3, hz3⟩
      have ca := fun o => cellB hz3 o
      simp only [RdrC] at ca
      have hB3 := hB2.trans hb3
      clear hb3 hz2 hz3 hs3 hak hok
      go_wp2
      refine wp_region_plan (fun V => ∀ o, V.cell? ⟨w.heap.size, o, none⟩ = #[Value.string (B s), .int .i64 a', .int .i64 12][o]?) [0, 0, 0, 1, 0, 0, 0] [0, 1, 2, 3, 4, 5, 6] (by kernel_rfl) (by kernel_rfl) ?_ ?_
      case refine_1 => exact ca
      (iterate 7 (refine plan_held rfl (by decide) (by rfl) (fun w1 hS => by (try (have hS := hS rfl; obtain hS := hS; repeat (obtain ⟨_, hS⟩ := hS))); go_simp; rfl) ?_; simp only [Act.put, List.setIfInBounds_toArray, List.set_cons_zero, List.set_cons_succ]))
      refine plan_done ?_
      go_wp2
      go_ret3
      exact ⟨rfl, bdrew hB3⟩
    · rw [if_neg hlt] at HL
      injection HL with q1 q2
      injection q2 with q2 q3
      obtain ⟨i, hi⟩ : ∃ i : Nat, a' = i := ⟨a'.toNat, by omega⟩
      obtain ⟨m, hm⟩ : ∃ m : Nat, n1 = m := ⟨n1.toNat, by omega⟩
      subst hi hm q2 q3
      have hij : (i : Int) + (m : Int) = ((i + m : Nat) : Int) := by omega
      obtain ⟨j, hj⟩ : ∃ j, i + m = j := ⟨_, rfl⟩
      rw [hj] at hij
      have hp : (s.drop i).take (j - i) = t := by rw [← q1]; simp only [Int.toNat_natCast]; congr 1; omega
      have i3 : (0 : Int) ≤ (i : Int) := by omega
      have i4 : (i : Int) ≤ (j : Int) := by omega
      have i5 : (j : Int) ≤ (s.length : Int) := by omega
      have i6 : (0 : Int) ≤ (j : Int) := by omega
      have hwi : IntKind.i64.wrap (i : Int) = (i : Int) := by rw [IntKind.wrap_i64]; omega
      have hwj : IntKind.i64.wrap (j : Int) = (j : Int) := by rw [IntKind.wrap_i64]; omega
      have HIJ := Lib.hid hij
      have ca := fun o => cellB hz2 o
      simp only [RdrC] at ca
      clear q1 hak hj hok hz2
      go_wp2
      refine wp_region_plan (fun V => ∀ o, V.cell? ⟨w.heap.size, o, none⟩ = #[Value.string (B s), .int .i64 i, .int .i64 0][o]?) [0, 0, 0, 0, 0, 1, 0, 0, 0, 0, 1, 0, 0, 0, 0, 0, 0, 0, 1, 0, 0, 0, 0, 0] [0, 1, 2, 3, 4, 5, 6, 7, 8, 9, 10, 11, 12, 13, 14, 15, 16, 17, 18, 19, 20, 21, 22, 23] (by kernel_rfl) (by kernel_rfl) ?_ ?_
      case refine_1 => exact ca
      (iterate 24 (refine plan_held rfl (by decide) (by rfl) (fun w1 hS => by (try (have hS := hS rfl; obtain hS := hS; repeat (obtain ⟨_, hS⟩ := hS))); go_simp; rfl) ?_; simp only [Act.put, List.setIfInBounds_toArray, List.set_cons_zero, List.set_cons_succ]))
      refine plan_done ?_
      go_wp2
      go_ret3
      exact ⟨by rw [HIJ.out]; rfl, bdrew hB2⟩
  · rw [if_pos he] at HL
    injection HL with q1 q2
    injection q2 with q2 q3
    have hn1 : n1 = 0 := by
      have h := H1.out
      unfold lenS at h
      split at h
      · injection h with h _; exact h.symm
      · split at h
        · injection h with h _; exact h.symm
        · rename_i hz _
          exact absurd (by rw [h] at hz; simpa using hz) he
    subst q1 q2 q3 hn1
    have hnl : ¬ d < 0 := by omega
    have he' : (e1 == 0) = false := beq_eq_false_iff_ne.2 he
    have ca := fun o => cellB hz2 o
    simp only [RdrC] at ca
    clear he hok hak hz2
    go_wp2
    refine wp_region_plan (fun V => ∀ o, V.cell? ⟨w.heap.size, o, none⟩ = #[Value.string (B s), .int .i64 a', .int .i64 e1][o]?) [0, 0, 0, 1, 0, 0, 0] [0, 1, 2, 3, 4, 5, 6] (by kernel_rfl) (by kernel_rfl) ?_ ?_
    case refine_1 => exact ca
    (iterate 7 (refine plan_held rfl (by decide) (by rfl) (fun w1 hS => by (try (have hS := hS rfl; obtain hS := hS; repeat (obtain ⟨_, hS⟩ := hS))); go_simp; rfl) ?_; simp only [Act.put, List.setIfInBounds_toArray, List.set_cons_zero, List.set_cons_succ]))
    refine plan_done ?_
    go_wp2
    go_ret3
    exact ⟨rfl, bdrew hB2⟩
end Go.Proofs.YtmknchdciblfjaaGreat
/-! XDh -/
namespace Go.Proofs.YtmknchdciblfjaaGreat
open Go Go.RowKit
attribute [local go_sem] B_getElem B_size B_app B_extract B_get B_toList
/-- what Open answers, by the checksum T -/
def openS (T : List UInt8 → List UInt8) (s : List UInt8) : List UInt8 × Int × Int :=
  if (readS s).2.2 ≠ 0 then ([], 0, (readS s).2.2)
  else if (readS s).1 < 0 ∨ 65536 < (readS s).1 then ([], 0, 2)
  else if (s.length : Int) < (readS s).2.1 + (readS s).1 + 4 then ([], 0, 12)
  else if T (s.take ((readS s).2.1 + (readS s).1).toNat) ≠ (s.drop ((readS s).2.1 + (readS s).1).toNat).take 4 then ([], 0, 13)
  else ((s.drop (readS s).2.1.toNat).take (readS s).1.toNat, (readS s).2.1 + (readS s).1 + 4, 0)
theorem trip {α β γ : Type} {a a' : α} {b b' : β} {c c' : γ} (h : (a, b, c) = (a', b', c')) : a = a' ∧ b = b' ∧ c = c' := by
  injection h with h1 h2
  injection h2 with h2 h3
  exact ⟨h1, h2, h3⟩
set_option maxRecDepth 100000 in
set_option maxHeartbeats 2000000 in
theorem open_any (s t : List UInt8) (k e : Int) (w : World) (hs : s.length ≤ 1000000000) (hr : openS tailB s = (t, k, e)) :
    Calls Tryz.prog 207 #[.string (B s)] w fun e' w' => e' = .returned (.tuple #[.string (B t), .int .i64 k, .int .i64 e]) ∧ Below w.heap.size w w' := by
  obtain ⟨⟨n1, k1, e1⟩, h1⟩ : ∃ x, readS s = x := ⟨_, rfl⟩
  have H1 := Lib.hid h1
  have hok := readS_ok h1
  have HL := hr
  unfold openS at HL
  rw [h1] at HL
  simp only at HL
  clear h1 hr
  by_cases he : e1 = 0
  case neg =>
    rw [if_pos he] at HL
    obtain ⟨rfl, rfl, rfl⟩ := trip HL
    have he' : (e1 == 0) = false := beq_eq_false_iff_ne.2 he
    clear he hok HL
    go_enter Tryz.func207, Tryz.ntmps207
    go_wp2_with fail
    refine (readint_any s n1 k1 e1 _ hs H1.out).mono ?_
    rintro e' w1 ⟨rfl, hb1⟩
    go_wp2
    go_ret3
    exact ⟨rfl, belowA⟩
  subst he
  rw [if_neg (by simp)] at HL
  obtain ⟨g1, g2, g3, g4, g5⟩ := hok.1 rfl
  clear hok
  by_cases hb : n1 < 0 ∨ 65536 < n1
  · rw [if_pos hb] at HL
    obtain ⟨rfl, rfl, rfl⟩ := trip HL
    clear HL
    rcases hb with hb | hb
    all_goals
      go_enter Tryz.func207, Tryz.ntmps207
      go_wp2_with fail
      refine (readint_any s n1 k1 0 _ hs H1.out).mono ?_
      rintro e' w1 ⟨rfl, hb1⟩
      go_wp2
      go_ret3
      exact ⟨rfl, belowA⟩
  rw [if_neg hb] at HL
  have hb1' : ¬ n1 < 0 := by omega
  have hb2' : ¬ 65536 < n1 := by omega
  clear hb
  obtain ⟨n, rfl⟩ : ∃ n : Nat, n1 = n := ⟨n1.toNat, by omega⟩
  obtain ⟨c, rfl⟩ : ∃ c : Nat, k1 = c := ⟨k1.toNat, by omega⟩
  obtain ⟨p, hp⟩ : ∃ p, c + n = p := ⟨_, rfl⟩
  have hp1 : (c : Int) + (n : Int) = (p : Int) := by omega
  rw [hp1] at HL
  simp only [Int.toNat_natCast] at HL
  by_cases hl : (s.length : Int) < (p : Int) + 4
  · rw [if_pos hl] at HL
    obtain ⟨rfl, rfl, rfl⟩ := trip HL
    clear HL
    go_enter Tryz.func207, Tryz.ntmps207
    go_wp2_with fail
    refine (readint_any s n c 0 _ hs H1.out).mono ?_
    rintro e' w1 ⟨rfl, hb1⟩
    go_wp2
    go_ret3
    exact ⟨rfl, belowA⟩
  rw [if_neg hl] at HL
  obtain ⟨x, hx⟩ : ∃ x, s.take p = x := ⟨_, rfl⟩
  have hxl : x.length ≤ 1000000000 := by rw [← hx, List.length_take]; omega
  obtain ⟨y, hy⟩ : ∃ y, tailB x = y := ⟨_, rfl⟩
  obtain ⟨z, hz⟩ : ∃ z, (s.drop p).take 4 = z := ⟨_, rfl⟩
  rw [hx, hy, hz] at HL
  have HY := Lib.hid hy
  have hz' : (s.drop p).take (p + 4 - p) = z := by rw [show p + 4 - p = 4 by omega]; exact hz
  have q0 : (0 : Int) ≤ (p : Int) := by omega
  have q1 : (p : Int) ≤ (s.length : Int) := by omega
  have q2 : (p : Int) + 4 = ((p + 4 : Nat) : Int) := by omega
  obtain ⟨p4, hp4⟩ : ∃ p4, p + 4 = p4 := ⟨_, rfl⟩
  rw [hp4] at q2 hz'
  have q3 : (p4 : Int) ≤ (s.length : Int) := by omega
  have q4 : (p : Int) ≤ (p4 : Int) := by omega
  have q5 : (0 : Int) ≤ (p4 : Int) := by omega
  have q6 : IntKind.i64.wrap (p : Int) = (p : Int) := by rw [IntKind.wrap_i64]; omega
  have q7 : IntKind.i64.wrap (p4 : Int) = (p4 : Int) := by rw [IntKind.wrap_i64]; omega
  have q8 : ¬ (s.length : Int) < (p4 : Int) := by omega
  have q9 : s.take (p - 0) = x := by rw [Nat.sub_zero]; exact hx
  obtain ⟨d, hd⟩ : ∃ d, (s.drop c).take (p - c) = d := ⟨_, rfl⟩
  have hdt : (s.drop c).take n = d := by rw [← hd]; congr 1; omega
  have q10 : (c : Int) ≤ (p : Int) := by omega
  have q11 : (0 : Int) ≤ (c : Int) := by omega
  rw [hdt, q2] at HL
  by_cases hyz : y = z
  · rw [if_neg (by simp [hyz])] at HL
    obtain ⟨rfl, rfl, rfl⟩ := trip HL
    subst hyz
    clear hy hz hdt HL hp hp4 hl
    go_enter Tryz.func207, Tryz.ntmps207
    go_wp2_with fail
    refine (readint_any s n c 0 _ hs H1.out).mono ?_
    rintro e' w1 ⟨rfl, hb1⟩
    go_wp2
    refine wp_region_plan (fun V => True) [0, 0, 0, 0, 0, 3, 0, 0, 0, 0, 0, 0, 0, 0, 0, 0, 0] [0, 1, 2, 3, 4, 6, 7, 8, 9, 10, 11, 12, 13, 14, 5, 15, 16] (by kernel_rfl) (by kernel_rfl) ?_ ?_
    case refine_1 => exact trivial
    (iterate 14 (refine plan_held rfl (by decide) (by rfl) (fun w1 hS => by (try (have hS := hS rfl; obtain hS := hS; repeat (obtain ⟨_, hS⟩ := hS))); go_simp; rfl) ?_; simp only [Act.put, List.setIfInBounds_toArray, List.set_cons_zero, List.set_cons_succ]))
    (refine plan_late rfl rfl (by rfl) (fun K hK => ?_); go_simp)
    refine (tail_any x _ hxl).mono ?_
    rw [HY.out]
    rintro e' w2 ⟨rfl, hb2⟩
    (refine hK _ _ ?_; clear hK K; (try simp only [Act.put, List.setIfInBounds_toArray, List.set_cons_zero, List.set_cons_succ]))
    (iterate 2 (refine plan_held rfl (by decide) (by rfl) (fun w1 hS => by (try (have hS := hS rfl; obtain hS := hS; repeat (obtain ⟨_, hS⟩ := hS))); go_simp; rfl) ?_; simp only [Act.put, List.setIfInBounds_toArray, List.set_cons_zero, List.set_cons_succ]))
    refine plan_done ?_
    go_wp2
    go_ret3
    exact ⟨rfl, belowA⟩
  · rw [if_pos hyz] at HL
    obtain ⟨rfl, rfl, rfl⟩ := trip HL
    have hne : ¬ B y = B z := fun e => hyz (B_inj e)
    have hne3 : (y == z) = false := beq_eq_false_iff_ne.2 hyz
    clear hy hz hdt HL hp hp4 hl hyz
    go_enter Tryz.func207, Tryz.ntmps207
    go_wp2_with fail
    refine (readint_any s n c 0 _ hs H1.out).mono ?_
    rintro e' w1 ⟨rfl, hb1⟩
    go_wp2
    refine wp_region_plan (fun V => True) [0, 0, 0, 0, 0, 3, 0, 0, 0, 0, 0, 0, 0, 0, 0, 0, 0] [0, 1, 2, 3, 4, 6, 7, 8, 9, 10, 11, 12, 13, 14, 5, 15, 16] (by kernel_rfl) (by kernel_rfl) ?_ ?_
    case refine_1 => exact trivial
    (iterate 14 (refine plan_held rfl (by decide) (by rfl) (fun w1 hS => by (try (have hS := hS rfl; obtain hS := hS; repeat (obtain ⟨_, hS⟩ := hS))); go_simp; rfl) ?_; simp only [Act.put, List.setIfInBounds_toArray, List.set_cons_zero, List.set_cons_succ]))
    (refine plan_late rfl rfl (by rfl) (fun K hK => ?_); go_simp)
    refine (tail_any x _ hxl).mono ?_
    rw [HY.out]
    rintro e' w2 ⟨rfl, hb2⟩
    (refine hK _ _ ?_; clear hK K; (try simp only [Act.put, List.setIfInBounds_toArray, List.set_cons_zero, List.set_cons_succ]))
    (iterate 2 (refine plan_held rfl (by decide) (by rfl) (fun w1 hS => by (try (have hS := hS rfl; obtain hS := hS; repeat (obtain ⟨_, hS⟩ := hS))); go_simp; rfl) ?_; simp only [Act.put, List.setIfInBounds_toArray, List.set_cons_zero, List.set_cons_succ]))
    refine plan_done ?_
    go_wp2
    go_ret3
    exact ⟨rfl, belowA⟩
end Go.Proofs.YtmknchdciblfjaaGreat
/- Joined by port.py: XDi XDj -/
set_option linter.unusedVariables false
set_option linter.unusedSimpArgs false
