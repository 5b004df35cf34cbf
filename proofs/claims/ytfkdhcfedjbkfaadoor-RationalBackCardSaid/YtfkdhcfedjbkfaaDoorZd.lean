/- Layer 4 (rational), the reference: natural. -/
import Derived.Test.YtfkdhcfedjbkfaaDoorZc
set_option linter.unusedVariables false
set_option linter.unusedSimpArgs false
namespace Go.Proofs.YtfkdhcfedjbkfaaDoor
open Go Go.RowKit
attribute [local go_sem] B_getElem B_size B_app B_extract B_get B_toList

def NatPost (l : List UInt8) (w : World) (e : Ending) (w' : World) : Prop := ∃ (a : Int) (ok : Bool), e = .returned (.tuple #[.int .i64 a, .bool ok]) ∧ NatRes l a ok ∧ w = w'
set_option maxRecDepth 100000 in
set_option maxHeartbeats 4000000 in
theorem natural_any (l : List UInt8) (w : World) (hl : l.length ≤ 1000) :
    Calls Tryd.prog 19 #[.string (B l)] w (NatPost l w) := by
  cases l with
  | nil =>
    go_enter Tryd.func19, Tryd.ntmps19
    go_wp2_with fail
    go_ret2
    unfold NatPost
    exact ⟨0, false, rfl, ⟨by decide, by decide, fun u _ h => absurd h.symm (dec_ne u)⟩, rfl⟩
  | cons c0 r0 =>
    by_cases hz : r0 ≠ [] ∧ c0.toNat = 48
    · obtain ⟨hr, h48⟩ := hz
      have e1 : ((c0.toNat : Int) == 48) = true := by rw [beq_iff_eq]; omega
      have e2 : 0 < r0.length := List.length_pos_iff.2 hr
      have e3 : 1 < (c0 :: r0).length := by simp only [List.length_cons]; omega
      have e4 : (1 : Int) < (((c0 :: r0).length : Nat) : Int) := by omega
      have e5 : (1 : Int) < ((r0.length : Nat) : Int) + 1 := by omega
      have HE : Hid (∀ u : Nat, u ≤ 1099511627776 → c0 :: r0 = Lib.decDigits u → (0 : Int) = u ∧ false = true) := Lib.hid (fun u _ h => by
        exfalso
        have h1 : 1 ≤ u := by
          rcases Nat.eq_zero_or_pos u with z | z
          · rw [z, Lib.decDigits_one (by decide)] at h
            simp only [List.cons.injEq] at h
            exact absurd h.2 hr
          · exact z
        refine dec_head u h1 ?_
        rw [← h, List.head?_cons]
        congr 1
        exact UInt8.toNat_inj.1 h48)
      clear hr h48
      go_enter Tryd.func19, Tryd.ntmps19
      go_wp2_with fail
      go_ret2
      unfold NatPost
      exact ⟨0, false, rfl, ⟨by decide, by decide, HE.out⟩, rfl⟩
    · have HD : Hid (r0 ≠ [] → ((c0.toNat : Int) == 48) = false) := Lib.hid (fun h => by rw [beq_eq_false_iff_ne]; intro e; exact hz ⟨h, by omega⟩)
      clear hz
      obtain ⟨l, hll⟩ : ∃ l, c0 :: r0 = l := ⟨_, rfl⟩
      have l1 : 1 ≤ l.length := by rw [← hll]; simp
      have l2 : l.isEmpty = false := by rw [← hll]; rfl
      have l3 : l ≠ [] := by rw [← hll]; simp
      have hl3 : l.length ≤ 1000 := by rw [← hll]; exact hl
      by_cases h1 : 1 < l.length
      · have g0 : l[0]? = some c0 := by rw [← hll]; rfl
        have hl0 : 0 < l.length := by omega
        have g1 : l[0] = c0 := Option.some.inj ((List.getElem?_eq_getElem hl0).symm.trans g0)
        have g2 : ((c0.toNat : Int) == 48) = false := HD.out (by intro e; rw [e] at hll; rw [← hll] at h1; simp at h1)
        have h2 : (1 : Int) < (l.length : Int) := by omega
        rw [hll]
        clear hll HD hl
        go_enter Tryd.func19, Tryd.ntmps19
        go_wp2_with fail
        go_loop [4, 5] (fun n i => ∃ (k : Nat) (N : Int), k ≤ l.length ∧ i = .int .i64 k ∧ n = .int .i64 N ∧ 0 ≤ N ∧ N ≤ 10995116277769 ∧ Hid (N = (dval (l.take k) : Nat))) (fun _ i => l.length - (intOf i).toNat)
        case atStart => exact ⟨0, 0, Nat.zero_le _, rfl, rfl, by decide, by decide, Lib.hid rfl⟩
        case round =>
          obtain ⟨k, N, hk, rfl, rfl, n1, n2, HN⟩ := hrel
          by_cases hlt : k < l.length
          · obtain ⟨c, hg⟩ : ∃ c, l[k]? = some c := ⟨_, List.getElem?_eq_getElem hlt⟩
            have hg2 : l[k] = c := Option.some.inj ((List.getElem?_eq_getElem hlt).symm.trans hg)
            have hmem : c ∈ l := List.mem_of_getElem? hg
            have k1 : (k : Int) < (l.length : Int) := by omega
            have k0 : (0 : Int) ≤ (k : Int) := by omega
            have cb : (c.toNat : Int) ≤ 255 := by have := c.toNat_lt; omega
            have HDg : Hid (¬ (48 ≤ c.toNat ∧ c.toNat ≤ 57) → ∀ u : Nat, u ≤ 1099511627776 → l = Lib.decDigits u → (0 : Int) = u ∧ false = true) := Lib.hid (fun h u _ e => by
              exfalso
              rw [e] at hmem
              have := (dec_dig u).1 c hmem
              unfold digB at this
              simp only [Bool.and_eq_true, decide_eq_true_eq] at this
              exact h this)
            clear hmem
            by_cases a1 : 48 ≤ c.toNat
            · by_cases a2 : c.toNat ≤ 57
              · have s1 : ¬ (c.toNat : Int) < 48 := by omega
                have s1b : (48 : Int) ≤ (c.toNat : Int) := by omega
                have s2 : ¬ (57 : Int) < (c.toNat : Int) := by omega
                have s2b : (c.toNat : Int) ≤ 57 := by omega
                by_cases a3 : N ≤ 1099511627776
                · have s3 : ¬ 1099511627776 < N := by omega
                  have HN2 : Hid (10 * N + ((c.toNat : Int) - 48) = (dval (l.take (k + 1)) : Nat)) := Lib.hid (by rw [List.take_add_one, hg]; show _ = ((dval (l.take k ++ [c]) : Nat) : Int); rw [dval_snoc, HN.out]; omega)
                  clear HDg a1 a2 HN
                  go_wp2_with fail
                  go_round
                  case rel => exact ⟨k + 1, 10 * N + ((c.toNat : Int) - 48), by omega, by go_num, rfl, by omega, by omega, HN2⟩
                  case measure => simp [intOf]; omega
                · have s3 : 1099511627776 < N := by omega
                  have HE : Hid (∀ u : Nat, u ≤ 1099511627776 → l = Lib.decDigits u → (0 : Int) = u ∧ false = true) := Lib.hid (fun u hu e => by
                    exfalso
                    have := dval_take l k
                    have e2 : dval l = u := by rw [e]; exact (dec_dig u).2
                    have := HN.out
                    omega)
                  clear HDg a1 a2 HN a3
                  go_wp2_with fail
                  go_ret2
                  unfold NatPost
                  exact ⟨0, false, rfl, ⟨by decide, by decide, HE.out⟩, rfl⟩
              · have s1 : ¬ (c.toNat : Int) < 48 := by omega
                have s2 : (57 : Int) < (c.toNat : Int) := by omega
                have HE := Lib.hid (HDg.out (fun h => a2 h.2))
                clear HDg a1 a2 HN
                go_wp2_with fail
                go_ret2
                unfold NatPost
                exact ⟨0, false, rfl, ⟨by decide, by decide, HE.out⟩, rfl⟩
            · have s1 : (c.toNat : Int) < 48 := by omega
              have HE := Lib.hid (HDg.out (fun h => a1 h.1))
              clear HDg a1 HN
              go_wp2_with fail
              go_ret2
              unfold NatPost
              exact ⟨0, false, rfl, ⟨by decide, by decide, HE.out⟩, rfl⟩
          · obtain rfl : k = l.length := by omega
            have k1 : ¬ (l.length : Int) < (l.length : Int) := by omega
            have HE : Hid (∀ u : Nat, u ≤ 1099511627776 → l = Lib.decDigits u → N = u ∧ decide (N ≤ 1099511627776) = true) := Lib.hid (fun u hu e => by
              have e2 : dval l = u := by rw [e]; exact (dec_dig u).2
              have e3 := HN.out
              rw [List.take_length] at e3
              exact ⟨by omega, decide_eq_true (by omega)⟩)
            clear HN
            go_wp2_with fail
            go_ret2
            unfold NatPost
            exact ⟨N, decide (N ≤ 1099511627776), rfl, ⟨n1, by omega, HE.out⟩, rfl⟩
      · have h2 : ¬ (1 : Int) < (l.length : Int) := by omega
        rw [hll]
        clear hll HD hl
        go_enter Tryd.func19, Tryd.ntmps19
        go_wp2_with fail
        go_loop [4, 5] (fun n i => ∃ (k : Nat) (N : Int), k ≤ l.length ∧ i = .int .i64 k ∧ n = .int .i64 N ∧ 0 ≤ N ∧ N ≤ 10995116277769 ∧ Hid (N = (dval (l.take k) : Nat))) (fun _ i => l.length - (intOf i).toNat)
        case atStart => exact ⟨0, 0, Nat.zero_le _, rfl, rfl, by decide, by decide, Lib.hid rfl⟩
        case round =>
          obtain ⟨k, N, hk, rfl, rfl, n1, n2, HN⟩ := hrel
          by_cases hlt : k < l.length
          · obtain ⟨c, hg⟩ : ∃ c, l[k]? = some c := ⟨_, List.getElem?_eq_getElem hlt⟩
            have hg2 : l[k] = c := Option.some.inj ((List.getElem?_eq_getElem hlt).symm.trans hg)
            have hmem : c ∈ l := List.mem_of_getElem? hg
            have k1 : (k : Int) < (l.length : Int) := by omega
            have k0 : (0 : Int) ≤ (k : Int) := by omega
            have cb : (c.toNat : Int) ≤ 255 := by have := c.toNat_lt; omega
            have HDg : Hid (¬ (48 ≤ c.toNat ∧ c.toNat ≤ 57) → ∀ u : Nat, u ≤ 1099511627776 → l = Lib.decDigits u → (0 : Int) = u ∧ false = true) := Lib.hid (fun h u _ e => by
              exfalso
              rw [e] at hmem
              have := (dec_dig u).1 c hmem
              unfold digB at this
              simp only [Bool.and_eq_true, decide_eq_true_eq] at this
              exact h this)
            clear hmem
            by_cases a1 : 48 ≤ c.toNat
            · by_cases a2 : c.toNat ≤ 57
              · have s1 : ¬ (c.toNat : Int) < 48 := by omega
                have s1b : (48 : Int) ≤ (c.toNat : Int) := by omega
                have s2 : ¬ (57 : Int) < (c.toNat : Int) := by omega
                have s2b : (c.toNat : Int) ≤ 57 := by omega
                by_cases a3 : N ≤ 1099511627776
                · have s3 : ¬ 1099511627776 < N := by omega
                  have HN2 : Hid (10 * N + ((c.toNat : Int) - 48) = (dval (l.take (k + 1)) : Nat)) := Lib.hid (by rw [List.take_add_one, hg]; show _ = ((dval (l.take k ++ [c]) : Nat) : Int); rw [dval_snoc, HN.out]; omega)
                  clear HDg a1 a2 HN
                  go_wp2_with fail
                  go_round
                  case rel => exact ⟨k + 1, 10 * N + ((c.toNat : Int) - 48), by omega, by go_num, rfl, by omega, by omega, HN2⟩
                  case measure => simp [intOf]; omega
                · have s3 : 1099511627776 < N := by omega
                  have HE : Hid (∀ u : Nat, u ≤ 1099511627776 → l = Lib.decDigits u → (0 : Int) = u ∧ false = true) := Lib.hid (fun u hu e => by
                    exfalso
                    have := dval_take l k
                    have e2 : dval l = u := by rw [e]; exact (dec_dig u).2
                    have := HN.out
                    omega)
                  clear HDg a1 a2 HN a3
                  go_wp2_with fail
                  go_ret2
                  unfold NatPost
                  exact ⟨0, false, rfl, ⟨by decide, by decide, HE.out⟩, rfl⟩
              · have s1 : ¬ (c.toNat : Int) < 48 := by omega
                have s2 : (57 : Int) < (c.toNat : Int) := by omega
                have HE := Lib.hid (HDg.out (fun h => a2 h.2))
                clear HDg a1 a2 HN
                go_wp2_with fail
                go_ret2
                unfold NatPost
                exact ⟨0, false, rfl, ⟨by decide, by decide, HE.out⟩, rfl⟩
            · have s1 : (c.toNat : Int) < 48 := by omega
              have HE := Lib.hid (HDg.out (fun h => a1 h.1))
              clear HDg a1 HN
              go_wp2_with fail
              go_ret2
              unfold NatPost
              exact ⟨0, false, rfl, ⟨by decide, by decide, HE.out⟩, rfl⟩
          · obtain rfl : k = l.length := by omega
            have k1 : ¬ (l.length : Int) < (l.length : Int) := by omega
            have HE : Hid (∀ u : Nat, u ≤ 1099511627776 → l = Lib.decDigits u → N = u ∧ decide (N ≤ 1099511627776) = true) := Lib.hid (fun u hu e => by
              have e2 : dval l = u := by rw [e]; exact (dec_dig u).2
              have e3 := HN.out
              rw [List.take_length] at e3
              exact ⟨by omega, decide_eq_true (by omega)⟩)
            clear HN
            go_wp2_with fail
            go_ret2
            unfold NatPost
            exact ⟨N, decide (N ≤ 1099511627776), rfl, ⟨n1, by omega, HE.out⟩, rfl⟩
end Go.Proofs.YtfkdhcfedjbkfaaDoor
