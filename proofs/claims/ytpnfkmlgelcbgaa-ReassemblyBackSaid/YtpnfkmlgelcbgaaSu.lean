/- Chapter 18: plain laws of intervals as the partial bundles use them. -/
import Derived.Test.YtpnfkmlgelcbgaaSm
import Derived.Test.YtpnfkmlgelcbgaaSj
set_option linter.unusedVariables false
set_option linter.unusedSimpArgs false
namespace Go.Proofs.Ytpnfkmlgelcbgaa
open Go Go.RowKit Iv
theorem chk_one {x : Sp} (h1 : x.1 < x.2) (h2 : -1152921504606846976 ≤ x.1) (h3 : x.2 ≤ 1152921504606846976) : chkSp [x] = 0 :=
  chkSp_of (by simp) ⟨by omega, h1, trivial⟩ (fun y hy => by simp at hy; subst hy; exact ⟨h2, h3⟩)
theorem comb_and {a : List Sp} {x : Sp} (ha : chkSp a = 0) (hx : chkSp [x] = 0) : combS (fun p q => p && q) a [x] = (both a [x], 0) := by
  obtain ⟨la, na, _⟩ := chkSp_zero ha
  obtain ⟨_, nx, _⟩ := chkSp_zero hx
  obtain ⟨_, c2, c3⟩ := cmb_spec (fun p q => p && q) rfl a [x] _ na nx
  have e : cmb (fun p q => p && q) a [x] = both a [x] := NF.uniq c2 (both_nf a [x] _ _ na nx) (fun t => by rw [c3, both_in])
  have hl := both_len a [x]
  simp only [List.length_cons, List.length_nil, Nat.zero_add, Nat.mul_one] at hl
  unfold combS
  rw [if_neg (by simp [ha, hx]), e]
  unfold limS
  rw [if_neg (by omega)]
theorem comb_or {a : List Sp} {x : Sp} (ha : chkSp a = 0) (hx : chkSp [x] = 0) : combS (fun p q => p || q) a [x] = limS (ins a x) := by
  obtain ⟨la, na, _⟩ := chkSp_zero ha
  obtain ⟨_, nx, _⟩ := chkSp_zero hx
  obtain ⟨_, c2, c3⟩ := cmb_spec (fun p q => p || q) rfl a [x] _ na nx
  have e : cmb (fun p q => p || q) a [x] = ins a x := NF.uniq c2 (ins_nf a x _ na nx.1 nx.2.1) (fun t => by
    rw [c3, ins_in a x _ na nx.2.1, inS_cons, inS_nil, Bool.or_false, Bool.or_comm])
  unfold combS
  rw [if_neg (by simp [ha, hx]), e]
theorem comb_sub {a : List Sp} {x : Sp} (ha : chkSp a = 0) (hx : chkSp [x] = 0) : combS (fun p q => p && !q) [x] a = minS [x] a := by
  obtain ⟨la, na, ra⟩ := chkSp_zero ha
  obtain ⟨_, nx, rx⟩ := chkSp_zero hx
  obtain ⟨_, c2, c3⟩ := cmb_spec (fun p q => p && !q) rfl [x] a _ nx na
  have no : NF (-1152921504606846976 - 1) (outs 1152921504606846976 (-1152921504606846976) a) := outs_nf 1152921504606846976 a _ na
  have e : cmb (fun p q => p && !q) [x] a = both [x] (outs 1152921504606846976 (-1152921504606846976) a) := NF.uniq c2 (both_nf _ _ _ _ nx no) (fun t => by
    rw [c3, both_in, outs_in 1152921504606846976 a _ na (fun y hy => (ra y hy).2)]
    have h := rx x (by simp)
    cases hxt : inS [x] t with
    | false => rfl
    | true =>
      rw [inS_cons, inS_nil, Bool.or_false, Bool.and_eq_true, decide_eq_true_eq, decide_eq_true_eq] at hxt
      rw [decide_eq_true (show -1152921504606846976 ≤ t by omega), decide_eq_true (show t < 1152921504606846976 by omega)]
      simp)
  unfold combS
  rw [if_neg (by simp [ha, hx]), e]
  rfl
theorem runion_ins {a : List Sp} {x : Sp} (ha : chkSp a = 0) (hx : chkSp [x] = 0) : rUnionS a [x] = limS (ins a x) := by
  obtain ⟨la, na, _⟩ := chkSp_zero ha
  unfold rUnionS
  rw [if_neg (by simp [ha, hx]), List.foldl_cons, List.foldl_nil, ins2_ins na]
/-- what lies in an intersection with one interval -/
theorem both_mem {a : List Sp} {x y : Sp} (h : y ∈ both a [x]) : x.1 ≤ y.1 ∧ y.1 < y.2 ∧ y.2 ≤ x.2 := by
  unfold both at h
  obtain ⟨z, hz, h⟩ := List.mem_flatMap.1 h
  unfold both1 at h
  simp only [List.filterMap_cons, List.filterMap_nil] at h
  split at h
  · rename_i hs
    split at hs
    · cases hs
    · cases h
  · rename_i w hs
    split at hs
    · rename_i hlt
      simp at h
      cases hs
      subst h
      simp only
      omega
    · cases hs
def eqCut (d pay : List UInt8) (off : Int) (x : Sp) : Bool := (d.drop x.1.toNat).take (x.2.toNat - x.1.toNat) == (pay.drop (x.1 - off).toNat).take ((x.2 - off).toNat - (x.1 - off).toNat)
theorem cut_at {l : List UInt8} {a n j : Nat} (h : j < n) : ((l.drop a).take n)[j]? = l[a + j]? := by
  rw [List.getElem?_take, if_pos h, List.getElem?_drop]
theorem agr_iff {p : Par} {b : Bun} (h0 : 0 ≤ b.off) (h1 : b.off + b.payload.length ≤ p.data.length) : (∀ x ∈ both p.known [spanB b], eqCut p.data b.payload b.off x = true) ↔ agrD p b = true := by
  unfold agrD
  rw [List.all_eq_true]
  constructor
  · intro h i hi
    have hi := List.mem_range.1 hi
    cases hk : inS p.known (b.off + i) with
    | false => simp
    | true =>
      have hb : inS (both p.known [spanB b]) (b.off + i) = true := by
        rw [both_in, hk, inS_cons]
        unfold spanB
        simp
        omega
      obtain ⟨x, hx, h3, h4⟩ := inS_iff.1 hb
      obtain ⟨m1, m2, m3⟩ := both_mem hx
      unfold spanB at m1 m3
      simp only at m1 m3
      have he := h x hx
      unfold eqCut at he
      rw [beq_iff_eq] at he
      have hj := congrArg (fun l => l[((b.off + i) - x.1).toNat]?) he
      have hj : (List.take (x.2.toNat - x.1.toNat) (List.drop x.1.toNat p.data))[((b.off + i) - x.1).toNat]? = (List.take ((x.2 - b.off).toNat - (x.1 - b.off).toNat) (List.drop (x.1 - b.off).toNat b.payload))[((b.off + i) - x.1).toNat]? := hj
      rw [cut_at (by omega), cut_at (by omega)] at hj
      rw [show x.1.toNat + (b.off + ↑i - x.1).toNat = b.off.toNat + i by omega, show (x.1 - b.off).toNat + (b.off + ↑i - x.1).toNat = i by omega] at hj
      simp only [Bool.not_true, Bool.false_or, beq_iff_eq]
      rw [List.getD_eq_getElem?_getD, List.getD_eq_getElem?_getD, hj]
  · intro h x hx
    obtain ⟨m1, m2, m3⟩ := both_mem hx
    unfold spanB at m1 m3
    simp only at m1 m3
    unfold eqCut
    rw [beq_iff_eq]
    apply List.ext_getElem?
    intro j
    by_cases hj : j < x.2.toNat - x.1.toNat
    · rw [cut_at hj, cut_at (by omega)]
      have hb : inS (both p.known [spanB b]) (x.1 + j) = true := inS_iff.2 ⟨x, hx, by omega, by omega⟩
      rw [both_in, Bool.and_eq_true] at hb
      have hi : ((x.1 - b.off).toNat + j) < b.payload.length := by omega
      have := h _ (List.mem_range.2 hi)
      rw [show b.off + (((x.1 - b.off).toNat + j : Nat) : Int) = x.1 + j by omega, hb.1] at this
      simp only [Bool.not_true, Bool.false_or, beq_iff_eq] at this
      rw [List.getD_eq_getElem?_getD, List.getD_eq_getElem?_getD, show b.off.toNat + ((x.1 - b.off).toNat + j) = x.1.toNat + j by omega] at this
      rw [List.getElem?_eq_getElem (by omega), List.getElem?_eq_getElem hi] at this ⊢
      simpa using this
    · rw [List.getElem?_take, if_neg hj, List.getElem?_take, if_neg (by omega)]
end Go.Proofs.Ytpnfkmlgelcbgaa
