/- The free and the booked intervals of a contact: plain. -/
import Derived.Test.YtlgjnelicnaopaaGreatSa
set_option linter.unusedVariables false
set_option linter.unusedSimpArgs false
namespace Go.Proofs.YtlgjnelicnaopaaGreat.Iv
/-- intervals in order, disjoint; they may touch -/
def DJ : Int → List Sp → Prop
  | _, [] => True
  | b, x :: r => b ≤ x.1 ∧ x.1 < x.2 ∧ DJ x.2 r
theorem DJ.lo {b : Int} {l : List Sp} (h : DJ b l) : ∀ x ∈ l, b ≤ x.1 ∧ x.1 < x.2 := by
  induction l generalizing b with
  | nil => intro x hx; cases hx
  | cons y r ih =>
    intro x hx
    obtain ⟨h1, h2, h3⟩ := h
    rcases List.mem_cons.1 hx with rfl | hx
    · exact ⟨h1, h2⟩
    · have := ih h3 x hx
      omega
theorem DJ.out {b t : Int} {l : List Sp} (h : DJ b l) (ht : t < b) : inS l t = false := by
  rw [Bool.eq_false_iff]
  intro hc
  obtain ⟨x, hx, h1, h2⟩ := inS_iff.1 hc
  have := h.lo x hx
  omega
theorem outsD_in (m : Int) : ∀ (l : List Sp) (f : Int), DJ f l → (∀ x ∈ l, x.2 ≤ m) → ∀ t, inS (outs m f l) t = (decide (f ≤ t) && decide (t < m) && !inS l t)
  | [], f, _, _, t => by
    unfold outs
    by_cases h : f < m
    · rw [if_pos h]; simp [inS_cons, inS_nil]
    · rw [if_neg h, inS_nil]
      symm
      rw [Bool.eq_false_iff]
      simp [inS_nil]
      omega
  | x :: r, f, h, hm, t => by
    obtain ⟨h1, h2, h3⟩ := h
    have hxm := hm x (by simp)
    have ih := outsD_in m r x.2 h3 (fun y hy => hm y (by simp [hy])) t
    have ho := fun (ht : t < x.2) => h3.out ht
    unfold outs
    by_cases hh : f < x.1
    · rw [if_pos hh, inS_cons, ih, inS_cons]
      rcases Int.lt_or_le t x.2 with z | z
      · rw [ho z]
        rw [Bool.eq_iff_iff]; simp; omega
      · cases inS r t <;> rw [Bool.eq_iff_iff] <;> simp <;> omega
    · rw [if_neg hh, ih, inS_cons]
      rcases Int.lt_or_le t x.2 with z | z
      · rw [ho z]
        rw [Bool.eq_iff_iff]; simp; omega
      · cases inS r t <;> rw [Bool.eq_iff_iff] <;> simp <;> omega
theorem outsD_nf (m : Int) : ∀ (l : List Sp) (f : Int), DJ f l → NF (f - 1) (outs m f l)
  | [], f, _ => by
    unfold outs
    by_cases h : f < m
    · rw [if_pos h]; exact ⟨by simp only; omega, h, trivial⟩
    · rw [if_neg h]; trivial
  | x :: r, f, h => by
    obtain ⟨h1, h2, h3⟩ := h
    have ih : NF (x.2 - 1) (outs m x.2 r) := outsD_nf m r x.2 h3
    unfold outs
    by_cases hh : f < x.1
    · rw [if_pos hh]
      exact ⟨by simp only; omega, hh, ih.le (by simp only; omega)⟩
    · rw [if_neg hh]
      exact ih.le (by omega)
/-- touching ones joined -/
def nrmG : Sp → List Sp → List Sp
  | x, [] => [x]
  | x, y :: r => if y.1 ≤ x.2 then nrmG (x.1, max x.2 y.2) r else x :: nrmG y r
def nrm : List Sp → List Sp
  | [] => []
  | x :: r => nrmG x r
def lenS (l : List Sp) : Int := (l.map fun x => x.2 - x.1).sum
theorem nrmG_spec : ∀ (r : List Sp) (x : Sp) (b : Int), b < x.1 → x.1 < x.2 → DJ x.2 r → NF b (nrmG x r) ∧ (∀ t, inS (nrmG x r) t = inS (x :: r) t) ∧ lenS (nrmG x r) = lenS (x :: r)
  | [], x, b, h1, h2, _ => ⟨⟨h1, h2, trivial⟩, fun t => rfl, rfl⟩
  | y :: r, x, b, h1, h2, h3 => by
    obtain ⟨k1, k2, k3⟩ := h3
    unfold nrmG
    by_cases h : y.1 ≤ x.2
    · rw [if_pos h]
      have e : max x.2 y.2 = y.2 := by omega
      rw [e]
      obtain ⟨i1, i2, i3⟩ := nrmG_spec r (x.1, y.2) b h1 (by simp only; omega) k3
      refine ⟨i1, fun t => ?_, ?_⟩
      · rw [i2 t, inS_cons, inS_cons, inS_cons]
        cases inS r t <;> rw [Bool.eq_iff_iff] <;> simp <;> omega
      · rw [i3]
        simp only [lenS, List.map_cons, List.sum_cons]
        omega
    · rw [if_neg h]
      obtain ⟨i1, i2, i3⟩ := nrmG_spec r y x.2 (by omega) k2 k3
      refine ⟨⟨h1, h2, i1⟩, fun t => ?_, ?_⟩
      · rw [inS_cons, i2 t, inS_cons x]
      · simp only [lenS, List.map_cons, List.sum_cons] at i3 ⊢
        omega
theorem nrm_spec {l : List Sp} {b : Int} (h : DJ b l) : NF (b - 1) (nrm l) ∧ (∀ t, inS (nrm l) t = inS l t) ∧ lenS (nrm l) = lenS l := by
  cases l with
  | nil => exact ⟨trivial, fun t => rfl, rfl⟩
  | cons x r => exact nrmG_spec r x (b - 1) (by have := h.1; omega) h.2.1 h.2.2
/-- free and booked are disjoint, and are together the contact -/
theorem free_booked {l : List Sp} {s e : Int} (hse : s < e) (h : DJ s l) (he : ∀ x ∈ l, x.2 ≤ e) :
    cmb (fun p q => p && q) (outs e s l) (nrm l) = [] ∧ cmb (fun p q => p || q) (outs e s l) (nrm l) = [(s, e)] ∧ lenS (nrm l) = lenS l := by
  obtain ⟨n1, n2, n3⟩ := nrm_spec h
  have o1 := outsD_nf e l s h
  have o2 := outsD_in e l s h he
  obtain ⟨_, a1, a2⟩ := cmb_spec (fun p q => p && q) rfl (outs e s l) (nrm l) (s - 1) o1 n1
  obtain ⟨_, b1, b2⟩ := cmb_spec (fun p q => p || q) rfl (outs e s l) (nrm l) (s - 1) o1 n1
  refine ⟨a1.uniq (c := s - 1) trivial fun t => ?_, b1.uniq (c := s - 1) ⟨by simp only; omega, hse, trivial⟩ fun t => ?_, n3⟩
  · rw [a2, o2, n2, inS_nil]
    cases inS l t <;> simp
  · rw [b2, o2, n2, inS_cons, inS_nil]
    cases hb : inS l t with
    | false => simp
    | true =>
      obtain ⟨x, hx, h1, h2⟩ := inS_iff.1 hb
      have := h.lo x hx
      have := he x hx
      simp
      omega
end Go.Proofs.YtlgjnelicnaopaaGreat.Iv
