/- TopFreeBooked: the plain law. -/
import Derived.Test.YtkokiahmgmeokaaGreatYa
import Derived.Test.YtkokiahmgmeokaaGreatSaz
import Derived.Test.YtkokiahmgmeokaaGreatSiz
import Derived.Test.YtkokiahmgmeokaaGreatSz
set_option linter.unusedVariables false
set_option linter.unusedSimpArgs false
namespace Go.Proofs.YtkokiahmgmeokaaGreat
open Go Go.RowKit Iv
attribute [local go_sem] Oper.semAt_some
attribute [local go_sem] B_getElem B_size B_app B_extract B_get B_toList

theorem dj_of : ∀ {l : List Bkg} {i s : Int}, l.Pairwise RB → (∀ x ∈ l, x.ct = i) → (∀ x ∈ l, s ≤ x.bg ∧ x.bg < x.en) → DJ s (l.map fun b => (b.bg, b.en))
  | [], _, _, _, _, _ => trivial
  | x :: r, i, s, hp, h1, h2 => by
    obtain ⟨p1, p2⟩ := List.pairwise_cons.1 hp
    have hx := h2 x (by simp)
    refine ⟨hx.1, hx.2, dj_of (i := i) p2 (fun y hy => h1 y (by simp [hy])) (fun y hy => ?_)⟩
    have := p1 y hy
    have a := h1 x (by simp)
    have b := h1 y (by simp [hy])
    have c := h2 y (by simp [hy])
    unfold RB at this
    refine ⟨?_, c.2⟩
    show x.en ≤ y.bg
    omega
theorem dj_pair : ∀ {l : List Sp} {b : Int}, DJ b l → l.Pairwise (fun x y => x.1 < y.1)
  | [], _, _ => List.Pairwise.nil
  | x :: r, b, h => by
    obtain ⟨h1, h2, h3⟩ := h
    refine List.Pairwise.cons (fun y hy => ?_) (dj_pair h3)
    have := h3.lo y hy
    omega
theorem nrmG_len : ∀ (r : List Sp) (x : Sp), (nrmG x r).length ≤ r.length + 1
  | [], x => by simp [nrmG]
  | y :: r, x => by
    unfold nrmG
    split
    · have := nrmG_len r (x.1, max x.2 y.2)
      simp only [List.length_cons]
      omega
    · have := nrmG_len r y
      simp only [List.length_cons]
      omega
theorem nrm_len (l : List Sp) : (nrm l).length ≤ l.length := by
  cases l with
  | nil => exact Nat.le_refl _
  | cons x r => exact nrmG_len r x
theorem outs_len (m : Int) : ∀ (l : List Sp) (f : Int), (outs m f l).length ≤ l.length + 1
  | [], f => by unfold outs; split <;> simp
  | x :: r, f => by
    have := outs_len m r x.2
    unfold outs
    split
    · simp only [List.length_cons]; omega
    · simp only [List.length_cons]; omega
/-- a set whose integers all lie in the contact is valid -/
theorem chk_in {l : List Sp} {b s e : Int} (hl : l.length ≤ 1000) (h : NF b l) (hb : -1 ≤ b) (hi : ∀ t, inS l t = true → s ≤ t ∧ t < e) (he : e ≤ 1099511627776) : chkSp l = 0 := by
  refine chkSp_of hl (h.le (by omega)) fun x hx => ?_
  have h1 := h.lo x hx
  have h2 := hi (x.2 - 1) (inS_iff.2 ⟨x, hx, by omega, by omega⟩)
  omega
structure FbFacts (c : Con) (M : List Sp) : Prop where
  dj : DJ c.st M
  bnd : ∀ x ∈ M, 0 ≤ x.1 ∧ x.1 < x.2 ∧ x.2 ≤ 1099511627776
  pair : M.Pairwise (fun x y => x.1 < y.1)
  val : M.any (fun x => !vSp x) = false
  co : chkSp (outs c.en c.st M) = 0
  cn : chkSp (nrm M) = 0
  land : combS (fun p q => p && q) (outs c.en c.st M) (nrm M) = ([], 0)
  lor : combS (fun p q => p || q) (outs c.en c.st M) (nrm M) = ([(c.st, c.en)], 0)
  tot : totS (nrm M) = totS M
theorem fb_facts {qs : List Int} {cs : List Con} {l : List Bkg} {n : Nat} {c : Con} (hp : PlanOK qs cs) (hb : BkOK cs l) (hn : cs[n]? = some c) : FbFacts c (busyS l n) := by
  obtain ⟨c1, c2, c3⟩ := hp.con hn
  have hv : ∀ x ∈ l, x.ct = (n : Int) → c.st ≤ x.bg ∧ x.bg < x.en ∧ x.en ≤ c.en := fun x hx hc => (hb.2.1 x hx).2.2 c (by rw [hc]; simpa using hn)
  have hlt : ∀ x ∈ l, x.bg < x.en := fun x hx => by
    obtain ⟨⟨v1, v2⟩, _, v3⟩ := hb.2.1 x hx
    have hlt : x.ct.toNat < cs.length := by omega
    exact (v3 _ (List.getElem?_eq_getElem hlt)).2.1
  have hpw := rb_pair hlt (fun k a b ha hb' => (hb.2.2 k a b ha hb').rb)
  have hmem : ∀ x ∈ l.filter (fun b => b.ct == (n : Int)), x ∈ l ∧ x.ct = n := fun x hx => by
    have := List.mem_filter.1 hx
    exact ⟨this.1, by simpa using this.2⟩
  have hdj : DJ c.st (busyS l n) := dj_of (i := n) (hpw.filter _) (fun x hx => (hmem x hx).2) (fun x hx => by have := hv x (hmem x hx).1 (hmem x hx).2; omega)
  have hbd : ∀ x ∈ busyS l n, c.st ≤ x.1 ∧ x.1 < x.2 ∧ x.2 ≤ c.en := fun x hx => by
    obtain ⟨b, hb1, rfl⟩ := List.mem_map.1 hx
    exact hv b (hmem b hb1).1 (hmem b hb1).2
  have hml : (busyS l n).length ≤ 512 := Nat.le_trans (busyS_len _ _) hb.1
  generalize busyS l n = M at hdj hbd hml
  obtain ⟨f1, f2, f3⟩ := free_booked c2 hdj (fun x hx => (hbd x hx).2.2)
  obtain ⟨n1, n2, n3⟩ := nrm_spec hdj
  have o1 := outsD_nf c.en M c.st hdj
  have o2 := outsD_in c.en M c.st hdj (fun x hx => (hbd x hx).2.2)
  have hco : chkSp (outs c.en c.st M) = 0 := chk_in (s := c.st) (e := c.en) (by have := outs_len c.en M c.st; omega) o1 (by omega) (fun t ht => by
    rw [o2] at ht
    simp at ht
    omega) c3
  have hcn : chkSp (nrm M) = 0 := chk_in (s := c.st) (e := c.en) (by have := nrm_len M; omega) n1 (by omega) (fun t ht => by
    rw [n2] at ht
    obtain ⟨x, hx, h1, h2⟩ := inS_iff.1 ht
    have := hbd x hx
    omega) c3
  refine ⟨hdj, fun x hx => by have := hbd x hx; omega, dj_pair hdj, ?_, hco, hcn, ?_, ?_, f3⟩
  · rw [List.any_eq_false]
    intro x hx
    have := hbd x hx
    have hvs : vSp x = true := by unfold vSp; simp; omega
    simp [hvs]
  · unfold combS
    rw [if_neg (by simp [hco, hcn]), f1]
    rfl
  · unfold combS
    rw [if_neg (by simp [hco, hcn]), f2]
    rfl
end Go.Proofs.YtkokiahmgmeokaaGreat
