/- Chapter 18: an argument of parts, opened. -/
import Derived.Test.YtpnfkmlgelcbgaaUq
import Derived.WideShapes
import Derived.ChangeSame
import Derived.Deep.Slices
import Derived.Deep.Fields
import Derived.Lib.SmallJoins
set_option linter.unusedVariables false
set_option linter.unusedSimpArgs false
namespace Go.Proofs.Ytpnfkmlgelcbgaa
open Go Go.RowKit Go.ChangeShapes Go.WideShapes Go.Deep Go.Joins Iv
/-- a part that is cut out -/
structure Pt5 where
  f : Int
  t : Int
  ag : Bool
  i : Int
  o : Int
def Pt5.ok (x : Pt5) : Prop := (0 ≤ x.f ∧ x.f < 256) ∧ (0 ≤ x.t ∧ x.t < 256) ∧ (0 ≤ x.i ∧ x.i < 256) ∧ (0 ≤ x.o ∧ x.o < 256)
def ptC (x : Pt5) : List Value := [.int .u8 x.f, .int .u8 x.t, .bool x.ag, .int .u8 x.i, .int .u8 x.o]
def RPts (w : World) (N : Nat) (v : Value) (l : List Pt5) : Prop :=
  ∃ a c, v = .slice a l.length c ∧ l.length ≤ c ∧ c ≤ maxLen ∧ (a = none → c = 0) ∧ (0 < l.length → ∃ b o, a = some ⟨b, o, none⟩ ∧ b < N ∧ ∀ (i : Nat) (x : Pt5), l[i]? = some x → ∀ (k : Nat) (u : Value), (ptC x)[k]? = some u → w.cell? ⟨b, o + i * 5 + k, none⟩ = some u)
theorem RPts.nil (w : World) (N : Nat) : RPts w N (.slice none 0 0) [] := ⟨none, 0, rfl, Nat.le_refl _, by simp, fun _ => rfl, fun h => by simp at h⟩
section
variable {H : Type} {enc : TypeId × Value → H} {w : World} {base : Nat} {spare : Nat → Bool} {held : Bool}
theorem u8_ok {n : Int} (h : (Lit.int .u8 n).wf = true) : 0 ≤ n ∧ n < 256 := by
  simp [Lit.wf, IntKind.min, IntKind.max, IntKind.signed, IntKind.bits] at h
  omega
set_option maxRecDepth 100000 in
theorem open_pt {n : Nat} {cs : List Value} {x : DataW H × List MemPlace} (h : DataW.trod enc Try.prog w base spare held n 65 cs = some x) : ∃ s : Pt5, cs = ptC s ∧ s.ok := by
  obtain ⟨xs, m, rfl, _, hl, hxl, hf⟩ := DataW.trod_struct Try.underlying65 h
  obtain ⟨c0, c1, c2, c3, c4, rfl⟩ := list5 (hl.trans (by kernel_rfl))
  obtain ⟨x0, x1, x2, x3, x4, rfl⟩ := list5 hxl
  obtain ⟨a0, e0, -, w0⟩ := DataW.trod_int (k := .u8) (by kernel_rfl) (fld (k := 1) (i := 0) hf rfl (by kernel_rfl))
  obtain ⟨a1, e1, -, w1⟩ := DataW.trod_int (k := .u8) (by kernel_rfl) (fld (k := 1) (i := 1) hf rfl (by kernel_rfl))
  obtain ⟨a2, e2, -⟩ := DataW.trod_bool (by kernel_rfl) (fld (k := 1) (i := 2) hf rfl (by kernel_rfl))
  obtain ⟨a3, e3, -, w3⟩ := DataW.trod_int (k := .u8) (by kernel_rfl) (fld (k := 1) (i := 3) hf rfl (by kernel_rfl))
  obtain ⟨a4, e4, -, w4⟩ := DataW.trod_int (k := .u8) (by kernel_rfl) (fld (k := 1) (i := 4) hf rfl (by kernel_rfl))
  simp at e0 e1 e2 e3 e4
  subst e0 e1 e2 e3 e4
  exact ⟨⟨a0, a1, a2, a3, a4⟩, rfl, u8_ok w0, u8_ok w1, u8_ok w3, u8_ok w4⟩
set_option maxRecDepth 100000 in
theorem open_pts {n : Nat} {cs : List Value} {x : DataW H × List MemPlace} (h : DataW.trod enc Try.prog w base spare held n 61 cs = some x) : ∃ (u : Value) (l : List Pt5), cs = [u] ∧ RPts w w.heap.size u l ∧ ∀ x ∈ l, x.ok := by
  rcases open_slice Try.underlying61 h with ⟨rfl, _⟩ | ⟨a, len, cap, m, n', D, Pl, rfl, hb, hl, hm, hmm, _, hi⟩
  · exact ⟨_, [], rfl, RPts.nil _ _, fun x hx => by cases hx⟩
  · have hc : Try.prog.cellsOf 65 = 5 := by kernel_rfl
    rw [hc] at hi
    obtain ⟨l, hll, hlp⟩ := choose_lt' (α := Pt5) (n := len) (p := fun i b => (∀ k u, (ptC b)[k]? = some u → w.cell? (a.add (i * 5 + k)) = some u) ∧ b.ok) fun i hil => by
      obtain ⟨cs', h1, h2⟩ := hi i (by rw [hmm]; split <;> omega)
      obtain ⟨b, rfl, hok⟩ := open_pt h2
      obtain ⟨_, _, h3⟩ := World.cells?_some h1
      refine ⟨b, fun k u hk => ?_, hok⟩
      rw [← Go.Deep.add_add, h3 k (by have := (List.getElem?_eq_some_iff.1 hk).1; simpa [ptC] using this), hk]
    refine ⟨_, l, rfl, ⟨some a, cap, by rw [hll], by omega, hm, (fun h => by cases h), fun hp => ?_⟩, fun x hx => by obtain ⟨i, hi'⟩ := List.getElem?_of_mem hx; exact (hlp i x hi').2⟩
    obtain ⟨x, hx⟩ : ∃ x, l[0]? = some x := ⟨_, List.getElem?_eq_getElem hp⟩
    have h0 := (hlp 0 x hx).1 0 _ rfl
    obtain ⟨ab, ao, asp⟩ := a
    have hs : asp = none ∧ ab < w.heap.size := by
      unfold World.cell? at h0
      simp only [Nat.zero_mul, Addr.add, Nat.add_zero] at h0
      have hz : ab < w.heap.size := by
        apply Classical.byContradiction
        intro hn
        have : w.heap[ab]? = none := by simp; omega
        simp [this] at h0
      refine ⟨?_, hz⟩
      cases asp with
      | none => rfl
      | some s =>
        exfalso
        revert h0
        simp
        split <;> simp
    obtain ⟨rfl, hz⟩ := hs
    refine ⟨ab, ao, rfl, hz, fun i x hx k u hk => ?_⟩
    have := (hlp i x hx).1 k u hk
    rw [addN] at this
    rw [Nat.add_assoc]
    exact this
set_option maxRecDepth 100000 in
theorem open_pts_arg {r : Reach} {b0 : Nat} {v : Value} {d : DataW H} {p : List MemPlace} (hv : Value.okWide Try.prog w r b0 61 v) (h : DataW.Trod enc Try.prog w base spare held 61 v d p) :
    ∃ l : List Pt5, RPts w w.heap.size v l ∧ ∀ x ∈ l, x.ok := by
  obtain ⟨a, n, c, rfl⟩ := okWide_slice Try.underlying61 hv
  obtain ⟨fuel, hf⟩ := h
  obtain ⟨u, l, e, hr, hd⟩ := open_pts hf
  simp [Value.cells] at e
  subst e
  exact ⟨l, hr, hd⟩
end
end Go.Proofs.Ytpnfkmlgelcbgaa
