/- Tables of a plan: rows of structs of numbers; what is valid: plain. -/
import Derived.BigQuiet
import Derived.BigRegion
import Derived.Deep.DeepCutAuto
import Derived.Deep.CutBlock
import Derived.Test.YtkokiahmgmeokaaGreatSb
set_option linter.unusedVariables false
set_option linter.unusedSimpArgs false
namespace Go.Proofs.YtkokiahmgmeokaaGreat
open Go Go.RowKit Iv
attribute [local go_sem] Oper.semAt_some
attribute [local go_sem] B_getElem B_size B_app B_extract B_get B_toList
structure Con where
  fr : Int
  tt : Int
  st : Int
  en : Int
  ra : Int
  rg : Int
  lo : Int
def conC (x : Con) : List Value := [.int .i64 x.fr, .int .i64 x.tt, .int .i64 x.st, .int .i64 x.en, .int .i64 x.ra, .int .i64 x.rg, .int .i64 x.lo]
theorem conC_len (x : Con) : (conC x).length = 7 := rfl
structure Bkg where
  ct : Int
  bg : Int
  en : Int
  tk : Int
def bkgC (x : Bkg) : List Value := [.int .i64 x.ct, .int .i64 x.bg, .int .i64 x.en, .int .i64 x.tk]
theorem bkgC_len (x : Bkg) : (bkgC x).length = 4 := rfl
structure Hld where
  nd : Int
  fr : Int
  tt : Int
  sz : Int
  tk : Int
def hldC (x : Hld) : List Value := [.int .i64 x.nd, .int .i64 x.fr, .int .i64 x.tt, .int .i64 x.sz, .int .i64 x.tk]
theorem hldC_len (x : Hld) : (hldC x).length = 5 := rfl

def intC (x : Int) : List Value := [.int .i64 x]
/-- v is a slice of the things l, s cells each, all below N -/
def RRow {α : Type} (enc : α → List Value) (s : Nat) (w : World) (N : Nat) (v : Value) (l : List α) : Prop :=
  ∃ (a : Option Addr) (c : Nat), v = .slice a l.length c ∧ l.length ≤ c ∧ c ≤ maxLen ∧ (a = none → c = 0) ∧
    (0 < l.length → ∃ b o, a = some ⟨b, o, none⟩ ∧ b < N ∧ ∀ (i : Nat) (x : α), l[i]? = some x → ∀ (j : Nat) (u : Value), (enc x)[j]? = some u → w.cell? ⟨b, o + i * s + j, none⟩ = some u)
theorem RRow.keep {α : Type} {enc : α → List Value} {s : Nat} {w w' : World} {N M : Nat} {v : Value} {l : List α} (h : RRow enc s w N v l) (k : ∀ b o, b < N → w'.cell? ⟨b, o, none⟩ = w.cell? ⟨b, o, none⟩) (hM : N ≤ M) : RRow enc s w' M v l := by
  obtain ⟨a, c, rfl, h1, h2, h3, h4⟩ := h
  refine ⟨a, c, rfl, h1, h2, h3, fun hp => ?_⟩
  obtain ⟨b, o, rfl, hb, hc⟩ := h4 hp
  exact ⟨b, o, rfl, by omega, fun i x hx j u hu => (k b _ hb).trans (hc i x hx j u hu)⟩
theorem RRow.below {α : Type} {enc : α → List Value} {s : Nat} {w w' : World} {N C M : Nat} {v : Value} {l : List α} (h : RRow enc s w N v l) (k : Below C w w') (hC : N ≤ C) (hM : N ≤ M) : RRow enc s w' M v l :=
  h.keep (fun b o hb => k.cell (p := ⟨b, o, none⟩) (show b < C by omega)) hM
theorem RRow.below' {α : Type} {enc : α → List Value} {s : Nat} {w w' : World} {v : Value} {l : List α} (h : RRow enc s w w.heap.size v l) (k : Below w.heap.size w w') : RRow enc s w' w'.heap.size v l := h.below k (Nat.le_refl _) k.size
theorem RRow.nil {α : Type} (enc : α → List Value) (s : Nat) (w : World) (N : Nat) : RRow enc s w N (.slice none 0 0) [] := ⟨none, 0, rfl, Nat.le_refl _, Nat.zero_le _, fun _ => rfl, fun h => by cases h⟩
theorem RRow.take {α : Type} {enc : α → List Value} {s : Nat} {w : World} {N : Nat} {a : Option Addr} {n c : Nat} {l : List α} (h : RRow enc s w N (.slice a n c) l) (k : Nat) (hk : k ≤ l.length) : RRow enc s w N (.slice a k c) (l.take k) := by
  obtain ⟨a', c', e, h1, h2, h3, h4⟩ := h
  injection e with e1 e2 e3
  subst e1 e3
  have hl : (l.take k).length = k := by rw [List.length_take, Nat.min_eq_left hk]
  refine ⟨a, c, by rw [hl], by omega, h2, h3, fun hp => ?_⟩
  obtain ⟨b, o, rfl, hb, hc⟩ := h4 (by omega)
  refine ⟨b, o, rfl, hb, fun i x hx j u hu => hc i x ?_ j u hu⟩
  rw [List.getElem?_take] at hx
  split at hx
  · exact hx
  · cases hx
theorem RRow.one {α : Type} {enc : α → List Value} {s : Nat} {w : World} {g : Nat} {x : α} {t : TypeId} {f : Nat × Nat} (h : w.heap[g]? = some (.cells (enc x).toArray t f)) (hf : f = (0, 0)) : RRow enc s w w.heap.size (.slice (some ⟨g, 0, none⟩) 1 1) [x] := by
  subst hf
  have hlt : g < w.heap.size := by
    rcases Nat.lt_or_ge g w.heap.size with h' | h'
    · exact h'
    · rw [Array.getElem?_eq_none h'] at h; cases h
  refine ⟨_, 1, rfl, Nat.le_refl _, (by simp [maxLen]), (fun h => by cases h), fun _ => ⟨g, 0, rfl, hlt, fun i y hy j u hu => ?_⟩⟩
  have hi : i = 0 := by
    have := (List.getElem?_eq_some_iff.1 hy).1
    simp at this; omega
  subst hi
  simp at hy
  subst hy
  rw [cellB h]
  simpa using hu
theorem RRow.ints {w : World} {g N : Nat} {l : List Int} {t : TypeId} {f : Nat × Nat} (h : w.heap[g]? = some (.cells (l.map (Value.int .i64)).toArray t f)) (hf : f = (0, 0)) (hg : g < N) (hl : l.length ≤ 1000) : RRow intC 1 w N (.slice (some ⟨g, 0, none⟩) l.length l.length) l := by
  subst hf
  refine ⟨_, l.length, rfl, Nat.le_refl _, (by unfold maxLen; omega), (fun h => by cases h), fun _ => ⟨g, 0, rfl, hg, fun i y hy j u hu => ?_⟩⟩
  have hj : j = 0 := by
    have := (List.getElem?_eq_some_iff.1 hu).1
    simp [intC] at this; omega
  subst hj
  simp [intC] at hu
  subst hu
  rw [cellB h]
  simp [hy]
/-- from lo to hi -/
def wth (n lo hi : Int) : Bool := decide (n ≥ lo) && decide (n ≤ hi)
theorem wth_iff {n lo hi : Int} : wth n lo hi = true ↔ lo ≤ n ∧ n ≤ hi := by unfold wth; simp
/-- why a contact is not valid -/
def chkCon (c : Con) : Int :=
  if wth c.fr 0 15 = false ∨ wth c.tt 0 15 = false ∨ wth c.ra 1 1000 = false ∨ wth c.rg 1 1048576 = false ∨ wth c.lo 0 16 = false then 2
  else if c.fr = c.tt then 1 else if c.st < 0 ∨ c.en ≤ c.st ∨ 1099511627776 - 2 * c.rg < c.en then 2 else 0
theorem chkCon_zero {c : Con} (h : chkCon c = 0) : 0 ≤ c.st ∧ c.st < c.en ∧ c.en ≤ 1099511627776 := by
  unfold chkCon at h
  split at h
  · cases h
  · rename_i h1
    split at h
    · cases h
    · split at h
      · cases h
      · rename_i h3
        have h4 : wth c.rg 1 1048576 = true := by
          cases hz : wth c.rg 1 1048576 with
          | true => rfl
          | false => exact absurd (.inr (.inr (.inr (.inl hz)))) h1
        have := wth_iff.1 h4
        omega
/-- two contacts of the same nodes have a time in common -/
def ovl (a b : Con) : Bool := (a.fr == b.fr && a.tt == b.tt) && decide (max a.st b.st < min a.en b.en)
def qOK (q : Int) : Prop := 0 ≤ q ∧ q ≤ 1073741824
def cOK (n : Nat) (cs : List Con) (k : Nat) (c : Con) : Prop := chkCon c = 0 ∧ c.fr < n ∧ c.tt < n ∧ (cs.take k).any (ovl c) = false
def PlanOK (qs : List Int) (cs : List Con) : Prop := (1 ≤ qs.length ∧ qs.length ≤ 16 ∧ cs.length ≤ 64) ∧ (∀ q ∈ qs, qOK q) ∧ ∀ k c, cs[k]? = some c → cOK qs.length cs k c
theorem PlanOK.con {qs : List Int} {cs : List Con} (h : PlanOK qs cs) {k : Nat} {c : Con} (hk : cs[k]? = some c) : 0 ≤ c.st ∧ c.st < c.en ∧ c.en ≤ 1099511627776 := chkCon_zero (h.2.2 k c hk).1
def cmpI (a b : Int) : Int := if a < b then -1 else if b < a then 1 else 0
theorem cmpI_zero {a b : Int} : cmpI a b = 0 ↔ a = b := by unfold cmpI; split <;> (try split) <;> omega
theorem cmpI_range (a b : Int) : cmpI a b = -1 ∨ cmpI a b = 0 ∨ cmpI a b = 1 := by unfold cmpI; split <;> (try split) <;> simp
def orL : List Int → Int
  | [] => 0
  | a :: l => if a = 0 then orL l else a
def cmpB (a b : Bkg) : Int := orL [cmpI a.ct b.ct, cmpI a.bg b.bg]
theorem cmpB_lt {a b : Bkg} (h : cmpB a b < 0) : a.ct < b.ct ∨ (a.ct = b.ct ∧ a.bg < b.bg) := by
  unfold cmpB at h
  simp only [orL] at h
  unfold cmpI at h
  repeat' (split at h)
  all_goals omega
def bVal (cs : List Con) (b : Bkg) : Prop := (0 ≤ b.ct ∧ b.ct < cs.length) ∧ (0 ≤ b.tk ∧ b.tk ≤ 1152921504606846976) ∧ ∀ c, cs[b.ct.toNat]? = some c → c.st ≤ b.bg ∧ b.bg < b.en ∧ b.en ≤ c.en
def bNext (a b : Bkg) : Prop := cmpB a b < 0 ∧ ¬(a.ct = b.ct ∧ b.bg < a.en)
def BkOK (cs : List Con) (l : List Bkg) : Prop := l.length ≤ 512 ∧ (∀ b ∈ l, bVal cs b) ∧ ∀ k a b, l[k]? = some a → l[k + 1]? = some b → bNext a b
/-- the booked spans of a contact -/
def busyS (l : List Bkg) (i : Int) : List Sp := (l.filter fun b => b.ct == i).map fun b => (b.bg, b.en)
theorem busyS_snoc (l : List Bkg) (i : Int) (b : Bkg) : busyS (l ++ [b]) i = if b.ct = i then busyS l i ++ [(b.bg, b.en)] else busyS l i := by
  unfold busyS
  rw [List.filter_append, List.map_append]
  by_cases h : b.ct = i
  · rw [if_pos h, List.filter_cons_of_pos (by simp [h])]; rfl
  · rw [if_neg h, List.filter_cons_of_neg (by simp [h])]; simp
theorem busyS_take {l : List Bkg} {k : Nat} {b : Bkg} (i : Int) (h : l[k]? = some b) : busyS (l.take (k + 1)) i = if b.ct = i then busyS (l.take k) i ++ [(b.bg, b.en)] else busyS (l.take k) i := by
  rw [List.take_add_one, h]
  exact busyS_snoc _ _ _
theorem busyS_len (l : List Bkg) (i : Int) : (busyS l i).length ≤ l.length := by
  unfold busyS
  rw [List.length_map]
  exact List.length_filter_le _ _
/-- one booking lies behind another one -/
def RB (a b : Bkg) : Prop := a.ct < b.ct ∨ (a.ct = b.ct ∧ a.en ≤ b.bg)
theorem bNext.rb {a b : Bkg} (h : bNext a b) : RB a b := by
  have h1 := cmpB_lt h.1
  have h2 := h.2
  unfold RB
  omega
theorem rb_pair : ∀ {l : List Bkg}, (∀ x ∈ l, x.bg < x.en) → (∀ k a b, l[k]? = some a → l[k + 1]? = some b → RB a b) → l.Pairwise RB
  | [], _, _ => List.Pairwise.nil
  | x :: r, h1, h2 => by
    have ih := rb_pair (l := r) (fun y hy => h1 y (by simp [hy])) (fun k a b ha hb => h2 (k + 1) a b (by simpa using ha) (by simpa using hb))
    refine List.Pairwise.cons (fun y hy => ?_) ih
    cases r with
    | nil => cases hy
    | cons z s =>
      have hz : RB x z := h2 0 x z rfl rfl
      rcases List.mem_cons.1 hy with rfl | hy
      · exact hz
      · have h3 := (List.pairwise_cons.1 ih).1 y hy
        have h4 := h1 z (by simp)
        unfold RB at *
        omega
end Go.Proofs.YtkokiahmgmeokaaGreat
