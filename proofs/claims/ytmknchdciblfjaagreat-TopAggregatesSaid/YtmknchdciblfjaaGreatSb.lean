/- Joined by port.py: XSb -/
import Derived.BigQuiet
import Derived.BigRegion
import Derived.Deep.DeepCutAuto
import Derived.Deep.CutBlock
import Derived.Test.YtmknchdciblfjaaGreatSa
import Derived.Test.YtmknchdciblfjaaGreatJa
import Derived.Test.YtmknchdciblfjaaGreatJb
import Derived.Test.YtmknchdciblfjaaGreatJe
import Derived.Test.YtmknchdciblfjaaGreatJh
import Derived.Test.YtmknchdciblfjaaGreatJo
import Derived.Test.YtmknchdciblfjaaGreatJs
import Derived.Test.YtmknchdciblfjaaGreatJp
import Derived.Test.YtmknchdciblfjaaGreatKaz
import Derived.Test.YtmknchdciblfjaaGreatJw
set_option linter.unusedVariables false
set_option linter.unusedSimpArgs false
/-! XSb -/
namespace Go.Proofs.YtmknchdciblfjaaGreat
open Go Go.RowKit Iv
attribute [local go_sem] Oper.semAt_some
attribute [local go_sem] B_getElem B_size B_app B_extract B_get B_toList
def spC (x : Sp) : List Value := [.int .i64 x.1, .int .i64 x.2]
theorem spC_len (x : Sp) : (spC x).length = 2 := rfl
def sps (l : List Sp) : List Value := l.flatMap spC
theorem sps_len (l : List Sp) : (sps l).length = l.length * 2 := flat_len spC 2 spC_len l
/-- v is a slice of the intervals l, all below N -/
def RSps (w : World) (N : Nat) (v : Value) (l : List Sp) : Prop :=
  ∃ (a : Option Addr) (c : Nat), v = .slice a l.length c ∧ l.length ≤ c ∧ c ≤ maxLen ∧ (a = none → c = 0) ∧
    (0 < l.length → ∃ b o, a = some ⟨b, o, none⟩ ∧ b < N ∧ ∀ (j : Nat) (u : Value), (sps l)[j]? = some u → w.cell? ⟨b, o + j, none⟩ = some u)
theorem RSps.keep {w w' : World} {N M : Nat} {v : Value} {l : List Sp} (h : RSps w N v l) (k : ∀ b o, b < N → w'.cell? ⟨b, o, none⟩ = w.cell? ⟨b, o, none⟩) (hM : N ≤ M) : RSps w' M v l := by
  obtain ⟨a, c, rfl, h1, h2, h3, h4⟩ := h
  refine ⟨a, c, rfl, h1, h2, h3, fun hp => ?_⟩
  obtain ⟨b, o, rfl, hb, hc⟩ := h4 hp
  exact ⟨b, o, rfl, by omega, fun j u hu => (k b _ hb).trans (hc j u hu)⟩
theorem RSps.below {w w' : World} {N C M : Nat} {v : Value} {l : List Sp} (h : RSps w N v l) (k : Below C w w') (hC : N ≤ C) (hM : N ≤ M) : RSps w' M v l :=
  h.keep (fun b o hb => k.cell (p := ⟨b, o, none⟩) (show b < C by omega)) hM
theorem RSps.below' {w w' : World} {v : Value} {l : List Sp} (h : RSps w w.heap.size v l) (k : Below w.heap.size w w') : RSps w' w'.heap.size v l := h.below k (Nat.le_refl _) k.size
theorem RSps.nil (w : World) (N : Nat) : RSps w N (.slice none 0 0) [] := ⟨none, 0, rfl, Nat.le_refl _, Nat.zero_le _, fun _ => rfl, fun h => by cases h⟩
theorem RSps.of_own {w : World} {base n : Nat} {e : TypeId} {v : Value} {l : List Sp} (h : w.ownsRow base e 2 v n (sps l)) : RSps w w.heap.size v l := by
  have hl : n = l.length := by have := h.1; rw [sps_len] at this; omega
  subst hl
  have hh := h
  rcases h.2 with ⟨rfl, hz⟩ | ⟨g, cap, cur, rfl, hb, hg, hn, hm, hs, ht⟩
  · have : l = [] := List.eq_nil_of_length_eq_zero hz
    subst this
    exact RSps.nil _ _
  · have hlt : g < w.heap.size := by
      rcases Nat.lt_or_ge g w.heap.size with h | h
      · exact h
      · rw [Array.getElem?_eq_none h] at hg; cases hg
    refine ⟨_, _, rfl, hn, hm, (fun h => by cases h), fun _ => ⟨g, 0, rfl, hlt, fun j u hu => ?_⟩⟩
    have := hh.cells (g := g) rfl j u hu
    rwa [addN] at this
theorem sp0 {w : World} {b o k : Nat} {l : List Sp} {x : Sp} (h : ∀ (j : Nat) (u : Value), (sps l)[j]? = some u → w.cell? ⟨b, o + j, none⟩ = some u) (hx : l[k]? = some x) : w.cell? ⟨b, o + k * 2, none⟩ = some (.int .i64 x.1) := by
  refine h (k * 2) _ ?_
  have := flat_get spC 2 spC_len l k 0 (by omega)
  rw [hx] at this
  exact this
theorem sp1 {w : World} {b o k : Nat} {l : List Sp} {x : Sp} (h : ∀ (j : Nat) (u : Value), (sps l)[j]? = some u → w.cell? ⟨b, o + j, none⟩ = some u) (hx : l[k]? = some x) : w.cell? ⟨b, o + k * 2 + 1, none⟩ = some (.int .i64 x.2) := by
  refine h (k * 2 + 1) _ ?_
  have := flat_get spC 2 spC_len l k 1 (by omega)
  rw [hx] at this
  exact this
/-- a row of one interval that a call has laid -/
theorem RSps.one {w : World} {g : Nat} {x : Sp} {t : TypeId} {f : Nat × Nat} (h : w.heap[g]? = some (.cells (spC x).toArray t f)) (hf : f = (0, 0)) : RSps w w.heap.size (.slice (some ⟨g, 0, none⟩) 1 1) [x] := by
  subst hf
  have hlt : g < w.heap.size := by
    rcases Nat.lt_or_ge g w.heap.size with h' | h'
    · exact h'
    · rw [Array.getElem?_eq_none h'] at h; cases h
  refine ⟨_, 1, rfl, Nat.le_refl _, (by simp [maxLen]), (fun h => by cases h), fun _ => ⟨g, 0, rfl, hlt, fun j u hu => ?_⟩⟩
  rw [cellB h]
  simpa [sps] using hu
theorem rfrom_nil (N n c : Nat) : RFrom N (.slice none n c) := fun a m d h => by cases h
theorem own_from {w : World} {base n s : Nat} {e : TypeId} {v : Value} {xs : List Value} (h : w.ownsRow base e s v n xs) : RFrom base v := fun a m c hv => by
  subst hv
  rcases h.2 with ⟨h0, _⟩ | ⟨g, cap, cur, h0, hb, _⟩
  · cases h0
  · injection h0 with h0 _ _; injection h0 with h0; subst h0; exact hb
theorem RFrom.le {N M : Nat} {v : Value} (h : RFrom M v) (k : N ≤ M) : RFrom N v := fun a n c e => Nat.le_trans k (h a n c e)
def vSp (x : Sp) : Bool := decide (x.1 < x.2) && decide (x.1 ≥ -1152921504606846976) && decide (x.2 ≤ 1152921504606846976)
def ordSp : Option Int → Int → Bool
  | none, _ => false
  | some q, f => decide (f ≤ q)
def chkR : Option Int → List Sp → Int
  | _, [] => 0
  | p, x :: r => if vSp x = false then 2 else if ordSp p x.1 = true then 9 else chkR (some x.2) r
/-- why a list is no set -/
def chkSp (l : List Sp) : Int := if 1000 < l.length then 4 else chkR none l
def prevS (l : List Sp) (k : Nat) : Option Int := if k = 0 then none else (l[k - 1]?).map (·.2)
theorem prevS_succ {l : List Sp} {k : Nat} {x : Sp} (h : l[k]? = some x) : prevS l (k + 1) = some x.2 := by
  unfold prevS
  rw [if_neg (by omega), Nat.add_sub_cancel, h]
  rfl
theorem chkR_at {l : List Sp} {k : Nat} {x : Sp} (h : l[k]? = some x) : chkR (prevS l k) (l.drop k) = if vSp x = false then 2 else if ordSp (prevS l k) x.1 = true then 9 else chkR (prevS l (k + 1)) (l.drop (k + 1)) := by
  have h1 : k < l.length := by
    rcases Nat.lt_or_ge k l.length with z | z
    · exact z
    · rw [List.getElem?_eq_none z] at h; cases h
  rw [List.drop_eq_getElem_cons h1, prevS_succ h]
  rw [List.getElem?_eq_getElem h1] at h
  rw [Option.some.inj h]
  rfl
theorem chkR_zero : ∀ {l : List Sp} {p : Option Int}, chkR p l = 0 → (∀ q, p = some q → NF q l) ∧ (p = none → NF (-1152921504606846977) l) ∧ ∀ x ∈ l, -1152921504606846976 ≤ x.1 ∧ x.2 ≤ 1152921504606846976
  | [], p, _ => ⟨fun _ _ => trivial, fun _ => trivial, fun x hx => by cases hx⟩
  | x :: r, p, h => by
    unfold chkR at h
    split at h
    · cases h
    · rename_i h1
      split at h
      · cases h
      · rename_i h2
        obtain ⟨i1, _, i3⟩ := chkR_zero h
        have hv : vSp x = true := by simpa using h1
        unfold vSp at hv
        simp at hv
        have := i1 x.2 rfl
        refine ⟨fun q hq => ?_, fun hp => ⟨by omega, by omega, this⟩, fun y hy => ?_⟩
        · subst hq
          simp [ordSp] at h2
          exact ⟨by omega, by omega, this⟩
        · rcases List.mem_cons.1 hy with rfl | hy
          · omega
          · exact i3 y hy
theorem chkSp_zero {l : List Sp} (h : chkSp l = 0) : l.length ≤ 1000 ∧ NF (-1152921504606846977) l ∧ ∀ x ∈ l, -1152921504606846976 ≤ x.1 ∧ x.2 ≤ 1152921504606846976 := by
  unfold chkSp at h
  split at h
  · cases h
  · obtain ⟨_, h2, h3⟩ := chkR_zero h
    exact ⟨by omega, h2 rfl, h3⟩
theorem chkR_of : ∀ {l : List Sp} {p : Option Int}, (∀ q, p = some q → NF q l) → (p = none → NF (-1152921504606846977) l) → (∀ x ∈ l, -1152921504606846976 ≤ x.1 ∧ x.2 ≤ 1152921504606846976) → chkR p l = 0
  | [], p, _, _, _ => rfl
  | x :: r, p, h1, h2, h3 => by
    have hx := h3 x (by simp)
    have hb : ∃ b, NF b (x :: r) := by
      cases p with
      | none => exact ⟨_, h2 rfl⟩
      | some q => exact ⟨_, h1 q rfl⟩
    obtain ⟨b, hb1, hb2, hb3⟩ := hb
    have hv : vSp x = true := by unfold vSp; simp; omega
    unfold chkR
    rw [if_neg (by simp [hv]), if_neg]
    · exact chkR_of (fun q hq => by cases hq; exact hb3) (fun h => by cases h) (fun y hy => h3 y (by simp [hy]))
    · cases p with
      | none => simp [ordSp]
      | some q => have := (h1 q rfl).1; simp [ordSp]; omega
theorem chkSp_of {l : List Sp} (h1 : l.length ≤ 1000) (h2 : NF (-1152921504606846977) l) (h3 : ∀ x ∈ l, -1152921504606846976 ≤ x.1 ∧ x.2 ≤ 1152921504606846976) : chkSp l = 0 := by
  unfold chkSp
  rw [if_neg (by omega)]
  unfold chkR
  cases l with
  | nil => rfl
  | cons x r => exact chkR_of (p := none) (fun q hq => by cases hq) (fun _ => h2) h3
set_option maxRecDepth 100000 in
set_option maxHeartbeats 4000000 in
theorem qvalid_any (x : Sp) (w : World) : Calls Tryz.prog 201 #[.agg #[.int .i64 x.1, .int .i64 x.2]] w fun e w' => e = .returned (.bool (vSp x)) ∧ Below w.heap.size w w' := by
  obtain ⟨a, b⟩ := x
  show Calls Tryz.prog 201 #[.agg #[.int .i64 a, .int .i64 b]] w fun e w' => e = .returned (.bool (decide (a < b) && decide (a ≥ -1152921504606846976) && decide (b ≤ 1152921504606846976))) ∧ Below w.heap.size w w'
  by_cases z1 : a < b
  · have d1 : decide (a < b) = true := decide_eq_true z1
    by_cases z2 : a ≥ -1152921504606846976
    · have d2 : decide (a ≥ -1152921504606846976) = true := decide_eq_true z2
      rw [d1, d2]
      clear z1 z2
      go_enter Tryz.func201, Tryz.ntmps201
      go_wp2
      go_ret
      exact ⟨rfl, belowA⟩
    · have d2 : decide (a ≥ -1152921504606846976) = false := decide_eq_false z2
      rw [d1, d2]
      clear z1 z2
      go_enter Tryz.func201, Tryz.ntmps201
      go_wp2
      go_ret
      exact ⟨rfl, belowA⟩
  · have d1 : decide (a < b) = false := decide_eq_false z1
    rw [d1]
    clear z1
    go_enter Tryz.func201, Tryz.ntmps201
    go_wp2
    go_ret
    exact ⟨rfl, belowA⟩
set_option maxRecDepth 100000 in
set_option maxHeartbeats 4000000 in
theorem chkSp_any (l : List Sp) (v : Value) (w : World) (h : RSps w w.heap.size v l) :
    Calls Tryz.prog 150 #[v] w fun e w' => e = .returned (.int .i64 (chkSp l)) ∧ Below w.heap.size w w' := by
  obtain ⟨a, c, rfl, h1, h2, h3, h4⟩ := h
  unfold maxLen at h2
  have hlen : l.length ≤ 9223372036854775807 := by omega
  have H4 := Lib.hid h4
  clear h3 h4
  by_cases g1 : 1000 < l.length
  · have d1 : decide ((1000 : Int) < (l.length : Int)) = true := by rw [decide_eq_true_eq]; omega
    rw [show chkSp l = 4 from if_pos g1]
    clear g1
    go_enter Tryz.func150, Tryz.ntmps150
    go_wp2
    go_ret
    exact ⟨rfl, belowA⟩
  have d1 : decide ((1000 : Int) < (l.length : Int)) = false := by rw [decide_eq_false_iff_not]; omega
  have HP : Hid (chkSp l = chkR none l) := Lib.hid (if_neg g1)
  have hl1 : l.length ≤ 1000 := by omega
  clear g1
  go_enter Tryz.func150, Tryz.ntmps150
  go_wp2
  go_loopw [10] (fun i wr => ∃ k : Nat, k ≤ l.length ∧ i = .int .i64 k ∧ Hid (chkR (prevS l k) (l.drop k) = chkR none l) ∧ Below w.heap.size w wr) (fun i _ => l.length - (intOf i).toNat)
  case atStart => exact ⟨0, Nat.zero_le _, rfl, Lib.hid rfl, Below.refl _ _⟩
  case round =>
    obtain ⟨k, hk, rfl, HC, hB⟩ := hrel
    by_cases hlt : k < l.length
    · skip
      obtain ⟨bb, o, rfl, hbn, hcell⟩ := H4.out (by omega)
      obtain ⟨x, hx⟩ : ∃ x, l[k]? = some x := ⟨_, List.getElem?_eq_getElem (by omega)⟩
      have q0 : wr.cell? ⟨bb, o + k * 2, none⟩ = some (.int .i64 x.1) := (hB.cell (p := ⟨bb, o + k * 2, none⟩) hbn).trans (sp0 hcell hx)
      have q1 : wr.cell? ⟨bb, o + k * 2 + 1, none⟩ = some (.int .i64 x.2) := (hB.cell (p := ⟨bb, o + k * 2 + 1, none⟩) hbn).trans (sp1 hcell hx)
      have k0 : (0 : Int) ≤ (k : Int) := by omega
      have k1 : (k : Int) < (l.length : Int) := by omega
      have HX := Lib.hid hx
      clear hx
      cases hv : vSp x with
      | false =>
        have HN : Hid (chkR none l = 2) := Lib.hid (by rw [← HC.out, chkR_at HX.out, if_pos hv])
        have HV := Lib.hid hv
        clear hv
        go_wp2_with fail
        refine (qvalid_any x _).mono ?_
        rw [HV.out]
        rintro e w2 ⟨rfl, hb2⟩
        go_wp2
        go_ret
        rw [HP.out, HN.out]
        exact ⟨rfl, belowA⟩
      | true =>
        have hat := chkR_at HX.out
        rw [if_neg (by simp [hv])] at hat
        have HV := Lib.hid hv
        have HAT := Lib.hid hat
        clear hv hat
        rcases Nat.eq_zero_or_pos k with hk0 | hk0
        · subst hk0
          simp only [Nat.zero_mul, Nat.add_zero] at q0 q1
          have HS : Hid (chkR (prevS l 1) (l.drop 1) = chkR none l) := Lib.hid (by
            have := HAT.out
            rw [if_neg (by simp [prevS, ordSp])] at this
            rw [← this, HC.out])
          go_wp2_with fail
          refine (qvalid_any x _).mono ?_
          rw [HV.out]
          rintro e w2 ⟨rfl, hb2⟩
          have hB2 : Below w.heap.size w w2 := belowA
          have qx0 := cellB ((hb2.block _ (by simp)).trans (heap_new (W := wr) (o := .cells #[.int .i64 x.1, .int .i64 x.2] 154)))
          go_upto_region 8 with fail
          go_quiet (fail)
          go_wp2
          go_roundw
          case rel => exact ⟨1, by omega, by go_num, HS, belowA⟩
          case measure => simp [intOf]; omega
        · obtain ⟨j, rfl⟩ : ∃ j, k = j + 1 := ⟨k - 1, by omega⟩
          obtain ⟨y, hy⟩ : ∃ y, l[j]? = some y := ⟨_, List.getElem?_eq_getElem (by omega)⟩
          have HY := Lib.hid hy
          have hkp : decide ((0 : Int) < ((j : Int) + 1)) = true := decide_eq_true (by omega)
          have hj1 : (j : Int) < (l.length : Int) := by omega
          have hj0 : (0 : Int) ≤ (j : Int) := by omega
          have hwj : IntKind.i64.wrap ((j : Int) + 1 - 1) = (j : Int) := by rw [IntKind.wrap_i64]; omega
          have HQ : Hid (∀ V : World, Below w.heap.size w V → V.cell? ⟨bb, o + j * 2 + 1, none⟩ = some (.int .i64 y.2)) := Lib.hid (fun V hV => (hV.cell (p := ⟨bb, o + j * 2 + 1, none⟩) hbn).trans (sp1 hcell hy))
          have HPV : Hid (ordSp (prevS l (j + 1)) x.1 = decide (x.1 ≤ y.2)) := Lib.hid (by rw [prevS_succ hy]; rfl)
          clear hy hcell hk0
          by_cases ho : x.1 ≤ y.2
          · have d9 : decide (x.1 ≤ y.2) = true := decide_eq_true ho
            have HN : Hid (chkR none l = 9) := Lib.hid (by rw [← HC.out, HAT.out, HPV.out, if_pos d9])
            clear ho
            go_wp2_with fail
            refine (qvalid_any x _).mono ?_
            rw [HV.out]
            rintro e w2 ⟨rfl, hb2⟩
            have hB2 : Below w.heap.size w w2 := belowA
            have qy := HQ.out w2 hB2
            have qx0 := cellB ((hb2.block _ (by simp)).trans (heap_new (W := wr) (o := .cells #[.int .i64 x.1, .int .i64 x.2] 154)))
            go_upto_region 8 with fail
            go_quiet (fail)
            go_wp2
            go_ret
            rw [HP.out, HN.out]
            exact ⟨rfl, belowA⟩
          · have d9 : decide (x.1 ≤ y.2) = false := decide_eq_false ho
            have HS : Hid (chkR (prevS l (j + 1 + 1)) (l.drop (j + 1 + 1)) = chkR none l) := Lib.hid (by rw [← HC.out, HAT.out, HPV.out, if_neg (by rw [d9]; simp)])
            clear ho
            go_wp2_with fail
            refine (qvalid_any x _).mono ?_
            rw [HV.out]
            rintro e w2 ⟨rfl, hb2⟩
            have hB2 : Below w.heap.size w w2 := belowA
            have qy := HQ.out w2 hB2
            have qx0 := cellB ((hb2.block _ (by simp)).trans (heap_new (W := wr) (o := .cells #[.int .i64 x.1, .int .i64 x.2] 154)))
            go_upto_region 8 with fail
            go_quiet (fail)
            go_wp2
            go_roundw
            case rel => exact ⟨j + 1 + 1, by omega, by go_num, HS, belowA⟩
            case measure => simp [intOf]; omega
    · obtain rfl : k = l.length := by omega
      have HN : Hid (chkR none l = 0) := Lib.hid (by rw [← HC.out, List.drop_length]; unfold chkR; rfl)
      go_wp2
      go_ret
      rw [HP.out, HN.out]
      exact ⟨rfl, hB⟩
end Go.Proofs.YtmknchdciblfjaaGreat
