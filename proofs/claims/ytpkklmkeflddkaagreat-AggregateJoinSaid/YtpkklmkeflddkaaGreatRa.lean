/- Chapter 19: rows of bundles of one's own (groups): Clone, the closures of Groups, IndexFunc over groups. -/
import Derived.WalkSpells
import Derived.Lib.SliceRun
import Derived.Test.YtpkklmkeflddkaaGreatQs
import Derived.Test.YtpkklmkeflddkaaGreatQj
set_option linter.unusedVariables false
set_option linter.unusedSimpArgs false
namespace Go.Proofs.YtpkklmkeflddkaaGreat
open Go Go.RowKit
attribute [local go_sem] Oper.semAt_some
attribute [local go_sem] B_getElem B_size B_app B_extract B_get B_toList
abbrev BV := Bun × Value
abbrev OwnVB (w : World) (B : Nat) (vo : Value) (gs : List (List BV)) (vals : List Value) : Prop := OwnV 31 22 12 flatU w B vo gs vals
def buns (g : List BV) : List Bun := g.map (·.1)
theorem flatU_len (g : List BV) : (flatU g).length = g.length * 12 := by
  unfold flatU
  induction g with
  | nil => rfl
  | cons r g ih => rw [List.flatMap_cons, List.length_append, ih, List.length_cons]; simp [bunC]; omega
theorem flatU_one : ∀ (g : List BV), (∀ r ∈ g, ∃ a n c, r.2 = .slice a n c) → ∀ u ∈ flatU g, u.oneCell' = true := by
  intro g h u hu
  unfold flatU at hu
  obtain ⟨r, hr, hu⟩ := List.mem_flatMap.1 hu
  obtain ⟨a, n, c, e⟩ := h r hr
  exact bunC_one (by rw [e]; rfl) u hu
def CloneBPost (g : List BV) (w : World) (e : Ending) (w' : World) : Prop := ∃ v, e = .returned v ∧ Below w.heap.size w w' ∧ w'.ownsRow w.heap.size 31 12 v g.length (flatU g)
set_option maxRecDepth 100000 in
set_option maxHeartbeats 2000000 in
theorem cloneB_any (g : List BV) (v : Value) (B : Nat) (w : World) (h : w.ownsRow B 31 12 v g.length (flatU g)) (hs : ∀ r ∈ g, ∃ a n c, r.2 = .slice a n c) (hl : g.length ≤ 1000) :
    Calls Tryz.prog 29 #[v] w (CloneBPost g w) := by
  have hh := h
  have hfl := flatU_len g
  have ho1 := flatU_one g hs
  rcases h.2 with ⟨rfl, hz⟩ | ⟨gb, cap, cur, rfl, hb, hg, hnc, hm, hsz, ht⟩
  · have hz : g = [] := List.eq_nil_of_length_eq_zero hz
    subst hz
    have hq : ∀ W : World, (binOp .eql 22 (.slice none 0 0) (.slice none 0 0)).run Tryz.prog W = .ok (.bool true) W := fun W => Lib.run_eql_slice_nil W _ _ none _ _ _ _ Tryz.underlying22
    clear hh h ho1 hfl
    go_enter Tryz.func29, Tryz.ntmps29
    go_wp2
    go_ret
    exact ⟨_, rfl, (by repeat' (first | with_reducible (first | refine bset ?_ ?_ | exact Below.refl _ _ | assumption | refine bdrewN ?_ _ | refine bdrew ?_ | refine balloc0 ?_ | refine balloc ?_ ?_ | (apply btrans0; rotate_left; assumption) | (apply btrans; rotate_left; assumption)) | exact Below.refl _ _ | assumption | (apply btrans0; rotate_left; assumption) | (apply btrans; rotate_left; assumption) | (simp; done) | omega | (simp; omega))), World.ownsRow_nil _ _ _ _⟩
  · have hq : ∀ W : World, (binOp .eql 22 (.slice (some ⟨gb, 0, none⟩) g.length cap) (.slice none 0 0)).run Tryz.prog W = .ok (.bool false) W := fun W => Lib.run_eql_slice_nil W _ _ (some _) _ _ _ _ Tryz.underlying22
    obtain ⟨i0, hi, hz0, hz1, hz2⟩ := info_parts infoBun
    have hgl : gb < w.heap.size := by
      rcases Nat.lt_or_ge gb w.heap.size with z | z
      · exact z
      · rw [Array.getElem?_eq_none z] at hg; cases hg
    have hn : ∀ j u, (flatU g)[j]? = some u → (w.alloc (.cells #[] 31)).cell? ((⟨gb, 0, none⟩ : Addr).add j) = some u := by
      intro j u hu
      have := own_get hh rfl (j := j) (u := u) hu
      rw [← this, addN]
      exact World.cell?_alloc_lt _ _ _ (by simpa using hgl)
    have hown : (w.alloc (.cells #[] 31)).ownsRow w.heap.size 31 12 (.slice (some ⟨w.heap.size, 0, none⟩) 0 0) 0 [] := World.ownsRow_made w #[] 0 (Nat.le_refl _) (by simp) rfl
    have HN := Lib.hid hn
    have HO1 := Lib.hid ho1
    have HFL := Lib.hid hfl
    clear hn hh h hg hsz ht hs ho1 hfl
    go_enter Tryz.func29, Tryz.ntmps29
    go_wp2_with (at_builtin; refine wpList_append_own_at _ rfl _ _ _ rfl w.heap.size 31 i0 _ 12 120 Tryz.underlying22 hi hz0 hz1 hz2 rfl (by omega) _ _ _ rfl hown ⟨gb, 0, none⟩ g.length cap (flatU g) rfl HFL.out HN.out HO1.out (by simp only [maxLen]; omega) (by omega) (by simp) ?_; intro v' w1 hown1 hg1 _ hat)
    go_ret
    have hb1 : Below w.heap.size w w1 := ((Below.refl _ _).alloc (Nat.le_refl _) _).grown hg1 (by simp) (fun k hk => by have : w.heap.size = k := Option.some.inj hk; omega)
    simp only [Nat.zero_add, List.nil_append] at hown1
    exact ⟨_, rfl, hb1, hown1⟩
def fitB (most : Int) (b : Bun) (g : List Bun) : Bool := decide (chkJ (g ++ [b]) = 0) && decide (crtS (g ++ [b]) < endS (g ++ [b])) && decide (((payS (g ++ [b])).length : Int) ≤ most)
/-- a predicate on groups, as the program's closure answers it -/
def PredV (f : FuncId) (caps : Array Value) (Pd : List Bun → Bool) (w : World) (gs : List (List BV)) : Prop := (∀ args W, (callFunc f args).run Tryz.prog W = .ok (.enter f args) W) ∧
  ∀ (g : List BV) (x : Value) (W : World), g ∈ gs → Below w.heap.size w W → W.ownsRow 0 31 12 x g.length (flatU g) → Calls Tryz.prog f (#[x] ++ caps) W fun e W' => e = .returned (.bool (Pd (buns g))) ∧ Below W.heap.size W W'
def PredVIdx (Pd : List Bun → Bool) (l : List (List BV)) (w : World) (e : Ending) (w' : World) : Prop := Below w.heap.size w w' ∧
  ((e = .returned (.int .i64 (-1)) ∧ ∀ x ∈ l, Pd (buns x) = false) ∨ ∃ k : Nat, e = .returned (.int .i64 k) ∧ k < l.length ∧ (∀ x ∈ l.take k, Pd (buns x) = false) ∧ ∀ x, l[k]? = some x → Pd (buns x) = true)
set_option maxRecDepth 100000 in
set_option maxHeartbeats 2000000 in
theorem index_PredV (gs : List (List BV)) (vals : List Value) (u : Value) (B : Nat) (f : FuncId) (caps : Array Value) (Pd : List Bun → Bool) (w : World) (h : OwnVB w B u gs vals) (hp : PredV f caps Pd w gs) (hgl : gs.length ≤ 1000) :
    Calls Tryz.prog 27 #[u, .func (.func f) #[] caps] w (PredVIdx Pd gs w) := by
  obtain ⟨a, c, rfl⟩ := own_shape h.1
  have H := Lib.hid h
  obtain ⟨hcall, hq⟩ := hp
  have HP := Lib.hid hq
  clear h hq
  go_enter Tryz.func27, Tryz.ntmps27
  go_wp2
  go_loopw [8] (fun i wr => ∃ k : Nat, k ≤ gs.length ∧ i = .int .i64 k ∧ Hid (∀ x ∈ gs.take k, Pd (buns x) = false) ∧ Below w.heap.size w wr) (fun i _ => gs.length - (intOf i).toNat)
  case atStart => exact ⟨0, Nat.zero_le _, rfl, Lib.hid (by simp), Below.refl _ _⟩
  case round =>
    obtain ⟨k, hk, rfl, HF, hB⟩ := hrel
    by_cases hlt : k < gs.length
    · obtain ⟨x, g, hx, hgk, how⟩ := H.out.at hlt
      obtain ⟨p, c', hve⟩ := own_form H.out.1 (by omega)
      injection hve with hva _ hvc
      subst hva hvc
      have hpl := (H.out.1.lt p rfl).2
      obtain ⟨xa, xc, rfl⟩ := own_shape how
      have c1 : wr.cell? ⟨p, k, none⟩ = some (.slice xa g.length xc) := by
        have := own_get H.out.1 rfl (j := k) (u := .slice xa g.length xc) hx
        rw [addN] at this
        simp only [Nat.zero_add] at this
        exact (hB.cell (p := ⟨p, k, none⟩) hpl).trans this
      have k0 : (0 : Int) ≤ (k : Int) := by omega
      have k1 : (k : Int) < (gs.length : Int) := by omega
      obtain ⟨q, hq⟩ : ∃ q, Pd (buns g) = q := ⟨_, rfl⟩
      have HQ := Lib.hid hq
      have HG := Lib.hid hgk
      have HOW := Lib.hid (own_kept1 (own_le how (Nat.zero_le _)) (fun q hq => hB.block q (how.lt q hq).2))
      clear hq hgk hx how
      go_wp2_with fail
      refine (HP.out g _ _ (List.mem_of_getElem? HG.out) hB HOW.out).mono ?_
      rw [HQ.out]
      rintro e w1 ⟨rfl, hb1⟩
      have hb2 : Below w.heap.size w w1 := (by repeat' (first | with_reducible (first | refine bset ?_ ?_ | exact Below.refl _ _ | assumption | refine bdrewN ?_ _ | refine bdrew ?_ | refine balloc0 ?_ | refine balloc ?_ ?_ | (apply btrans0; rotate_left; assumption) | (apply btrans; rotate_left; assumption)) | exact Below.refl _ _ | assumption | (apply btrans0; rotate_left; assumption) | (apply btrans; rotate_left; assumption) | (simp; done) | omega | (simp; omega)))
      cases q with
      | false =>
        go_wp2
        go_roundw
        case rel =>
          refine ⟨k + 1, by omega, by go_num, Lib.hid ?_, hb2⟩
          intro y hy
          rw [List.take_add_one, HG.out] at hy
          rcases List.mem_append.1 hy with hy | hy
          · exact HF.out y hy
          · simp at hy; subst hy; exact HQ.out
        case measure => simp [intOf]; omega
      | true =>
        go_wp2
        go_ret
        exact ⟨hb2, .inr ⟨k, rfl, hlt, HF.out, fun y hy => by rw [HG.out] at hy; injection hy with hy; subst hy; exact HQ.out⟩⟩
    · obtain rfl : k = gs.length := by omega
      go_wp2
      go_ret
      exact ⟨hB, .inl ⟨rfl, by have := HF.out; rwa [List.take_length] at this⟩⟩
end Go.Proofs.YtpkklmkeflddkaaGreat
