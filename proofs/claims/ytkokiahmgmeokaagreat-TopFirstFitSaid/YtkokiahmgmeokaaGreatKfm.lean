/- storage.Free. -/
import Derived.BigQuiet
import Derived.BigRegion
import Derived.Deep.DeepCutAuto
import Derived.Deep.CutBlock
import Derived.Lib.MinMax
import Derived.Laws.EntriesVeiled
import Derived.Test.YtkokiahmgmeokaaGreatKfb
import Derived.Test.YtkokiahmgmeokaaGreatKfl
set_option linter.unusedVariables false
set_option linter.unusedSimpArgs false
namespace Go.Proofs.YtkokiahmgmeokaaGreat
open Go Go.RowKit Iv
attribute [local go_sem] Oper.semAt_some
attribute [local go_sem] B_getElem B_size B_app B_extract B_get B_toList
def roomS (q sz : Int) : List Sp := if q < sz then [] else [(0, 1099511627776)]
def SfRet (l : List Hld) (q sz : Int) (w : World) (e : Ending) (w' : World) : Prop := (∃ (u : Value) (L : List Sp) (r : Int), e = .returned (.tuple #[u, .int .i64 r]) ∧ RSps w' w'.heap.size u L ∧ L.length ≤ 1100 ∧ (∀ x ∈ L, spOK x) ∧ RFrom w.heap.size u ∧ (l = [] → L = roomS q sz)) ∧ Below w.heap.size w w'
def AllOK (p : List Sp × Int) : Prop := (∀ x ∈ p.1, spOK x) ∧ p.2 ≤ 1099511627776
theorem endL_ok {L : List Sp} {a t : Int} (h : ∀ x ∈ L, spOK x) (ht : t ≤ 1099511627776) : ∀ x ∈ endL L a t, spOK x := by
  unfold endL
  split
  · rename_i hc
    intro x hx
    rcases List.mem_append.1 hx with hx | hx
    · exact h x hx
    · rw [List.mem_singleton.1 hx]; exact ⟨hc.1, hc.2, ht⟩
  · exact h
theorem atS_ok {q sz t s : Int} {p : List Sp × Int} (h : ∀ x ∈ p.1, spOK x) (ht : t ≤ 1099511627776) : ∀ x ∈ (atS q sz p t s).1, spOK x := by
  unfold atS
  split
  · exact endL_ok h ht
  · exact h
theorem endL_len (L : List Sp) (a t : Int) : (endL L a t).length ≤ L.length + 1 := by unfold endL; split <;> simp
theorem atS_len (q sz t s : Int) (p : List Sp × Int) : (atS q sz p t s).1.length ≤ p.1.length + 1 := by
  unfold atS
  split
  · exact endL_len _ _ _
  · exact Nat.le_succ _
set_option maxRecDepth 100000 in
set_option maxHeartbeats 8000000 in
theorem sfree_any (qs : List Int) (cs : List Con) (l : List Hld) (uq uc ul : Value) (n : Nat) (q sz : Int) (w : World) (hq : RRow intC 1 w w.heap.size uq qs) (hc : RRow conC 7 w w.heap.size uc cs) (hl : RRow hldC 5 w w.heap.size ul l) (hp : PlanOK qs cs) (hn : qs[n]? = some q) (s1 : 1 ≤ sz) (s2 : sz ≤ 65536) :
    Calls Tryz.prog 60 #[.agg #[uq, uc], ul, .int .i64 (n : Int), .int .i64 sz] w (SfRet l q sz w) := by
  have HQ := Lib.hid hq
  have HC := Lib.hid hc
  have HLR := Lib.hid hl
  have HPO := Lib.hid hp
  have HN := Lib.hid hn
  have hnl := (List.getElem?_eq_some_iff.1 hn).1
  obtain ⟨aq, cq, rfl, q1, q2, -, -⟩ := hq
  obtain ⟨ac, cc, rfl, -⟩ := hc
  obtain ⟨al, cl, rfl, l1, l2, -, -⟩ := hl
  unfold maxLen at l2 q2
  have n0 : (0 : Int) ≤ (n : Int) := by omega
  have n1 : (n : Int) < (qs.length : Int) := by omega
  clear hp hn
  go_enter Tryz.func60, Tryz.ntmps60
  go_wp2_with fail
  obtain ⟨w0, hw0⟩ : ∃ q, ((w.alloc (.cells #[.slice aq qs.length cq, .slice ac cs.length cc] 25)).alloc (.cells #[.int .i64 (n : Int)] 3)).alloc (.cells #[.int .i64 sz] 3) = q := ⟨_, rfl⟩
  rw [hw0]
  have P0 : w0.heap[w.heap.size]? = some (.cells #[.slice aq qs.length cq, .slice ac cs.length cc] 25 (0, 0)) := by rw [← hw0]; exact (Below.heap_alloc _ _ _ (by simp; omega)).trans ((Below.heap_alloc _ _ _ (by simp)).trans heap_new)
  have P1 : w0.heap[w.heap.size + 1]? = some (.cells #[.int .i64 (n : Int)] 3 (0, 0)) := by rw [← hw0]; exact (Below.heap_alloc _ _ _ (by simp)).trans (heap_new' (by simp))
  have P2 : w0.heap[w.heap.size + 1 + 1]? = some (.cells #[.int .i64 sz] 3 (0, 0)) := by rw [← hw0]; exact heap_new' (by simp)
  have hb0 : Below w.heap.size w w0 := by rw [← hw0]; exact belowA
  clear hw0
  refine (schk_any qs cs l _ _ _ _ (HQ.out.below' hb0) (HC.out.below' hb0) (HLR.out.below' hb0)).mono ?_
  rintro e w1 ⟨⟨r, rfl, hr1, hr2⟩, hb1⟩
  have HB1 := Lib.hid (btrans0 hb0 hb1)
  have z0 : w.heap.size + 1 + 1 < w0.heap.size := (Array.getElem?_eq_some_iff.1 P2).1
  have PP := Lib.hid (And.intro ((hb1.block _ (by omega)).trans P0) (And.intro ((hb1.block _ (by omega)).trans P1) ((hb1.block _ z0).trans P2)))
  have z1 : w.heap.size + 1 + 1 < w1.heap.size := by have := hb1.size; omega
  clear P0 P1 P2 hb0 hb1
  by_cases zr : r = 0
  case neg =>
    have d0 : (r != 0) = true := by simpa using zr
    have HX : Hid (l ≠ []) := Lib.hid (fun h => zr (hr2 HPO.out h))
    clear zr hr1 hr2
    go_wp2
    refine bodyPost_ret (results_tmp2 rfl _ _ _) rfl ?_
    exact ⟨⟨.slice none 0 0, [], 1, rfl, RSps.nil _ _, by simp, fun x h => (by cases h), rfrom_nil _ _ _, fun h => absurd h HX.out⟩, HB1.out⟩
  subst zr
  have HV := Lib.hid (hr1 rfl)
  have h512 : l.length ≤ 512 := (hr1 rfl).2.1
  clear hr1 hr2
  have c1 := cellB PP.out.2.1 0
  have c2 := cellB PP.out.2.2 0
  have c3 := fun o => cellB PP.out.1 o
  go_upto_region 9 with fail
  obtain ⟨Z, hZ⟩ : ∃ q, w1.heap.size = q := ⟨_, rfl⟩
  obtain ⟨w4, hw4⟩ : ∃ q, ((w1.alloc (.cells #[.slice none 0 0] 45)).alloc (.cells #[.int .i64 (-1)] 3)).alloc (.cells #[.func (.func 98) #[] #[.pointer (some ⟨w1.heap.size + 1, 0, none⟩), .pointer (some ⟨w1.heap.size, 0, none⟩)]] 121) = q := ⟨_, rfl⟩
  rw [hw4]
  have b1 : w4.heap[w1.heap.size]? = some (.cells #[.slice none 0 0] 45 (0, 0)) := by rw [← hw4]; exact (Below.heap_alloc _ _ _ (by simp; omega)).trans ((Below.heap_alloc _ _ _ (by simp)).trans heap_new)
  have b2 : w4.heap[w1.heap.size + 1]? = some (.cells #[.int .i64 (-1)] 3 (0, 0)) := by rw [← hw4]; exact (Below.heap_alloc _ _ _ (by simp)).trans (heap_new' (by simp))
  have b3 : w4.heap[w1.heap.size + 1 + 1]? = some (.cells #[.func (.func 98) #[] #[.pointer (some ⟨w1.heap.size + 1, 0, none⟩), .pointer (some ⟨w1.heap.size, 0, none⟩)]] 121 (0, 0)) := by rw [← hw4]; exact heap_new' (by simp)
  have hb4 : Below w1.heap.size w1 w4 := by rw [← hw4]; exact belowA
  clear hw4
  rw [hZ] at b1 b2 b3 z1 ⊢
  have z4 : Z + 1 + 1 < w4.heap.size := (Array.getElem?_eq_some_iff.1 b3).1
  have HB4 : Hid (Below w.heap.size w w4) := Lib.hid (btrans0 HB1.out hb4)
  have HFB : Hid (FrB w4.heap.size Z w.heap.size (.slice aq qs.length cq) (.slice ac cs.length cc) (n : Int) sz w4) := Lib.hid ⟨(hb4.block _ (by omega)).trans PP.out.1, (hb4.block _ (by omega)).trans PP.out.2.1, (hb4.block _ (by omega)).trans PP.out.2.2, b3, by omega⟩
  have HFV : Hid (FrV w4.heap.size Z (.slice none 0 0) [] (-1) w4) := Lib.hid ⟨b1, World.ownsRow_nil _ _ _ _, b2⟩
  clear b1 b2 b3 hb4 c1 c2 c3
  go_wp2_with fail
  refine (sat_any w4.heap.size Z w.heap.size (.slice none 0 0) [] (-1) 0 0 qs n q sz aq cq (.slice ac cs.length cc) w w4 (Nat.le_refl _) HFV.out (by simp) HFB.out HQ.out HB4.out HN.out).mono ?_
  unfold EndPost
  rintro e w5 ⟨rfl, ⟨vo, hv, hv0⟩, hk5, hb5⟩
  have hq0 : 0 ≤ q ∧ q ≤ 1073741824 := HPO.out.2.1 q (List.mem_of_getElem? HN.out)
  have hwq : IntKind.i64.wrap (q - 0) = q := by rw [IntKind.wrap_i64]; omega
  have hL0 : (atS q sz ([], -1) 0 0).1 = [] := by unfold atS endL; rw [hwq]; split <;> rfl
  have hA0 : (atS q sz ([], -1) 0 0).2 = (if q < sz then -1 else 0) := by unfold atS; rw [hwq]; split <;> rfl
  have hvo := hv0 hL0
  subst hvo
  rw [hL0, hA0] at hv
  obtain ⟨A, hA⟩ : ∃ q_, (if q < sz then (-1 : Int) else 0) = q_ := ⟨_, rfl⟩
  rw [hA] at hv
  have HA := Lib.hid hA
  have HFV5 := Lib.hid hv
  have HFB5 := Lib.hid (HFB.out.keep hk5)
  have hs5 := hk5.1
  have HB5 : Hid (Below w.heap.size w w5) := Lib.hid (HB4.out.trans (hb5.mono (by omega)))
  clear hv hv0 hk5 hb5 hwq hL0 hA0 hA hq0
  have cn5 := cellB HFB5.out.n 0
  have z5 : Z + 1 + 1 < w5.heap.size := by omega
  go_wp2_with fail
  refine (levels_any l n _ _ (HLR.out.below' HB5.out) h512 HV.out.2.2).mono ?_
  rintro e w6 ⟨u6, P, rfl, hr6, hp6, hf6, hb6⟩
  obtain ⟨a6, c6, rfl, m1, m2, -, m4⟩ := hr6
  unfold maxLen at m2
  have hs6 := hb6.size
  have HM4 := Lib.hid m4
  have HF6 := Lib.hid hf6
  have HFB6' := HFB5.out.keep (KpG.of hb6)
  have HFB6 : Hid (FrB w6.heap.size Z w.heap.size (.slice aq qs.length cq) (.slice ac cs.length cc) (n : Int) sz w6) := Lib.hid ⟨HFB6'.p, HFB6'.n, HFB6'.s, HFB6'.e, by omega⟩
  have hfv6 := HFV5.out.keep hb6
  have HFV6 : Hid (FrV w6.heap.size Z (.slice none 0 0) [] A w6) := Lib.hid ⟨hfv6.1, World.ownsRow_nil _ _ _ _, hfv6.2.2⟩
  have HB6 : Hid (Below w.heap.size w w6) := Lib.hid (btrans0 HB5.out hb6)
  have z6 : Z + 1 + 1 < w6.heap.size := by omega
  have hAl : A ≤ 1099511627776 := by have := HA.out; split at this <;> omega
  have hpl : P.length ≤ 1024 := by omega
  clear m4 hf6 HFB6' hfv6 hb6 cn5
  go_wp2_with fail
  go_loopw [45] (fun kv wr => ∃ (k : Nat) (vo : Value) (L : List Sp) (a : Int), k ≤ P.length ∧ kv = .int .i64 (k : Int) ∧ L.length ≤ k ∧ Hid (FrV w6.heap.size Z vo L a wr) ∧ Hid (KpG w6.heap.size Z w6 wr) ∧ Hid (Below Z w6 wr) ∧ Hid (∀ x ∈ L, spOK x) ∧ Hid (P = [] → L = [] ∧ a = A)) (fun kv _ => P.length - (intOf kv).toNat)
  case atStart => exact ⟨0, _, [], A, Nat.zero_le _, rfl, Nat.le_refl _, HFV6, Lib.hid ⟨Nat.le_refl _, fun q _ _ _ _ => rfl⟩, Lib.hid (Below.refl _ _), Lib.hid (fun x h => by cases h), Lib.hid (fun _ => ⟨rfl, rfl⟩)⟩
  case round =>
    obtain ⟨k, vo, L, a, hk, rfl, hLk, HV_, HK, HB, HOK, HNE⟩ := hrel
    have zr : w6.heap.size ≤ wr.heap.size := HK.out.1
    by_cases hlt : k < P.length
    · obtain ⟨bb, o, rfl, hbn, hcell⟩ := HM4.out (by omega)
      obtain ⟨x, hx⟩ : ∃ x, P[k]? = some x := ⟨_, List.getElem?_eq_getElem hlt⟩
      have hbf : w5.heap.size ≤ bb := HF6.out ⟨bb, o, none⟩ _ _ rfl
      have hbk : ∀ j : Nat, wr.cell? ⟨bb, j, none⟩ = w6.cell? ⟨bb, j, none⟩ := fun j => by simp only [World.cell?, HK.out.2 bb hbn hbn (by omega) (by omega)]
      have q0 : wr.cell? ⟨bb, o + k * 2, none⟩ = some (.int .i64 x.1) := (hbk _).trans (sp0 hcell hx)
      have q1 : wr.cell? ⟨bb, o + k * 2 + 1, none⟩ = some (.int .i64 x.2) := (hbk _).trans (sp1 hcell hx)
      have k0 : (0 : Int) ≤ (k : Int) := by omega
      have k1 : (k : Int) < (P.length : Int) := by omega
      have hPne : Hid (P ≠ []) := Lib.hid (fun e => by subst e; exact absurd hlt (Nat.not_lt_zero _))
      clear hx hcell hbk
      go_upto_region 13 with fail
      obtain ⟨w7, hw7⟩ : ∃ q, wr.alloc (.cells #[.int .i64 x.1, .int .i64 x.2] 147) = q := ⟨_, rfl⟩
      rw [hw7]
      have hb7 : Below wr.heap.size wr w7 := by rw [← hw7]; exact balloc0 (Below.refl _ _)
      have XV : Hid (w7.heap[wr.heap.size]? = some (.cells #[.int .i64 x.1, .int .i64 x.2] 147 (0, 0))) := Lib.hid (by rw [← hw7]; exact heap_new)
      have z7 : wr.heap.size < w7.heap.size := by rw [← hw7]; simp
      have hbz7 : Below Z wr w7 := by rw [← hw7]; exact (Below.refl _ _).alloc (by omega) _
      have HK7 := Lib.hid (And.intro (HK.out.trans (KpG.of hb7)) (HB.out.trans hbz7))
      have HFV7 := Lib.hid (HV_.out.keep hb7)
      have cx := fun q => cellB XV.out q
      clear hw7 hb7 hbz7 q0 q1
      by_cases y : x.1 < 1099511627776
      · have dy : decide (x.1 < 1099511627776) = true := decide_eq_true y
        have HY := Lib.hid y
        have HFB7 := Lib.hid (HFB6.out.keep HK7.out.1)
        have HBW : Hid (Below w.heap.size w w7) := Lib.hid (HB6.out.trans (HK7.out.2.mono (by omega)))
        go_wp2_with fail
        refine (sat_any w6.heap.size Z w.heap.size vo L a x.1 x.2 qs n q sz aq cq (.slice ac cs.length cc) w w7 (by omega) HFV7.out (by omega) HFB7.out HQ.out HBW.out HN.out).mono ?_
        unfold EndPost
        rintro e w8 ⟨rfl, ⟨vo8, hv8, -⟩, hk8, hb8⟩
        have hl8 := atS_len q sz x.1 x.2 (L, a)
        have ho8 := atS_ok (q := q) (sz := sz) (t := x.1) (s := x.2) (p := (L, a)) HOK.out (by omega)
        have HR8 := Lib.hid (And.intro hv8 (And.intro (HK7.out.1.trans hk8) (And.intro (HK7.out.2.trans hb8) (And.intro hl8 ho8))))
        clear hv8 hk8 hb8 hl8 ho8 cx y
        go_wp2
        go_roundw
        case rel => exact ⟨k + 1, vo8, _, _, by omega, by go_num, by have := HR8.out.2.2.2.1; omega, Lib.hid HR8.out.1, Lib.hid HR8.out.2.1, Lib.hid HR8.out.2.2.1, Lib.hid HR8.out.2.2.2.2, Lib.hid (fun e => absurd e hPne.out)⟩
        case measure => simp [intOf]; omega
      · have dy : decide (x.1 < 1099511627776) = false := decide_eq_false y
        clear y
        go_wp2
        go_roundw
        case rel => exact ⟨k + 1, vo, L, a, by omega, by go_num, by omega, HFV7, Lib.hid HK7.out.1, Lib.hid HK7.out.2, HOK, Lib.hid (fun e => absurd e hPne.out)⟩
        case measure => simp [intOf]; omega
    · obtain rfl : k = P.length := by omega
      have ce := cellB (HFB6.out.keep HK.out).e 0
      have zer : Z + 1 + 1 < wr.heap.size := by omega
      go_wp2_with fail
      refine (send_any w6.heap.size Z vo L a 1099511627776 _ (by omega) zr HV_.out (by omega)).mono ?_
      unfold EndPost
      rintro e w9 ⟨rfl, ⟨vo9, hv9, -⟩, hk9, hb9⟩
      have co9 := hv9.1.cell
      have zo9 := hv9.1.lt
      obtain ⟨va, vc, rfl⟩ := own_shape hv9.2.1
      have HR9 := Lib.hid (And.intro hv9 (And.intro hk9 hb9))
      clear hv9 hk9 hb9 ce
      go_wp2
      refine bodyPost_ret (results_tmp2 rfl _ _ _) rfl ?_
      refine ⟨⟨.slice va (endL L a 1099511627776).length vc, endL L a 1099511627776, 0, rfl, RSps.of_own HR9.out.1.2.1, by have := endL_len L a 1099511627776; omega, endL_ok HOK.out (Int.le_refl _), (own_from HR9.out.1.2.1).le HB6.out.size, fun e => ?_⟩, HB6.out.trans ((HB.out.trans HR9.out.2.2).mono (by omega))⟩
      have hP : P = [] := List.eq_nil_of_length_eq_zero (by rw [e] at hp6; simpa using hp6)
      obtain ⟨h1, h2⟩ := HNE.out hP
      have h3 := HA.out
      rw [h1, h2, ← h3]
      unfold roomS endL
      split <;> rfl
end Go.Proofs.YtkokiahmgmeokaaGreat
