/- Joined by port.py: XCl XEc XEd XEh XEe XEf XEo XEm XEq -/
import Derived.WalkSpells
import Derived.Lib.SliceRun
import Derived.Laws.BitsAllLaws
import Derived.Test.YtmknchdciblfjaaGreatJb
import Derived.Test.YtmknchdciblfjaaGreatJc
import Derived.Test.YtmknchdciblfjaaGreatJa
import Derived.Test.YtmknchdciblfjaaGreatProg
import Derived.Test.YtmknchdciblfjaaGreatJg
import Derived.Laws.EntriesVeiled
import Derived.Test.YtmknchdciblfjaaGreatJd
import Derived.Test.YtmknchdciblfjaaGreatJe
set_option linter.unusedVariables false
set_option linter.unusedSimpArgs false
/-! XCl -/
namespace Go.Proofs.YtmknchdciblfjaaGreat
set_option maxRecDepth 20000
open Go Go.RowKit
attribute [local go_sem] B_getElem B_size B_app B_extract B_get B_toList
theorem infoBlk : (Tryz.prog.info? 91).map (fun i => (i.zero, i.size, i.bytes)) = some (some (.agg #[.int .i64 0, .int .i64 0, .string (B [])]), 3, 32) := by kernel_rfl
/-- a slice of the call's own that holds the blocks l (nil or not) -/
def OwnB (w : World) (N : Nat) (v : Value) (l : List Blk) : Prop :=
  (l = [] ∧ v = .slice none 0 0) ∨ ∃ g cap, v = .slice (some ⟨g, 0, none⟩) l.length cap ∧ N ≤ g ∧ w.ownsRow N 91 3 v l.length (l.flatMap blkC)
def ClonePost (l : List Blk) (w : World) (e : Ending) (w' : World) : Prop := ∃ v, e = .returned v ∧ Below w.heap.size w w' ∧ OwnB w' w.heap.size v l
set_option maxHeartbeats 1000000 in
theorem clone_any (l : List Blk) (v : Value) (w : World) (h : RBlks w w.heap.size v l) (hl : l.length ≤ 1000) :
    Calls Tryz.prog 148 #[v] w (ClonePost l w) := by
  obtain ⟨a, c, rfl, h1, h2, h3, h4⟩ := h
  have hq : ∀ W : World, (binOp .eql 30 (.slice a l.length c) (.slice none 0 0)).run Tryz.prog W = .ok (.bool a.isNone) W := fun W => Lib.run_eql_slice_nil W _ _ a _ _ _ _ Tryz.underlying30
  cases a with
  | none =>
    have hc := h3 rfl
    subst hc
    have hz : l = [] := List.eq_nil_of_length_eq_zero (by omega)
    subst hz
    clear h3 h4
    simp only [List.length_nil, Option.isNone_none] at hq
    go_enter Tryz.func148, Tryz.ntmps148
    go_wp2
    go_ret
    exact ⟨_, rfl, belowA, .inl ⟨rfl, rfl⟩⟩
  | some ad =>
    obtain ⟨i0, hi, hz0, hz1, hz2⟩ := info_parts infoBlk
    have H4 := Lib.hid h4
    clear h3 h4
    simp only [Option.isNone_some] at hq
    go_enter Tryz.func148, Tryz.ntmps148
    have hown : (w.alloc (.cells #[] 91)).ownsRow w.heap.size 91 3 (.slice (some ⟨w.heap.size, 0, none⟩) 0 0) 0 [] := World.ownsRow_made w #[] 0 (Nat.le_refl _) (by simp) rfl
    have hn : ∀ j u, (l.flatMap blkC)[j]? = some u → (w.alloc (.cells #[] 91)).cell? (ad.add j) = some u := by
      intro j u hu
      have hp : 0 < l.length := by
        cases l with
        | nil => simp at hu
        | cons x r => simp
      obtain ⟨b, o, e, hb, hc⟩ := H4.out hp
      injection e with e
      subst e
      rw [addN, World.cell?_alloc_lt _ _ _ (by simpa using hb)]
      exact blk_flat hc hu
    have HN := Lib.hid hn
    clear hn
    go_wp2_with (at_builtin; refine wpList_append_own_at _ rfl _ _ _ rfl w.heap.size 91 i0 _ 3 32 Tryz.underlying30 hi hz0 hz1 hz2 rfl (by omega) _ _ _ rfl hown ad l.length c (l.flatMap blkC) rfl (flat_len blkC 3 blkC_len l) HN.out (blk_one l) (by simp only [maxLen]; omega) (by omega) (by simp) ?_; intro v' w1 hown1 hg1 _ hat)
    go_ret
    have hb1 : Below w.heap.size w w1 := ((Below.refl _ _).alloc (Nat.le_refl _) _).grown hg1 (by simp) (fun k hk => by have : w.heap.size = k := Option.some.inj hk; omega)
    simp only [Nat.zero_add, List.nil_append] at hown1
    refine ⟨_, rfl, hb1, ?_⟩
    rcases hown1.2 with ⟨hv, hz⟩ | ⟨g, cap, cur, hv, hb, _⟩
    · exact .inl ⟨List.eq_nil_of_length_eq_zero hz, hv⟩
    · exact .inr ⟨g, cap, hv, hb, hown1⟩
/-- cut$1 says which blocks are struck -/
theorem cut1_any (x : Blk) (w : World) (h1 : 0 ≤ x.flags) (h2 : x.flags ≤ 15) :
    Calls Tryz.prog 149 #[.agg #[.int .i64 x.kind, .int .i64 x.flags, .string (B x.data)]] w fun e w' => e = .returned (.bool (!(x.flags % 2 == 1))) ∧ Below w.heap.size w w' := by
  have hb : (bits .and .i64 x.flags 1 == 0) = !(x.flags % 2 == 1) := by
    obtain ⟨n, hn⟩ := Int.eq_ofNat_of_zero_le h1
    rw [hn]
    have h : ∀ n : Fin 16, (bits .and .i64 (n.val : Int) 1 == 0) = !((n.val : Int) % 2 == 1) := by decide +kernel
    exact h ⟨n, by omega⟩
  obtain ⟨p, hp⟩ : ∃ p, (!(x.flags % 2 == 1)) = p := ⟨_, rfl⟩
  rw [hp] at hb ⊢
  clear hp
  go_enter Tryz.func149, Tryz.ntmps149
  go_wp2
  all_goals
    go_ret
    exact ⟨rfl, belowA⟩
def keepC (x : Blk) : Bool := x.flags % 2 == 1
def IdxPostC (l : List Blk) (w : World) (e : Ending) (w' : World) : Prop := Below w.heap.size w w' ∧
  ((e = .returned (.int .i64 (-1)) ∧ ∀ x ∈ l, keepC x = true) ∨ ∃ k : Nat, e = .returned (.int .i64 k) ∧ k < l.length ∧ (∀ x ∈ l.take k, keepC x = true) ∧ ∀ x, l[k]? = some x → keepC x = false)
set_option maxRecDepth 100000 in
set_option maxHeartbeats 1000000 in
theorem index_any (l : List Blk) (b o c : Nat) (w : World) (hb : b < w.heap.size) (hc : ∀ (i : Nat) (x : Blk), l[i]? = some x → CBlk w b (o + i * 3) x) (hf : ∀ x ∈ l, 0 ≤ x.flags ∧ x.flags ≤ 15) (hl : l.length ≤ 1000) :
    Calls Tryz.prog 131 #[.slice (some ⟨b, o, none⟩) l.length c, .func (.func 149) #[] #[]] w (IdxPostC l w) := by
  have HC := Lib.hid hc
  clear hc
  go_enter Tryz.func131, Tryz.ntmps131
  go_wp2
  go_loopw [8] (fun i wr => ∃ k : Nat, k ≤ l.length ∧ i = .int .i64 k ∧ Hid (∀ x ∈ l.take k, keepC x = true) ∧ Below w.heap.size w wr) (fun i _ => l.length - (intOf i).toNat)
  case atStart => exact ⟨0, Nat.zero_le _, rfl, Lib.hid (by simp), Below.refl _ _⟩
  case round =>
    obtain ⟨k, hk, rfl, HF, hB⟩ := hrel
    by_cases hlt : k < l.length
    · obtain ⟨x, hx⟩ : ∃ x, l[k]? = some x := ⟨_, List.getElem?_eq_getElem hlt⟩
      obtain ⟨c1, c2, c3⟩ := (HC.out k x hx).keep (fun o => hB.cell (p := ⟨b, o, none⟩) hb)
      obtain ⟨f1, f2⟩ := hf x (List.mem_of_getElem? hx)
      obtain ⟨q, hq⟩ : ∃ q, keepC x = q := ⟨_, rfl⟩
      have HQ := Lib.hid hq
      have HX := Lib.hid hx
      have hsz := hB.size
      clear hq hx
      go_wp2_with fail
      refine (cut1_any x _ f1 f2).mono ?_
      rintro e w1 ⟨rfl, hb1⟩
      rw [show (x.flags % 2 == 1) = keepC x from rfl, HQ.out]
      have hb2 : Below w.heap.size w w1 := belowA
      cases q with
      | true =>
        go_wp2
        go_roundw
        case rel =>
          refine ⟨k + 1, by omega, by go_num, Lib.hid ?_, hb2⟩
          intro y hy
          rw [List.take_add_one, HX.out] at hy
          rcases List.mem_append.1 hy with hy | hy
          · exact HF.out y hy
          · simp at hy; subst hy; exact HQ.out
        case measure => simp [intOf]; omega
      | false =>
        go_wp2
        go_ret
        exact ⟨hb2, .inr ⟨k, rfl, hlt, HF.out, fun y hy => by rw [HX.out] at hy; injection hy with hy; subst hy; exact HQ.out⟩⟩
    · obtain rfl : k = l.length := by omega
      go_wp2
      go_ret
      exact ⟨hB, .inl ⟨rfl, by have := HF.out; rwa [List.take_length] at this⟩⟩
theorem CBlk.cells_out {w : World} {g q o : Nat} {x : Blk} {cs : List Value} (h : CBlk w g (q * 3) x) (ho : q * 3 + 3 ≤ o) : CBlk (w.setCells g o cs) g (q * 3) x := by
  obtain ⟨h1, h2, h3⟩ := h
  refine ⟨?_, ?_, ?_⟩
  · rw [World.cell?_setCells_out g cs o w _ (fun _ _ => .inl (by show q * 3 < o; omega))]; exact h1
  · rw [World.cell?_setCells_out g cs o w _ (fun _ _ => .inl (by show q * 3 + 1 < o; omega))]; exact h2
  · rw [World.cell?_setCells_out g cs o w _ (fun _ _ => .inl (by show q * 3 + 2 < o; omega))]; exact h3
/-- the row that DeleteFunc turns, j elements having been looked at -/
def DelRow (w : World) (g : Nat) (l : List Blk) (j : Nat) : Prop :=
  (∀ (q : Nat) (x : Blk), ((l.take j).filter keepC)[q]? = some x → CBlk w g (q * 3) x) ∧ (∀ (q : Nat) (x : Blk), j ≤ q → l[q]? = some x → CBlk w g (q * 3) x) ∧
  (∀ o, o < l.length * 3 → (w.cell? ⟨g, o, none⟩).isSome = true) ∧ ∀ o, w.frozen? ⟨g, o, none⟩ = false
def DelPost (l : List Blk) (g c : Nat) (w : World) (e : Ending) (w' : World) : Prop :=
  e = .returned (.slice (some ⟨g, 0, none⟩) (l.filter keepC).length c) ∧ Below g w w' ∧ ∀ (q : Nat) (x : Blk), (l.filter keepC)[q]? = some x → CBlk w' g (q * 3) x
theorem DelRow.below {w w1 : World} {g : Nat} {l : List Blk} {j : Nat} (h : DelRow w g l j) (hb : Below w.heap.size w w1) (hg : g < w.heap.size) : DelRow w1 g l j := by
  have hc : ∀ o, w1.cell? ⟨g, o, none⟩ = w.cell? ⟨g, o, none⟩ := fun o => hb.cell (p := ⟨g, o, none⟩) hg
  have hf : ∀ o, w1.frozen? ⟨g, o, none⟩ = w.frozen? ⟨g, o, none⟩ := fun o => hb.frozen (p := ⟨g, o, none⟩) hg
  exact ⟨fun q x hx => (h.1 q x hx).keep hc, fun q x hq hx => (h.2.1 q x hq hx).keep hc, fun o ho => by rw [hc]; exact h.2.2.1 o ho, fun o => by rw [hf]; exact h.2.2.2 o⟩
set_option maxRecDepth 100000 in
set_option maxHeartbeats 1000000 in
theorem delete_any (l : List Blk) (g c : Nat) (w : World) (hg : g < w.heap.size) (hc : ∀ (i : Nat) (x : Blk), l[i]? = some x → CBlk w g (0 + i * 3) x) (hfz : ∀ o, w.frozen? ⟨g, o, none⟩ = false) (hf : ∀ x ∈ l, 0 ≤ x.flags ∧ x.flags ≤ 15) (hl : l.length ≤ 1000) (hlc : l.length ≤ c) (hcm : c ≤ maxLen) :
    Calls Tryz.prog 147 #[.slice (some ⟨g, 0, none⟩) l.length c, .func (.func 149) #[] #[]] w (DelPost l g c w) := by
  have hI := index_any l g 0 c w hg hc hf hl
  have HC := Lib.hid hc
  have HF := Lib.hid hfz
  unfold maxLen at hcm
  clear hc hfz
  go_enter Tryz.func147, Tryz.ntmps147
  go_wp2_with fail
  refine hI.mono ?_
  rintro e w1 ⟨hb1, ⟨rfl, hall⟩ | ⟨k, rfl, hk, hpre, hdel⟩⟩
  · have HA := Lib.hid hall
    clear hall hI
    go_wp2
    go_ret
    have e1 : l.filter keepC = l := List.filter_eq_self.2 HA.out
    refine ⟨by rw [e1]; rfl, hb1.mono (by omega), ?_⟩
    rw [e1]
    intro q x hx
    have := (HC.out q x hx).keep (fun o => hb1.cell (p := ⟨g, o, none⟩) hg)
    rwa [Nat.zero_add] at this
  · have e0 : (l.take (k + 1)).filter keepC = l.take k := by
      rw [List.take_add_one, List.filter_append, List.filter_eq_self.2 hpre, List.getElem?_eq_getElem hk]
      simp [hdel _ (List.getElem?_eq_getElem hk)]
    have R0 : DelRow w1 g l (k + 1) := by
      have hcc : ∀ o, w1.cell? ⟨g, o, none⟩ = w.cell? ⟨g, o, none⟩ := fun o => hb1.cell (p := ⟨g, o, none⟩) hg
      refine ⟨fun q x hx => ?_, fun q x _ hx => ?_, fun o ho => ?_, fun o => ?_⟩
      · rw [e0] at hx
        have hx' : l[q]? = some x := by
          rw [List.getElem?_take] at hx
          split at hx
          · exact hx
          · cases hx
        have := (HC.out q x hx').keep hcc
        rwa [Nat.zero_add] at this
      · have := (HC.out q x hx).keep hcc
        rwa [Nat.zero_add] at this
      · rw [hcc]
        have hj : o / 3 < l.length := by omega
        have := blk_flat (b := g) (o := 0) HC.out (j := o) (u := ((l.flatMap blkC)[o]'(by rw [flat_len blkC 3 blkC_len]; exact ho))) (List.getElem?_eq_getElem _)
        rw [Nat.zero_add] at this
        rw [this]; rfl
      · rw [hb1.frozen (p := ⟨g, o, none⟩) hg]; exact HF.out o
    have RR := Lib.hid R0
    have HK : Hid ((k : Nat) = ((l.take (k + 1)).filter keepC).length) := Lib.hid (by rw [e0, List.length_take]; omega)
    have hg1 : g < w1.heap.size := Nat.lt_of_lt_of_le hg hb1.size
    have hB0 : Below g w w1 := hb1.mono (by omega)
    clear hI hpre hdel e0 R0
    have hne : ((k : Int) == -1) = false := beq_eq_false_iff_ne.2 (by omega)
    go_wp2
    go_loopw [5, 6] (fun i jv wr => ∃ i' j : Nat, i = .int .i64 i' ∧ jv = .int .i64 j ∧ i' < j ∧ j ≤ l.length ∧ Hid (i' = ((l.take j).filter keepC).length) ∧ Hid (DelRow wr g l j) ∧ Below g w wr ∧ g < wr.heap.size) (fun _ j _ => l.length - (intOf j).toNat)
    case atStart => exact ⟨k, k + 1, rfl, by go_num, by omega, by omega, HK, RR, hB0, hg1⟩
    case round =>
      obtain ⟨i, j, rfl, rfl, hij, hj, HI, HD, hB, hgr⟩ := hrel
      clear HK RR hB0 hg1 hb1
      by_cases hlt : j < l.length
      · obtain ⟨x, hx⟩ : ∃ x, l[j]? = some x := ⟨_, List.getElem?_eq_getElem hlt⟩
        obtain ⟨c1, c2, c3⟩ := HD.out.2.1 j x (Nat.le_refl _) hx
        obtain ⟨f1, f2⟩ := hf x (List.mem_of_getElem? hx)
        obtain ⟨q, hq⟩ : ∃ q, keepC x = q := ⟨_, rfl⟩
        have HQ := Lib.hid hq
        have HX := Lib.hid hx
        clear hq hx
        go_wp2_with fail
        refine (cut1_any x _ f1 f2).mono ?_
        rintro e w2 ⟨rfl, hb2⟩
        rw [show (x.flags % 2 == 1) = keepC x from rfl, HQ.out]
        obtain ⟨k2, f2'⟩ := bcell hb2
        have z2 : wr.heap.size < w2.heap.size := by have := hb2.size; simp at this; omega
        have hb3 : Below wr.heap.size wr w2 := belowA
        have hB2 : Below g w w2 := hB.trans (hb3.mono (by omega))
        have HD2 := Lib.hid (HD.out.below hb3 hgr)
        have hg2 : g < w2.heap.size := by omega
        cases q with
        | false =>
          clear k2 f2'
          go_wp2
          go_roundw
          case rel =>
            have e1 : (l.take (j + 1)).filter keepC = (l.take j).filter keepC := by
              rw [List.take_add_one, HX.out, List.filter_append]; simp [HQ.out]
            refine ⟨i, j + 1, rfl, by go_num, by omega, by omega, Lib.hid (by rw [e1]; exact HI.out), Lib.hid ?_, hB2, hg2⟩
            obtain ⟨d1, d2, d3, d4⟩ := HD2.out
            exact ⟨by rw [e1]; exact d1, fun q x hq => d2 q x (by omega), d3, d4⟩
          case measure => simp [intOf]; omega
        | true =>
          have g0 := HD.out.2.2.1 (i * 3) (by omega)
          have g1 := HD.out.2.2.1 (i * 3 + 1) (by omega)
          have g2 := HD.out.2.2.1 (i * 3 + 2) (by omega)
          obtain ⟨y0, hy0⟩ := Option.isSome_iff_exists.1 g0
          obtain ⟨y1, hy1⟩ := Option.isSome_iff_exists.1 g1
          obtain ⟨y2, hy2⟩ := Option.isSome_iff_exists.1 g2
          have n0 := HD.out.2.2.2 (i * 3)
          have n1 := HD.out.2.2.2 (i * 3 + 1)
          have n2 := HD.out.2.2.2 (i * 3 + 2)
          have z3 : i < l.length := by omega
          clear g0 g1 g2
          go_wp2
          go_roundw
          case rel =>
            have e1 : (l.take (j + 1)).filter keepC = (l.take j).filter keepC ++ [x] := by
              rw [List.take_add_one, HX.out, List.filter_append]; simp [HQ.out]
            obtain ⟨d1, d2, d3, d4⟩ := HD2.out
            have hs : ∀ k, k < 3 → (w2.cell? ⟨g, i * 3 + k, none⟩).isSome = true := fun k hk => d3 _ (by omega)
            refine ⟨i + 1, j + 1, by go_num, by go_num, by omega, by omega, Lib.hid (by rw [e1, List.length_append, ← HI.out]; rfl), Lib.hid ?_, putB_below i x hB2 (Nat.le_refl _), Nat.lt_of_lt_of_eq hg2 (putB_size w2 g i x).symm⟩
            show DelRow (putB w2 g i x) g l (j + 1)
            refine ⟨?_, ?_, fun o ho => putB_some hs (d3 o ho), fun o => by rw [putB_frozen]; exact d4 o⟩
            · rw [e1]
              intro q y hy
              rcases Nat.lt_or_ge q i with h | h
              · rw [List.getElem?_append_left (by rw [← HI.out]; exact h)] at hy
                have := d1 q y hy
                exact ⟨(putB_other (by omega)).trans this.1, (putB_other (by omega)).trans this.2.1, (putB_other (by omega)).trans this.2.2⟩
              · rw [List.getElem?_append_right (by rw [← HI.out]; exact h), ← HI.out] at hy
                obtain rfl : q = i := by
                  rcases Nat.lt_or_ge i q with h' | h'
                  · rw [List.getElem?_eq_none (by simp; omega)] at hy; cases hy
                  · omega
                simp at hy
                subst hy
                exact putB_same hs
            · intro q y hq hy
              have := d2 q y (by omega) hy
              exact ⟨(putB_other (by omega)).trans this.1, (putB_other (by omega)).trans this.2.1, (putB_other (by omega)).trans this.2.2⟩
          case measure => simp [intOf]; omega
      · obtain rfl : j = l.length := by omega
        obtain ⟨cs, hcs, hcl⟩ := run_clear3 (P := Tryz.prog) wr 30 91 Tryz.underlying30 (fun W => by kernel_rfl) g (i * 3) (l.length - i) (c - i) (fun o ho => HD.out.2.2.1 _ (by omega)) (fun o _ => HD.out.2.2.2 _)
        have HCS := Lib.hid hcs
        clear hcs
        have hi1 : i < l.length := by omega
        have hi2 : i < c := by omega
        go_wp2
        go_ret
        have e1 : i = (l.filter keepC).length := by have := HI.out; rwa [List.take_length] at this
        refine ⟨by rw [← e1]; rfl, below_setCells (Nat.le_refl _) _ _ _ hB, ?_⟩
        intro q y hy
        have hq : q < i := by rw [e1]; exact (List.getElem?_eq_some_iff.1 hy).1
        obtain ⟨d1, _, _, _⟩ := HD.out
        rw [List.take_length] at d1
        exact (d1 q y hy).cells_out (by omega)
theorem index_nil (w : World) :
    Calls Tryz.prog 131 #[.slice none 0 0, .func (.func 149) #[] #[]] w fun e w' => e = .returned (.int .i64 (-1)) ∧ Below w.heap.size w w' := by
  go_enter Tryz.func131, Tryz.ntmps131
  go_wp2
  go_loopw [8] (fun i wr => i = .int .i64 0 ∧ Below w.heap.size w wr) (fun i _ => 0)
  case atStart => exact ⟨rfl, Below.refl _ _⟩
  case round =>
    obtain ⟨rfl, hB⟩ := hrel
    go_wp2
    go_ret
    exact ⟨rfl, hB⟩
def DelOwnPost (l : List Blk) (N : Nat) (w : World) (e : Ending) (w' : World) : Prop := ∃ v', e = .returned v' ∧ RBlks w' w'.heap.size v' (l.filter keepC) ∧ Below N w w' ∧ RFrom N v'
theorem delete_nil (N : Nat) (w : World) (hN : N ≤ w.heap.size) :
    Calls Tryz.prog 147 #[.slice none 0 0, .func (.func 149) #[] #[]] w (DelOwnPost [] N w) := by
  go_enter Tryz.func147, Tryz.ntmps147
  go_wp2_with fail
  refine (index_nil _).mono ?_
  rintro e w1 ⟨rfl, hb1⟩
  go_wp2
  go_ret
  exact ⟨_, rfl, RBlks.nil _ _, hb1.mono hN, RFrom.nil _⟩
theorem delete_own (l : List Blk) (v : Value) (N : Nat) (w : World) (hN : N ≤ w.heap.size) (h : OwnB w N v l) (hf : ∀ x ∈ l, 0 ≤ x.flags ∧ x.flags ≤ 15) (hl : l.length ≤ 1000) :
    Calls Tryz.prog 147 #[v, .func (.func 149) #[] #[]] w (DelOwnPost l N w) := by
  rcases h with ⟨rfl, rfl⟩ | ⟨g, cap, rfl, hg, ho⟩
  · exact delete_nil N w hN
  · have hh := ho
    rcases ho.2 with ⟨hz, _⟩ | ⟨g', cap', cur, hv, _, hgg, hn, hm, hs, ht⟩
    · cases hz
    · obtain ⟨rfl, rfl⟩ : g = g' ∧ cap = cap' := by injection hv with h1 h2 h3; injection h1 with h1; injection h1 with h1; exact ⟨h1, h3⟩
      have hlt : g < w.heap.size := by
        rcases Nat.lt_or_ge g w.heap.size with h | h
        · exact h
        · rw [Array.getElem?_eq_none h] at hgg; cases hgg
      refine (delete_any l g cap w hlt (blk_of_flat fun j u hu => ?_) (fun o => by simp [World.frozen?, hgg]) hf hl hn hm).mono ?_
      · have := hh.cells (g := g) rfl j u hu
        rwa [addN] at this
      · rintro e w' ⟨rfl, hb, hc⟩
        refine ⟨_, rfl, ⟨some ⟨g, 0, none⟩, cap, rfl, Nat.le_trans (List.length_filter_le _ _) hn, hm, (fun h => by cases h), fun _ => ⟨g, 0, rfl, Nat.lt_of_lt_of_le hlt hb.size, fun i x hx => by rw [Nat.zero_add]; exact hc i x hx⟩⟩, hb.mono hg, fun a n c h => by injection h with h; injection h with h; subst h; exact hg⟩
end Go.Proofs.YtmknchdciblfjaaGreat
/-! XEc -/
namespace Go.Proofs.YtmknchdciblfjaaGreat
open Go Go.RowKit
attribute [local go_sem] B_getElem B_size B_app B_extract B_get B_toList
/-- a function value with its variables says of a block whether it has a property -/
def PredAt (f : FuncId) (caps : Array Value) (Pd : Blk → Bool) (w : World) (l : List Blk) : Prop := (∀ args W, (callFunc f args).run Tryz.prog W = .ok (.enter f args) W) ∧
  ∀ (x : Blk) (W : World), x ∈ l → Below w.heap.size w W → Calls Tryz.prog f (#[.agg #[.int .i64 x.kind, .int .i64 x.flags, .string (B x.data)]] ++ caps) W fun e W' => e = .returned (.bool (Pd x)) ∧ Below W.heap.size W W'
theorem PredAt.below {f : FuncId} {caps : Array Value} {Pd : Blk → Bool} {w w' : World} {l : List Blk} (h : PredAt f caps Pd w l) (k : Below w.heap.size w w') : PredAt f caps Pd w' l := ⟨h.1, fun x W hx hW => h.2 x W hx (btrans0 k hW)⟩
end Go.Proofs.YtmknchdciblfjaaGreat
/-! XEd -/
namespace Go.Proofs.YtmknchdciblfjaaGreat
open Go Go.RowKit
attribute [local go_sem] B_getElem B_size B_app B_extract B_get B_toList
def RInts (w : World) (N : Nat) (v : Value) (l : List Int) : Prop :=
  ∃ a c, v = .slice a l.length c ∧ l.length ≤ c ∧ c ≤ maxLen ∧ (a = none → c = 0) ∧ (0 < l.length → ∃ b o, a = some ⟨b, o, none⟩ ∧ b < N ∧ ∀ (i : Nat) (x : Int), l[i]? = some x → w.cell? ⟨b, o + i, none⟩ = some (.int .i64 x))
theorem RInts.keep {w w' : World} {N M : Nat} {v : Value} {l : List Int} (h : RInts w N v l) (k : ∀ b o, b < N → w'.cell? ⟨b, o, none⟩ = w.cell? ⟨b, o, none⟩) (hM : N ≤ M) : RInts w' M v l := by
  obtain ⟨a, c, e1, e2, e3, e4, e5⟩ := h
  refine ⟨a, c, e1, e2, e3, e4, fun hp => ?_⟩
  obtain ⟨b, o, ea, hb, hi⟩ := e5 hp
  exact ⟨b, o, ea, by omega, fun i x hx => (k _ _ hb).trans (hi i x hx)⟩
theorem RInts.below {w w' : World} {N C M : Nat} {v : Value} {l : List Int} (h : RInts w N v l) (k : Below C w w') (hC : N ≤ C) (hM : N ≤ M) : RInts w' M v l :=
  h.keep (fun b o hb => k.cell (p := ⟨b, o, none⟩) (by show b < C; omega)) hM
end Go.Proofs.YtmknchdciblfjaaGreat
/-! XEh -/
namespace Go.Proofs.YtmknchdciblfjaaGreat
open Go Go.RowKit
def ints (l : List Int) : List Value := l.map fun x => .int .i64 x
theorem RInts.of_own {w : World} {base n : Nat} {e : TypeId} {v : Value} {l : List Int} (h : w.ownsRow base e 1 v n (ints l)) : RInts w w.heap.size v l := by
  have hl : n = l.length := by have := h.1; simp [ints] at this; omega
  subst hl
  have hh := h
  rcases h.2 with ⟨rfl, hz⟩ | ⟨g, cap, cur, rfl, hb, hg, hn, hm, hs, ht⟩
  · have : l = [] := List.eq_nil_of_length_eq_zero hz
    subst this
    exact ⟨none, 0, rfl, Nat.le_refl _, by simp, fun _ => rfl, fun h => by simp at h⟩
  · have hlt : g < w.heap.size := by
      rcases Nat.lt_or_ge g w.heap.size with h | h
      · exact h
      · rw [Array.getElem?_eq_none h] at hg; cases hg
    refine ⟨_, _, rfl, hn, hm, (fun h => by cases h), fun _ => ⟨g, 0, rfl, hlt, fun i x hx => ?_⟩⟩
    have := own_get hh rfl (j := i) (u := .int .i64 x) (by simp [ints, hx])
    rwa [addN] at this
end Go.Proofs.YtmknchdciblfjaaGreat
/-! XEe -/
namespace Go.Proofs.YtmknchdciblfjaaGreat
open Go Go.RowKit
attribute [local go_sem] B_getElem B_size B_app B_extract B_get B_toList
theorem caE_zero : ∀ {l : List Blk} {p : Option Int}, caE p l = 0 → ∀ x ∈ l, blkE x = 0
  | [], _, _, _, h => by simp at h
  | y :: l, p, h, x, hx => by
    rw [caE] at h
    split at h
    · exact absurd h ‹_›
    · split at h
      · cases h
      · rcases List.mem_cons.1 hx with rfl | hx
        · rename_i h1 _; exact Decidable.not_not.1 h1
        · exact caE_zero h x hx
theorem chkAll_zero {l : List Blk} (h : chkAll l = 0) : l.length ≤ 8 ∧ ∀ x ∈ l, blkE x = 0 := by
  unfold chkAll at h
  split at h
  · cases h
  · exact ⟨by omega, caE_zero h⟩
end Go.Proofs.YtmknchdciblfjaaGreat
/-! XEf -/
namespace Go.Proofs.YtmknchdciblfjaaGreat
open Go Go.RowKit
attribute [local go_sem] B_getElem B_size B_app B_extract B_get B_toList
theorem eqBlk (k f : Int) (d : List UInt8) (w : World) : Sem.run Tryz.prog (Go.binOp .neq 91 (.agg #[.int .i64 k, .int .i64 f, .string (B d)]) (.agg #[.int .i64 k, .int .i64 f, .string (B d)])) w = .ok (.bool false) w := by
  go_simp
attribute [local go_sem ↓] eqBlk
def AnyBool (w : World) (e : Ending) (w' : World) : Prop := ∃ g, e = .returned (.bool g) ∧ Below w.heap.size w w'
/-- it says true -/
def Says (w : World) (e : Ending) (w' : World) : Prop := e = .returned (.bool true) ∧ Below w.heap.size w w'
end Go.Proofs.YtmknchdciblfjaaGreat
/-! XEm -/
namespace Go.Proofs.YtmknchdciblfjaaGreat
open Go Go.RowKit
attribute [local go_sem] B_getElem B_size B_app B_extract B_get B_toList
def zBlk : Blk := ⟨0, 0, []⟩
end Go.Proofs.YtmknchdciblfjaaGreat
