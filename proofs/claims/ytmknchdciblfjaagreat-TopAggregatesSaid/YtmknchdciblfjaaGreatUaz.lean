/- Joined by port.py: XUa -/
import Derived.BigQuiet
import Derived.BigRegion
import Derived.Deep.DeepCutAuto
import Derived.Deep.CutBlock
import Derived.Test.YtmknchdciblfjaaGreatSv
import Derived.Test.YtmknchdciblfjaaGreatJa
import Derived.Test.YtmknchdciblfjaaGreatJb
import Derived.Test.YtmknchdciblfjaaGreatJc
import Derived.Test.YtmknchdciblfjaaGreatJh
import Derived.Test.YtmknchdciblfjaaGreatJm
import Derived.Test.YtmknchdciblfjaaGreatJo
import Derived.Test.YtmknchdciblfjaaGreatJs
import Derived.Test.YtmknchdciblfjaaGreatJp
import Derived.Test.YtmknchdciblfjaaGreatKaz
import Derived.Test.YtmknchdciblfjaaGreatJw
import Derived.Test.YtmknchdciblfjaaGreatSb
import Derived.Test.YtmknchdciblfjaaGreatSz
import Derived.Test.YtmknchdciblfjaaGreatSh
import Derived.Test.YtmknchdciblfjaaGreatSi
import Derived.Test.YtmknchdciblfjaaGreatSm
import Derived.Test.YtmknchdciblfjaaGreatRT
import Derived.Test.YtmknchdciblfjaaGreatSp
import Derived.Test.YtmknchdciblfjaaGreatJd
import Derived.Test.YtmknchdciblfjaaGreatJe
import Derived.Test.YtmknchdciblfjaaGreatSkz
set_option linter.unusedVariables false
set_option linter.unusedSimpArgs false
/-! XUa -/
namespace Go.Proofs.YtmknchdciblfjaaGreat
open Go Go.RowKit Iv
attribute [local go_sem] Oper.semAt_some
attribute [local go_sem] B_getElem B_size B_app B_extract B_get B_toList
theorem neSpI (a b c d : Int) (w : World) : Sem.run Tryz.prog (Go.binOp .neq 154 (.agg #[.int .i64 a, .int .i64 b]) (.agg #[.int .i64 c, .int .i64 d])) w = .ok (.bool (a != c || b != d)) w := by
  go_simp
  by_cases h1 : a = c <;> by_cases h2 : b = d <;> simp [h1, h2]
attribute [local go_sem ↓] neSpI
theorem resP_1 {p : Par} (h : chkP p ≠ 0) : resP p = (zBun, 1) := if_pos h
theorem resP_2 {p : Par} (h : chkP p = 0) (h2 : ¬ (p.known.length = 1 ∧ p.known[0]? = some (0, (p.data.length : Int)))) : resP p = (zBun, 25) := (if_neg (by simp [h])).trans (if_neg h2)
theorem resP_3 {p : Par} (h : chkP p = 0) (h2 : p.known.length = 1 ∧ p.known[0]? = some (0, (p.data.length : Int))) : resP p = ({ p.head with payload := p.data }, 0) := (if_neg (by simp [h])).trans (if_pos h2)
/-- a tuple of a bundle and an error -/
def ResPost (N : Nat) (v : Value) (r : Bun × Int) (w : World) (e : Ending) (w' : World) : Prop := ∃ u, e = .returned (.tuple #[.agg (bunC r.1 u).toArray, .int .i64 r.2]) ∧ (u = .slice none 0 0 ∨ u = v) ∧ RBlks w' N u r.1.blocks ∧ Below w.heap.size w w'
set_option maxRecDepth 100000 in
set_option maxHeartbeats 32000000 in
theorem res_any (p : Par) (ub uk : Value) (N : Nat) (w : World) (hN : N ≤ w.heap.size) (h : RBlks w N ub p.head.blocks) (k : RSps w w.heap.size uk p.known) (hf : Fits p.head) (hd : p.data.length ≤ maxLen) :
    Calls Tryz.prog 31 #[.agg (parC p ub uk).toArray] w (ResPost N ub (resP p) w) := by
  obtain ⟨b, kn, dt⟩ := p
  simp only at h k hf hd
  obtain ⟨a, c, rfl, _⟩ := id h
  obtain ⟨ka, kc, rfl, kh1, kh2, kh3, kh4⟩ := id k
  have HRN := Lib.hid h
  have HR := Lib.hid (RBlks.wide h hN)
  have HK := Lib.hid k
  have HF := Lib.hid hf
  have HD := Lib.hid hd
  have K4 := Lib.hid kh4
  unfold maxLen at hd
  clear h k hf kh3 kh4
  obtain ⟨V, hV⟩ : ∃ q, resP ⟨b, kn, dt⟩ = q := ⟨_, rfl⟩
  have HVV := Lib.hid hV
  rw [hV]
  clear hV
  obtain ⟨E, hE⟩ : ∃ q, chkP ⟨b, kn, dt⟩ = q := ⟨_, rfl⟩
  have HE := Lib.hid hE
  go_enter Tryz.func31, Tryz.ntmps31
  simp only [parC, bunC, List.cons_append, List.nil_append]
  go_wp2_with fail
  refine (chkP_any ⟨b, kn, dt⟩ _ _ _ (HR.out.below (C := w.heap.size) (by exact belowA) (Nat.le_refl _) (by simp <;> omega)) (HK.out.below (C := w.heap.size) (by exact belowA) (Nat.le_refl _) (by simp <;> omega)) HF.out HD.out).mono ?_
  rw [HE.out]
  rintro e w1 ⟨rfl, hb⟩
  have b1 : Below w.heap.size w w1 := btrans0 (by exact belowA) hb
  have z1 : w.heap.size + 1 < w1.heap.size := by have := hb.size; simp at this; omega
  have P1 : Hid (w1.heap[w.heap.size]? = some (.cells #[.int .i64 b.src, .int .i64 b.crt, .int .i64 b.seq, .int .i64 b.off, .int .i64 b.tot, .int .i64 b.dk, .int .i64 b.dn, .int .i64 b.life, .int .i64 b.prio, .int .i64 b.flags, .slice a b.blocks.length c, .string (B b.payload), .slice ka kn.length kc, .string (B dt)] 81 (0, 0))) := Lib.hid ((hb.block _ (by simp; omega)).trans ((Below.heap_alloc _ _ _ (by simp)).trans heap_new))
  have R1 : Hid (w1.heap[w.heap.size + 1]? = some (.cells #[.int .i64 0, .int .i64 0, .int .i64 0, .int .i64 0, .int .i64 0, .int .i64 0, .int .i64 0, .int .i64 0, .int .i64 0, .int .i64 0, .slice none 0 0, .string ⟨#[]⟩] 32 (0, 0))) := Lib.hid ((hb.block _ (by simp)).trans (heap_new' (by simp)))
  have y1 : w.heap.size < w1.heap.size := by omega
  have cp := fun o => cellB P1.out o
  have cr := fun o => cellB R1.out o
  have fr := fun o => frozenB R1.out o
  clear hb
  by_cases z : E = 0
  case neg =>
    have HV : Hid (V = (zBun, 1)) := Lib.hid (by rw [← HVV.out]; exact resP_1 (by rw [HE.out]; exact z))
    have z' : (E != 0) = true := by rw [bne_iff_ne]; exact z
    clear hE z
    go_wp2
    refine bodyPost_ret (v := .tuple #[.agg #[.int .i64 0, .int .i64 0, .int .i64 0, .int .i64 0, .int .i64 0, .int .i64 0, .int .i64 0, .int .i64 0, .int .i64 0, .int .i64 0, .slice none 0 0, .string ⟨#[]⟩], .int .i64 1]) (by simp [results, Tryz.results31, go_sem, World.cell?_setCell_same', cr, z1]) rfl ?_
    rw [HV.out]
    exact ⟨_, rfl, .inl rfl, RBlks.nil _ _, belowA⟩
  subst z
  clear hE
  by_cases l : kn.length = 1
  case neg =>
    have HV : Hid (V = (zBun, 25)) := Lib.hid (by rw [← HVV.out]; exact resP_2 HE.out (fun h => l h.1))
    have l1 : ((kn.length : Int) != 1) = true := by rw [bne_iff_ne]; omega
    clear l
    go_upto_region 3 with fail
    go_quiet (fail)
    go_wp2
    refine bodyPost_ret (v := .tuple #[.agg #[.int .i64 0, .int .i64 0, .int .i64 0, .int .i64 0, .int .i64 0, .int .i64 0, .int .i64 0, .int .i64 0, .int .i64 0, .int .i64 0, .slice none 0 0, .string ⟨#[]⟩], .int .i64 25]) (by simp [results, Tryz.results31, go_sem, World.cell?_setCell_same', cr, z1]) rfl ?_
    rw [HV.out]
    exact ⟨_, rfl, .inl rfl, RBlks.nil _ _, belowA⟩
  obtain ⟨kb, ko, rfl, hkb, hkc⟩ := K4.out (by omega)
  obtain ⟨x, hx⟩ : ∃ x, kn[0]? = some x := ⟨_, List.getElem?_eq_getElem (by omega)⟩
  have HX := Lib.hid hx
  have q0 : w1.cell? ⟨kb, ko, none⟩ = some (.int .i64 x.1) := by have := (b1.cell (p := ⟨kb, ko + 0 * 2, none⟩) hkb).trans (sp0 hkc hx); simpa using this
  have q1 : w1.cell? ⟨kb, ko + 1, none⟩ = some (.int .i64 x.2) := by have := (b1.cell (p := ⟨kb, ko + 0 * 2 + 1, none⟩) hkb).trans (sp1 hkc hx); simpa using this
  have l1 : ((kn.length : Int) != 1) = false := by rw [bne_eq_false_iff_eq]; omega
  have n0 : (0 : Int) < (kn.length : Int) := by omega
  have n0' : 0 < kn.length := by omega
  have HL := Lib.hid l
  clear hkc hx l
  by_cases s : x = (0, (dt.length : Int))
  case neg =>
    have HV : Hid (V = (zBun, 25)) := Lib.hid (by rw [← HVV.out]; exact resP_2 HE.out (fun h => s (by have := HX.out.symm.trans h.2; exact Option.some.inj this)))
    have s1 : (x.1 != 0 || x.2 != (dt.length : Int)) = true := by
      by_cases y : x.1 = 0
      · by_cases y2 : x.2 = (dt.length : Int)
        · exact absurd (by cases x; simp only at y y2; rw [y, y2]) s
        · simp [y2]
      · simp [y]
    clear s
    go_upto_region 3 with fail
    go_quiet (fail)
    go_wp2
    refine bodyPost_ret (v := .tuple #[.agg #[.int .i64 0, .int .i64 0, .int .i64 0, .int .i64 0, .int .i64 0, .int .i64 0, .int .i64 0, .int .i64 0, .int .i64 0, .int .i64 0, .slice none 0 0, .string ⟨#[]⟩], .int .i64 25]) (by simp [results, Tryz.results31, go_sem, World.cell?_setCell_same', cr, z1]) rfl ?_
    rw [HV.out]
    exact ⟨_, rfl, .inl rfl, RBlks.nil _ _, belowA⟩
  subst s
  have s1 : ((0 : Int) != 0 || (dt.length : Int) != (dt.length : Int)) = false := by simp
  have HV : Hid (V = (⟨b.src, b.crt, b.seq, b.off, b.tot, b.dk, b.dn, b.life, b.prio, b.flags, b.blocks, dt⟩, 0)) := Lib.hid (by rw [← HVV.out]; exact resP_3 HE.out ⟨HL.out, HX.out⟩)

  simp only at q0 q1
  go_upto_region 3 with fail
  go_quiet (fail)
  go_upto_region 5 with fail
  obtain ⟨w2, hw2⟩ : ∃ q, w1.drewN nq = q := ⟨_, rfl⟩
  rw [hw2]
  have b2 : Below w.heap.size w w2 := by rw [← hw2]; exact belowA
  have z2 : w.heap.size + 1 < w2.heap.size := by rw [← hw2]; exact z1
  have y2 : w.heap.size < w2.heap.size := by omega
  have P2 : Hid (w2.heap[w.heap.size]? = some (.cells #[.int .i64 b.src, .int .i64 b.crt, .int .i64 b.seq, .int .i64 b.off, .int .i64 b.tot, .int .i64 b.dk, .int .i64 b.dn, .int .i64 b.life, .int .i64 b.prio, .int .i64 b.flags, .slice a b.blocks.length c, .string (B b.payload), .slice (some ⟨kb, ko, none⟩) kn.length kc, .string (B dt)] 81 (0, 0))) := Lib.hid (by rw [← hw2]; exact P1.out)
  have R2 : Hid (w2.heap[w.heap.size + 1]? = some (.cells #[.int .i64 0, .int .i64 0, .int .i64 0, .int .i64 0, .int .i64 0, .int .i64 0, .int .i64 0, .int .i64 0, .int .i64 0, .int .i64 0, .slice none 0 0, .string ⟨#[]⟩] 32 (0, 0))) := Lib.hid (by rw [← hw2]; exact R1.out)
  clear hw2 cp cr fr
  clear q0 q1
  have cp := fun o => cellB P2.out o
  have cr := fun o => cellB R2.out o
  have fr := fun o => frozenB R2.out o
  go_wp2
  refine bodyPost_ret (v := .tuple #[.agg #[.int .i64 b.src, .int .i64 b.crt, .int .i64 b.seq, .int .i64 b.off, .int .i64 b.tot, .int .i64 b.dk, .int .i64 b.dn, .int .i64 b.life, .int .i64 b.prio, .int .i64 b.flags, .slice a b.blocks.length c, .string (B dt)], .int .i64 0]) (by simp [results, Tryz.results31, go_sem, World.cell?_setCell_same', cr, z2]) rfl ?_
  rw [HV.out]
  exact ⟨_, rfl, .inr rfl, HRN.out.keep (fun q o hq => (by exact belowA : Below w.heap.size w _).cell (by show q < w.heap.size; omega)) (Nat.le_refl _), belowA⟩
end Go.Proofs.YtmknchdciblfjaaGreat
/- Joined by port.py: XUc XUe -/
set_option linter.unusedVariables false
set_option linter.unusedSimpArgs false
/-! XUc -/
namespace Go.Proofs.YtmknchdciblfjaaGreat
open Go Go.RowKit Iv
theorem chkP_full {p : Par} (h : chkP p = 0) : (chkE p.head = 0 ∧ p.head.tot ≤ 0 ∧ p.head.payload = [] ∧ hasF p.head.flags 2 = false) ∧ (1 ≤ p.data.length ∧ p.data.length ≤ 4096) ∧ chkSp p.known = 0 ∧ rngBad p.known p.data.length = false ∧ dataBad p.data p.known = false ∧ (0 < fromS p.known → (copyB p.head.blocks).length = p.head.blocks.length) := by
  have h0 := chkP_zero h
  unfold chkP at h
  split at h
  · cases h
  · split at h
    · cases h
    · split at h
      · exact absurd h (by assumption)
      · split at h
        · cases h
        · split at h
          · cases h
          · split at h
            · cases h
            · rename_i n1 n2 n3 n4 n5 n6
              refine ⟨h0.1, ⟨by omega, by omega⟩, h0.2.2.1, Bool.eq_false_iff.2 n4, Bool.eq_false_iff.2 n5, fun hf => ?_⟩
              by_cases e : (copyB p.head.blocks).length = p.head.blocks.length
              · exact e
              · exact absurd ⟨hf, e⟩ n6
theorem chkP_of {p : Par} (h1 : chkE p.head = 0 ∧ p.head.tot ≤ 0 ∧ p.head.payload = [] ∧ hasF p.head.flags 2 = false) (h2 : 1 ≤ p.data.length ∧ p.data.length ≤ 4096) (h3 : chkSp p.known = 0) (h4 : rngBad p.known p.data.length = false) (h5 : dataBad p.data p.known = false) (h6 : 0 < fromS p.known → (copyB p.head.blocks).length = p.head.blocks.length) : chkP p = 0 := by
  unfold chkP
  rw [if_neg (by rintro (h | h | h | h); exact h h1.1; omega; exact h h1.2.2.1; rw [h1.2.2.2] at h; cases h), if_neg (by omega), if_neg (by simp [h3]), if_neg (by simp [h4]), if_neg (by simp [h5]), if_neg (fun h => h.2 (h6 h.1))]
theorem Iv.NF.rebase {b b' : Int} {l : List Sp} (h : NF b l) (h0 : ∀ x, l[0]? = some x → b' < x.1) : NF b' l := by
  cases l with
  | nil => trivial
  | cons x r => exact ⟨h0 x rfl, h.2.1, h.2.2⟩
/-- the known indices lie within the data -/
theorem rng_ok {l : List Sp} {n : Int} {b : Int} (h : rngBad l n = false) (hn : NF b l) : NF (-1) l ∧ (∀ y, l[l.length - 1]? = some y → y.2 ≤ n) ∧ 0 < l.length := by
  unfold rngBad at h
  cases e0 : l[0]? with
  | none => rw [e0] at h; cases h
  | some x =>
    cases e1 : l[l.length - 1]? with
    | none => rw [e0, e1] at h; cases h
    | some y =>
      rw [e0, e1] at h
      simp only [Bool.or_eq_false_iff, decide_eq_false_iff_not] at h
      refine ⟨hn.rebase (fun x' hx' => ?_), fun y' hy' => ?_, ?_⟩
      · rw [e0] at hx'; cases hx'; omega
      · cases hy'; omega
      · rcases Nat.eq_zero_or_pos l.length with z | z
        · rw [List.eq_nil_of_length_eq_zero z] at e0; cases e0
        · exact z
end Go.Proofs.YtmknchdciblfjaaGreat
/-! XUe -/
namespace Go.Proofs.YtmknchdciblfjaaGreat
open Go Go.RowKit Iv
theorem newP_ok {b : Bun} (h : (newP b).2 = 0) : chkE b = 0 ∧ 0 < b.tot ∧ newP b = (⟨headB b, [spanB b], newD b⟩, 0) := by
  unfold newP at h ⊢
  split at h
  · cases h
  · split at h
    · cases h
    · rename_i n1 n2
      exact ⟨Classical.not_not.1 n1, Classical.not_not.1 n2, by rw [if_neg n1, if_neg n2]⟩
theorem newP_bad {b : Bun} (h : (newP b).2 ≠ 0) : (newP b).1 = zPar := by
  unfold newP at h ⊢
  split
  · rfl
  · split
    · rfl
    · rename_i n1 n2
      rw [if_neg n1, if_neg n2] at h
      exact absurd rfl h
theorem addP_ok {p : Par} {b : Bun} (h : (addP p b).2 = 0) : chkP p = 0 ∧ chkE b = 0 ∧ 0 < b.tot ∧ belB p b = true ∧ agrB p b = true ∧ (ins p.known (spanB b)).length ≤ 1000 ∧ addP p b = (⟨{ p.head with blocks := if b.off = 0 then b.blocks else p.head.blocks }, ins p.known (spanB b), writeS p.data b⟩, 0) := by
  have h0 : addP p b = addP p b := rfl
  conv at h0 => rhs; unfold addP
  unfold addP at h
  split at h
  · cases h
  · split at h
    · cases h
    · split at h
      · cases h
      · split at h
        · cases h
        · split at h
          · cases h
          · rename_i n1 n2 n3 n4 n5
            rw [if_neg n1, if_neg n2, if_neg n3, if_neg n4, if_neg n5] at h0
            exact ⟨Classical.not_not.1 (fun e => n1 (.inl e)), Classical.not_not.1 (fun e => n1 (.inr e)), Classical.not_not.1 n2, by simpa using n3, by simpa using n4, by omega, h0⟩
theorem addP_bad {p : Par} {b : Bun} (h : (addP p b).2 ≠ 0) : (addP p b).1 = zPar := by
  unfold addP at h ⊢
  split
  · rfl
  · split
    · rfl
    · split
      · rfl
      · split
        · rfl
        · split
          · rfl
          · rename_i n1 n2 n3 n4 n5
            rw [if_neg n1, if_neg n2, if_neg n3, if_neg n4, if_neg n5] at h
            exact absurd rfl h
theorem chk_head {b : Bun} {L : List Blk} (h : chkE b = 0) (hL : blksE L = 0) : chkE ⟨b.src, b.crt, b.seq, 0, 0, b.dk, b.dn, b.life, b.prio, b.flags, L, []⟩ = 0 := by
  obtain ⟨c1, c2, c3, c4, c5, c6, c7⟩ := chkE_zero h
  have i1 : idB ⟨b.src, b.crt, b.seq, 0, 0, b.dk, b.dn, b.life, b.prio, b.flags, L, []⟩ = true := by
    simp only [idB, decide_eq_true_eq] at c1 ⊢
    exact ⟨c1.1, c1.2.1, c1.2.2.1, c1.2.2.2.1, c1.2.2.2.2.1, c1.2.2.2.2.2.1, by simp⟩
  have i2 : flB ⟨b.src, b.crt, b.seq, 0, 0, b.dk, b.dn, b.life, b.prio, b.flags, L, []⟩ = true := by
    simp only [flB, Bool.and_eq_true, decide_eq_true_eq] at c2 ⊢
    exact ⟨c2.1, by simp⟩
  unfold chkE
  have e1 : idE ⟨b.src, b.crt, b.seq, 0, 0, b.dk, b.dn, b.life, b.prio, b.flags, L, []⟩ = 0 := by unfold idE; rw [if_pos i1]
  have e2 : flE ⟨b.src, b.crt, b.seq, 0, 0, b.dk, b.dn, b.life, b.prio, b.flags, L, []⟩ = 0 := by unfold flE; rw [if_pos i2]
  have i4 : payE ⟨b.src, b.crt, b.seq, 0, 0, b.dk, b.dn, b.life, b.prio, b.flags, L, []⟩ = 0 := by
    unfold payE
    rw [if_neg (by simp), if_neg (by rintro ⟨h1, _⟩; simp at h1)]
  rw [e1, e2, i4]
  simp only
  rw [hL, c7, if_neg (by simp), if_neg (by simp), if_neg (by omega), if_neg (by omega), if_neg (by simp), if_neg (by simp)]
theorem frag_whole {b : Bun} (h : chkE b = 0) (ht : 0 < b.tot) : hasF b.flags 2 = false := by
  obtain ⟨_, c2, _⟩ := chkE_zero h
  simp only [flB, Bool.and_eq_true, Bool.not_eq_true', Bool.and_eq_false_iff, decide_eq_false_iff_not] at c2
  rcases c2.2 with z | z
  · exact absurd ht z
  · exact z
theorem rng_of {l : List Sp} {n : Int} (h : 0 < l.length) (h1 : ∀ x ∈ l, 0 ≤ x.1 ∧ x.2 ≤ n) : rngBad l n = false := by
  have e0 : l[0]? = some l[0] := List.getElem?_eq_getElem h
  have e1 : l[l.length - 1]? = some (l[l.length - 1]'(by omega)) := List.getElem?_eq_getElem (by omega)
  rw [rng_at e0 e1]
  have a := h1 _ (List.getElem_mem h)
  have b := h1 _ (List.getElem_mem (by omega : l.length - 1 < l.length))
  simp only [Bool.or_eq_false_iff, decide_eq_false_iff_not]
  omega
theorem nf_last : ∀ {l : List Sp} {b : Int} {y : Sp}, NF b l → l[l.length - 1]? = some y → ∀ x ∈ l, x.2 ≤ y.2
  | [z], b, y, h, hy, x, hx => by
    simp at hy hx
    subst hy; subst hx
    exact Int.le_refl _
  | z :: u :: r, b, y, h, hy, x, hx => by
    have ih := nf_last (l := u :: r) (y := y) h.2.2 (by simpa using hy)
    rcases List.mem_cons.1 hx with rfl | hx
    · have := ih u (by simp)
      have := h.2.2.1
      have := h.2.2.2.1
      omega
    · exact ih x hx
theorem rng_all {l : List Sp} {n b : Int} (h : rngBad l n = false) (hn : NF b l) : ∀ x ∈ l, 0 ≤ x.1 ∧ x.2 ≤ n := fun x hx => by
  obtain ⟨h1, h2, h3⟩ := rng_ok h hn
  have a := h1.lo x hx
  have e1 : l[l.length - 1]? = some (l[l.length - 1]'(by omega)) := List.getElem?_eq_getElem (by omega)
  have b := nf_last h1 e1 x hx
  have c := h2 _ e1
  omega
theorem ins_bnd {lo hi : Int} : ∀ {l : List Sp} {x : Sp}, (∀ y ∈ l, lo ≤ y.1 ∧ y.2 ≤ hi) → lo ≤ x.1 ∧ x.2 ≤ hi → ∀ y ∈ ins l x, lo ≤ y.1 ∧ y.2 ≤ hi
  | [], x, _, hx, y, hy => by
    simp [ins] at hy
    subst hy; exact hx
  | z :: r, x, h, hx, y, hy => by
    have hz := h z (by simp)
    have hr : ∀ y ∈ r, lo ≤ y.1 ∧ y.2 ≤ hi := fun y hy => h y (by simp [hy])
    unfold ins at hy
    split at hy
    · rcases List.mem_cons.1 hy with rfl | hy
      · exact hz
      · exact ins_bnd hr hx y hy
    · split at hy
      · exact ins_bnd hr (by simp only; omega) y hy
      · rcases List.mem_cons.1 hy with rfl | hy
        · exact hx
        · exact h y hy
theorem ins_ne : ∀ (l : List Sp) (x : Sp), 0 < (ins l x).length
  | [], x => by simp [ins]
  | z :: r, x => by
    unfold ins
    split
    · simp
    · split
      · exact ins_ne r _
      · simp
theorem from_in {l : List Sp} (h : NF (-1) l) (hne : 0 < l.length) : 0 ≤ fromS l ∧ (0 < fromS l ↔ inS l 0 = false) := by
  cases l with
  | nil => cases hne
  | cons x r =>
    have e : fromS (x :: r) = x.1 := rfl
    have h1 := h.1
    have h2 := h.2.1
    refine ⟨by omega, fun h0 => ?_, fun h0 => ?_⟩
    · rw [← Bool.not_eq_true, inS_iff]
      rintro ⟨y, hy, h3, h4⟩
      rcases List.mem_cons.1 hy with rfl | hy
      · omega
      · have := h.2.2.lo y hy; omega
    · rcases Int.lt_or_le 0 (fromS (x :: r)) with z | z
      · exact z
      · have : inS (x :: r) 0 = true := inS_iff.2 ⟨x, by simp, by omega, by omega⟩
        rw [this] at h0; cases h0
theorem copy_copy (l : List Blk) : copyB (copyB l) = copyB l := by
  unfold copyB
  rw [List.filter_filter]
  simp
theorem span_nf {b : Bun} (hv : chkE b = 0) (ht : 0 < b.tot) : 0 ≤ (spanB b).1 ∧ (spanB b).1 < (spanB b).2 ∧ (spanB b).2 ≤ b.tot ∧ chkSp [spanB b] = 0 := by
  obtain ⟨v1, v2, v3, v4, v5, v6, v7, v8, v9, v10⟩ := valid_facts hv
  obtain ⟨v11, v12⟩ := v10 ht
  have e : spanB b = (b.off, b.off + b.payload.length) := rfl
  refine ⟨by rw [e]; exact v1, by rw [e]; simp only; omega, by rw [e]; exact v12, chk_one (by rw [e]; simp only; omega) (by rw [e]; simp only; omega) (by rw [e]; simp only; omega)⟩
theorem newP_valid {b : Bun} (h : (newP b).2 = 0) : chkP (newP b).1 = 0 := by
  obtain ⟨hv, ht, he⟩ := newP_ok h
  rw [he]
  obtain ⟨v1, v2, v3, v4, v5, v6, v7, v8, v9, v10⟩ := valid_facts hv
  obtain ⟨v11, v12⟩ := v10 ht
  obtain ⟨s1, s2, s3, s4⟩ := span_nf hv ht
  have hl : (newD b).length = b.tot.toNat := by
    unfold newD
    rw [writeS_len v1 (by simp; omega)]
    simp
  have hb := (chkE_zero hv).2.2.1
  refine chkP_of ⟨?_, Int.le_refl 0, rfl, (frag_whole hv ht : hasF b.flags 2 = false)⟩ ⟨by show 1 ≤ (newD b).length; omega, by show (newD b).length ≤ 4096; omega⟩ s4 ?_ ?_ ?_
  · refine chk_head hv ?_
    split
    · exact blksE_filter _ hb
    · exact hb
  · refine rng_of (by simp) (fun x hx => ?_)
    simp at hx
    subst hx
    show 0 ≤ (spanB b).1 ∧ (spanB b).2 ≤ ((newD b).length : Int)
    omega
  · refine Bool.eq_false_iff.2 (dataBad_no (fun i hi => ?_))
    have hk : b.off = (b.off.toNat : Int) := by omega
    have hw := writeS_at (d := List.replicate b.tot.toNat 0) (b := b) (j := i) hk (by simp; omega)
    by_cases c : b.off.toNat ≤ i ∧ i < b.off.toNat + b.payload.length
    · right
      refine inS_iff.2 ⟨spanB b, by simp, ?_, ?_⟩
      · show b.off ≤ (i : Int); omega
      · show (i : Int) < b.off + b.payload.length; omega
    · left
      rw [if_neg c] at hw
      show (newD b).getD i 0 = 0
      rw [List.getD_eq_getElem?_getD]
      unfold newD
      rw [hw]
      rcases Nat.lt_or_ge i b.tot.toNat with z | z
      · rw [List.getElem?_eq_getElem (by simpa using z)]; simp
      · rw [List.getElem?_eq_none (by simpa using z)]; rfl
  · intro hf
    show (copyB (headB b).blocks).length = (headB b).blocks.length
    have hf' : 0 < b.off := hf
    have : (headB b).blocks = copyB b.blocks := by unfold headB; exact if_pos hf'
    rw [this, copy_copy]
theorem bel_facts {p : Par} {b : Bun} (h : belB p b = true) : (p.head.src = b.src ∧ p.head.crt = b.crt ∧ p.head.seq = b.seq ∧ p.head.dk = b.dk ∧ p.head.dn = b.dn ∧ p.head.life = b.life ∧ p.head.prio = b.prio ∧ p.head.flags = b.flags) ∧ b.tot = p.data.length ∧ copyB p.head.blocks = copyB b.blocks := by
  unfold belB at h
  rw [Bool.and_eq_true, decide_eq_true_eq] at h
  obtain ⟨⟨h1, h2, h3, h4, h5, h6, h7, h8, h9⟩, h10⟩ := h
  exact ⟨⟨h1, h2, h3, h4, h5, h6, h7, h8⟩, h9, eqBs_iff.1 h10⟩
theorem addP_valid {p : Par} {b : Bun} (h : (addP p b).2 = 0) : chkP (addP p b).1 = 0 := by
  obtain ⟨hc, hv, ht, hbel, hagr, hlen, he⟩ := addP_ok h
  rw [he]
  obtain ⟨⟨c1, c2, c3, c4⟩, ⟨c5, c6⟩, c7, c8, c9, c10⟩ := chkP_full hc
  obtain ⟨⟨f1, f2, f3, f4, f5, f6, f7, f8⟩, f9, f10⟩ := bel_facts hbel
  obtain ⟨s1, s2, s3, s4⟩ := span_nf hv ht
  obtain ⟨v1, v2, v3, v4, v5, v6, v7, v8, v9, v10⟩ := valid_facts hv
  obtain ⟨v11, v12⟩ := v10 ht
  obtain ⟨k1, k2, k3⟩ := chkSp_zero c7
  have hall := rng_all c8 k2
  obtain ⟨r1, r2, r3⟩ := rng_ok c8 k2
  have hb := (chkE_zero hv).2.2.1
  have hh := (chkE_zero c1).2.2.1
  have hall2 : ∀ y ∈ ins p.known (spanB b), 0 ≤ y.1 ∧ y.2 ≤ (p.data.length : Int) := ins_bnd hall ⟨s1, by omega⟩
  have hnf : NF (-1) (ins p.known (spanB b)) := ins_nf _ _ _ r1 (by omega) s2
  have hin := ins_in p.known (spanB b) (-1) r1 s2
  have hl : (writeS p.data b).length = p.data.length := writeS_len v1 (by omega)
  have g := valid_facts c1
  have hoff : p.head.off = 0 := g.2.2.2.2.2.2.2.2.1 (by have := g.2.2.1; omega)
  have htot : p.head.tot = 0 := by have := g.2.2.1; omega
  have hkk : b.off = (b.off.toNat : Int) := by omega
  refine chkP_of ⟨?_, c2, c3, c4⟩ ⟨by show 1 ≤ (writeS p.data b).length; omega, by show (writeS p.data b).length ≤ 4096; omega⟩ ?_ ?_ ?_ ?_
  · have := chk_head (L := if b.off = 0 then b.blocks else p.head.blocks) c1 (by split; exact hb; exact hh)
    show chkE ⟨p.head.src, p.head.crt, p.head.seq, p.head.off, p.head.tot, p.head.dk, p.head.dn, p.head.life, p.head.prio, p.head.flags, if b.off = 0 then b.blocks else p.head.blocks, p.head.payload⟩ = 0
    rw [hoff, htot, c3]
    exact this
  · refine chkSp_of hlen ?_ (fun x hx => ?_)
    · exact hnf.rebase (fun x hx => by have := (hall2 x (List.mem_of_getElem? hx)).1; omega)
    · have := hall2 x hx; omega
  · show rngBad (ins p.known (spanB b)) ((writeS p.data b).length : Int) = false
    rw [hl]
    exact rng_of (ins_ne _ _) hall2
  · refine Bool.eq_false_iff.2 (dataBad_no (fun i hi => ?_))
    have hi' : i < p.data.length := by rw [← hl]; exact hi
    have hw := writeS_at (d := p.data) (b := b) (j := i) hkk (by omega)
    show (writeS p.data b).getD i 0 = 0 ∨ inS (ins p.known (spanB b)) i = true
    rw [hin]
    by_cases c : b.off.toNat ≤ i ∧ i < b.off.toNat + b.payload.length
    · right
      have e1 : (spanB b).1 ≤ (i : Int) := by show b.off ≤ (i : Int); omega
      have e2 : (i : Int) < (spanB b).2 := by show (i : Int) < b.off + b.payload.length; omega
      simp [e1, e2]
    · rw [if_neg c] at hw
      rw [List.getD_eq_getElem?_getD, hw, ← List.getD_eq_getElem?_getD]
      by_cases z : p.data.getD i 0 = 0
      · left; exact z
      · right
        have : inS p.known i = true := by
          rcases Bool.eq_false_or_eq_true (inS p.known i) with q | q
          · exact q
          · have := dataBad_at (List.getElem?_eq_getElem hi') (by rw [List.getD_eq_getElem?_getD, List.getElem?_eq_getElem hi'] at z; exact z) q
            rw [this] at c9; cases c9
        rw [this]; simp
  · intro hf
    show (copyB (if b.off = 0 then b.blocks else p.head.blocks)).length = (if b.off = 0 then b.blocks else p.head.blocks).length
    have hf0 := (from_in hnf (ins_ne _ _)).2.1 hf
    rw [hin] at hf0
    rw [Bool.or_eq_false_iff] at hf0
    have o1 : ¬ b.off = 0 := by
      intro z
      have e1 : (spanB b).1 ≤ 0 := by show b.off ≤ 0; omega
      have e2 : 0 < (spanB b).2 := by omega
      simp [e1, e2] at hf0
    rw [if_neg o1]
    exact c10 ((from_in r1 r3).2.2 hf0.2)
theorem chkP_fits {p : Par} (h : chkP p = 0) : Fits p.head ∧ p.data.length ≤ maxLen := by
  obtain ⟨⟨c1, _⟩, ⟨_, c6⟩, _⟩ := chkP_full h
  exact ⟨chk_fits c1, by unfold maxLen; omega⟩
theorem fits_z : Fits zPar.head ∧ zPar.data.length ≤ maxLen := ⟨⟨by simp [zPar, zBun, maxLen], fun x hx => by simp [zPar, zBun] at hx⟩, by simp [zPar]⟩
theorem newP_fits (b : Bun) : Fits (newP b).1.head ∧ (newP b).1.data.length ≤ maxLen := by
  by_cases h : (newP b).2 = 0
  · exact chkP_fits (newP_valid h)
  · rw [newP_bad h]; exact fits_z
theorem addP_fits (p : Par) (b : Bun) : Fits (addP p b).1.head ∧ (addP p b).1.data.length ≤ maxLen := by
  by_cases h : (addP p b).2 = 0
  · exact chkP_fits (addP_valid h)
  · rw [addP_bad h]; exact fits_z
end Go.Proofs.YtmknchdciblfjaaGreat
