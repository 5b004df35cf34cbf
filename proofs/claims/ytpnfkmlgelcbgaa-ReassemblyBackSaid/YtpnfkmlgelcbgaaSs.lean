/- Chapter 18: reassembly: fieldsOf; the reference's belongs. -/
import Derived.BigQuiet
import Derived.BigRegion
import Derived.Deep.DeepCutAuto
import Derived.Deep.CutBlock
import Derived.Test.YtpnfkmlgelcbgaaSr
import Derived.Test.YtpnfkmlgelcbgaaJp
set_option linter.unusedVariables false
set_option linter.unusedSimpArgs false
namespace Go.Proofs.Ytpnfkmlgelcbgaa
open Go Go.RowKit Iv
attribute [local go_sem] Oper.semAt_some
attribute [local go_sem] B_getElem B_size B_app B_extract B_get B_toList
set_option maxHeartbeats 4000000 in
theorem neFld (a b c d e f g h i j a' b' c' d' e' f' g' h' i' j' : Int) (w : World) : Sem.run Try.prog (Go.binOp .neq 77 (.agg #[.int .i64 a, .int .i64 b, .int .i64 c, .int .i64 d, .int .i64 e, .int .i64 f, .int .i64 g, .int .i64 h, .int .i64 i, .int .i64 j]) (.agg #[.int .i64 a', .int .i64 b', .int .i64 c', .int .i64 d', .int .i64 e', .int .i64 f', .int .i64 g', .int .i64 h', .int .i64 i', .int .i64 j'])) w = .ok (.bool (!decide (a = a' ∧ b = b' ∧ c = c' ∧ d = d' ∧ e = e' ∧ f = f' ∧ g = g' ∧ h = h' ∧ i = i' ∧ j = j'))) w := by
  go_simp
  by_cases h0 : a = a'
  case neg => simp [h0]
  by_cases h1 : b = b'
  case neg => simp [h0, h1]
  by_cases h2 : c = c'
  case neg => simp [h0, h1, h2]
  by_cases h3 : d = d'
  case neg => simp [h0, h1, h2, h3]
  by_cases h4 : e = e'
  case neg => simp [h0, h1, h2, h3, h4]
  by_cases h5 : f = f'
  case neg => simp [h0, h1, h2, h3, h4, h5]
  by_cases h6 : g = g'
  case neg => simp [h0, h1, h2, h3, h4, h5, h6]
  by_cases h7 : h = h'
  case neg => simp [h0, h1, h2, h3, h4, h5, h6, h7]
  by_cases h8 : i = i'
  case neg => simp [h0, h1, h2, h3, h4, h5, h6, h7, h8]
  by_cases h9 : j = j'
  case neg => simp [h0, h1, h2, h3, h4, h5, h6, h7, h8, h9]
  simp [h0, h1, h2, h3, h4, h5, h6, h7, h8, h9]
theorem eqIdI (a b c d e a' b' c' d' e' : Int) (w : World) : Sem.run Try.prog (Go.binOp .eql 23 (.agg #[.int .i64 a, .int .i64 b, .int .i64 c, .int .i64 d, .int .i64 e]) (.agg #[.int .i64 a', .int .i64 b', .int .i64 c', .int .i64 d', .int .i64 e'])) w = .ok (.bool (decide (a = a' ∧ b = b' ∧ c = c' ∧ d = d' ∧ e = e'))) w := by
  go_simp
  by_cases h0 : a = a'
  case neg => simp [h0]
  by_cases h1 : b = b'
  case neg => simp [h0, h1]
  by_cases h2 : c = c'
  case neg => simp [h0, h1, h2]
  by_cases h3 : d = d'
  case neg => simp [h0, h1, h2, h3]
  by_cases h4 : e = e'
  case neg => simp [h0, h1, h2, h3, h4]
  simp [h0, h1, h2, h3, h4]
theorem eqEndI (a b a' b' : Int) (w : World) : Sem.run Try.prog (Go.binOp .eql 25 (.agg #[.int .i64 a, .int .i64 b]) (.agg #[.int .i64 a', .int .i64 b'])) w = .ok (.bool (decide (a = a' ∧ b = b'))) w := by
  go_simp
  by_cases h0 : a = a'
  case neg => simp [h0]
  by_cases h1 : b = b'
  case neg => simp [h0, h1]
  simp [h0, h1]

def fldB (p : Par) (b : Bun) : Bool := decide (p.head.src = b.src ∧ p.head.crt = b.crt ∧ p.head.seq = b.seq ∧ p.head.dk = b.dk ∧ p.head.dn = b.dn ∧ p.head.life = b.life ∧ p.head.prio = b.prio ∧ p.head.flags = b.flags)
theorem belB_eq (p : Par) (b : Bun) : belB p b = (fldB p b && (decide (b.tot = p.data.length) && eqBs (copyB p.head.blocks) (copyB b.blocks))) := by
  unfold belB fldB
  by_cases h : p.head.src = b.src ∧ p.head.crt = b.crt ∧ p.head.seq = b.seq ∧ p.head.dk = b.dk ∧ p.head.dn = b.dn ∧ p.head.life = b.life ∧ p.head.prio = b.prio ∧ p.head.flags = b.flags
  · rw [decide_eq_true h, Bool.true_and]
    congr 1
    obtain ⟨h1, h2, h3, h4, h5, h6, h7, h8⟩ := h
    simp [h1, h2, h3, h4, h5, h6, h7, h8]
  · rw [decide_eq_false h, decide_eq_false (fun k => h ⟨k.1, k.2.1, k.2.2.1, k.2.2.2.1, k.2.2.2.2.1, k.2.2.2.2.2.1, k.2.2.2.2.2.2.1, k.2.2.2.2.2.2.2.1⟩)]
    rfl
abbrev fldC (b : Bun) : Array Value := #[.int .i64 b.src, .int .i64 b.crt, .int .i64 b.seq, .int .i64 0, .int .i64 0, .int .i64 b.dk, .int .i64 b.dn, .int .i64 b.life, .int .i64 b.prio, .int .i64 b.flags]
attribute [local go_sem ↓] neFld eqIdI eqEndI
set_option maxRecDepth 100000 in
set_option maxHeartbeats 4000000 in
theorem fields_any (b : Bun) (u : Value) (w : World) (h : RBlks w w.heap.size u b.blocks) :
    Calls Try.prog 48 #[.agg (bunC b u).toArray] w fun e w' => e = .returned (.agg (fldC b)) ∧ Below w.heap.size w w' := by
  obtain ⟨a, c, rfl, _⟩ := h
  go_enter Try.func48, Try.ntmps48
  simp only [bunC]
  go_upto_region 1 with fail
  obtain ⟨w1, hw1⟩ : ∃ q, w.alloc (.cells #[.int .i64 b.src, .int .i64 b.crt, .int .i64 b.seq, .int .i64 b.off, .int .i64 b.tot, .int .i64 b.dk, .int .i64 b.dn, .int .i64 b.life, .int .i64 b.prio, .int .i64 b.flags, .slice a b.blocks.length c, .string (B b.payload)] 28) = q := ⟨_, rfl⟩
  have hn1 : w1.heap[w.heap.size]? = some (.cells #[.int .i64 b.src, .int .i64 b.crt, .int .i64 b.seq, .int .i64 b.off, .int .i64 b.tot, .int .i64 b.dk, .int .i64 b.dn, .int .i64 b.life, .int .i64 b.prio, .int .i64 b.flags, .slice a b.blocks.length c, .string (B b.payload)] 28 (0, 0)) := by rw [← hw1]; exact heap_new
  have hs1 : w1.heap.size = w.heap.size + 1 := by rw [← hw1]; simp
  have hb1 : Below w.heap.size w w1 := by rw [← hw1]; exact balloc0 (Below.refl _ _)
  rw [hw1]
  obtain ⟨w2, hw2⟩ : ∃ q, w1.alloc (.cells #[.int .i64 0, .int .i64 0, .int .i64 0, .int .i64 0, .int .i64 0, .int .i64 0, .int .i64 0, .int .i64 0, .int .i64 0, .int .i64 0] 77) = q := ⟨_, rfl⟩
  have hn2 : w2.heap[w.heap.size + 1]? = some (.cells #[.int .i64 0, .int .i64 0, .int .i64 0, .int .i64 0, .int .i64 0, .int .i64 0, .int .i64 0, .int .i64 0, .int .i64 0, .int .i64 0] 77 (0, 0)) := by rw [← hw2, ← hs1]; exact heap_new
  have hb2 : Below w1.heap.size w1 w2 := by rw [← hw2]; exact balloc0 (Below.refl _ _)
  rw [hw2]
  have B2 := (hb2.block _ (by omega)).trans hn1
  have zb2 : w.heap.size + 1 < w2.heap.size := (Array.getElem?_eq_some_iff.1 hn2).1
  have cb := fun o => cellB B2 o
  have cr := fun o => cellB hn2 o
  have fr := fun o => frozenB hn2 o
  have zb1 : w.heap.size < w2.heap.size := by omega
  have hb3 : Below w.heap.size w w2 := btrans0 hb1 hb2
  clear hw1 hw2 hn1 B2 hb1 hb2 hs1
  refine wp_region_plan (fun V => Below (w2).heap.size (w2) V) [0, 1, 2, 0, 1, 0, 1, 0, 1, 0, 1, 0, 3] [0, 1, 3, 4, 5, 6, 7, 8, 9, 10, 2, 11, 12] (by kernel_rfl) (by kernel_rfl) ?_ ?_
  case refine_1 => exact belowA
  (iterate 10 (first | (refine plan_held rfl (by decide) (by rfl) (fun w1 hS => by (try (obtain ⟨_, _⟩ := bcell (hS rfl))); go_simp; rfl) ?_; simp only [Act.put, List.setIfInBounds_toArray, List.set_cons_zero, List.set_cons_succ]) | (refine plan_skip rfl (by decide) (by rfl) ?_; simp only [Act.put, List.setIfInBounds_toArray, List.set_cons_zero, List.set_cons_succ])))
  (refine plan_keep rfl rfl (by rfl) (fun K hK => ?_); go_simp)
  refine (parent_any b.src b.crt b.seq b.off b.tot _).mono ?_
  unfold idV
  rintro e wc5 ⟨rfl, hbc5⟩
  have hn3 := (hbc5.block _ zb2).trans hn2
  have cr3 := fun o => cellB hn3 o
  have fr3 := fun o => frozenB hn3 o
  have zb5 : w.heap.size + 1 < wc5.heap.size := (Array.getElem?_eq_some_iff.1 hn3).1
  clear cr fr
  (refine hK _ _ (by exact belowA) ?_; clear hK K; (try simp only [Act.put, List.setIfInBounds_toArray, List.set_cons_zero, List.set_cons_succ]))
  (iterate 1 (first | (refine plan_held rfl (by decide) (by rfl) (fun w1 hS => by (try (obtain ⟨_, _⟩ := bcell (hS rfl))); go_simp; rfl) ?_; simp only [Act.put, List.setIfInBounds_toArray, List.set_cons_zero, List.set_cons_succ]) | (refine plan_skip rfl (by decide) (by rfl) ?_; simp only [Act.put, List.setIfInBounds_toArray, List.set_cons_zero, List.set_cons_succ])))
  (refine plan_late rfl rfl (by rfl) (fun K hK => ?_); go_simp)
  (refine hK _ _ ?_; clear hK K; (try simp only [Act.put, List.setIfInBounds_toArray, List.set_cons_zero, List.set_cons_succ]))
  refine plan_done ?_
  go_wp2
  refine bodyPost_ret (v := .agg (fldC b)) (by simp [results, Try.results48, go_sem, World.cell?_setCell_same', cr3, zb5]) rfl ?_
  exact ⟨rfl, belowA⟩
theorem bel_q {h b : Bun} {kn : List Sp} {dt : List UInt8} (h1 : h.off = 0) (h2 : h.tot = 0) : belB ⟨h, kn, dt⟩ b = (decide (b.src = h.src ∧ b.crt = h.crt ∧ b.seq = h.seq ∧ 0 = h.off ∧ 0 = h.tot) && ((b.tot == (dt.length : Int)) && (decide (b.dk = h.dk ∧ b.dn = h.dn) && ((b.life == h.life) && ((b.prio == h.prio) && ((b.flags == h.flags) && eqBs (copyB b.blocks) (copyB h.blocks))))))) := by
  have e7 : eqBs (copyB b.blocks) (copyB h.blocks) = eqBs (copyB h.blocks) (copyB b.blocks) := by
    rw [Bool.eq_iff_iff, eqBs_iff, eqBs_iff]; exact eq_comm
  rw [e7, Bool.eq_iff_iff]
  unfold belB
  simp only [Bool.and_eq_true, decide_eq_true_eq, beq_iff_eq, h1, h2]
  constructor
  · rintro ⟨⟨a1, a2, a3, a4, a5, a6, a7, a8, a9⟩, h⟩
    exact ⟨⟨a1.symm, a2.symm, a3.symm, trivial, trivial⟩, a9, ⟨a4.symm, a5.symm⟩, a6.symm, a7.symm, a8.symm, h⟩
  · rintro ⟨⟨a1, a2, a3, _, _⟩, a9, ⟨a4, a5⟩, a6, a7, a8, h⟩
    exact ⟨⟨a1.symm, a2.symm, a3.symm, a4.symm, a5.symm, a6.symm, a7.symm, a8.symm, a9⟩, h⟩
set_option maxRecDepth 100000 in
set_option maxHeartbeats 4000000 in
theorem rbelongs_any (p : Par) (b : Bun) (ub uk u : Value) (w : World) (hh : RBlks w w.heap.size ub p.head.blocks) (hk : RSps w w.heap.size uk p.known) (hr : RBlks w w.heap.size u b.blocks) (hd : p.data.length ≤ maxLen) (hv : chkE p.head = 0) (ht : p.head.tot = 0) (hvb : chkE b = 0) :
    Calls Try.prog 52 #[.agg (parC p ub uk).toArray, .agg (bunC b u).toArray] w fun e w' => e = .returned (.bool (belB p b)) ∧ Below w.heap.size w w' := by
  obtain ⟨h, kn, dt⟩ := p
  simp only at hh hk hd hv ht
  obtain ⟨a, c, rfl, _⟩ := id hh
  obtain ⟨ka, kc, rfl, _⟩ := id hk
  obtain ⟨a2, c2, rfl, _⟩ := id hr
  have HH := Lib.hid hh
  have HB := Lib.hid hr
  have f1 := valid_facts hv
  have f2 := valid_facts hvb
  have HHF := Lib.hid (valid_blocks hv)
  have HBF := Lib.hid (valid_blocks hvb)
  have hhl : h.blocks.length ≤ 1000 := by omega
  have hbl : b.blocks.length ≤ 1000 := by omega
  have HQ0 := bel_q (b := b) (kn := kn) (dt := dt) (f1.2.2.2.2.2.2.2.2.1 ht) ht
  obtain ⟨Q1, h1⟩ : ∃ q, decide (b.src = h.src ∧ b.crt = h.crt ∧ b.seq = h.seq ∧ 0 = h.off ∧ 0 = h.tot) = q := ⟨_, rfl⟩
  obtain ⟨Q2, h2⟩ : ∃ q, (b.tot == (dt.length : Int)) = q := ⟨_, rfl⟩
  obtain ⟨Q3, h3⟩ : ∃ q, decide (b.dk = h.dk ∧ b.dn = h.dn) = q := ⟨_, rfl⟩
  obtain ⟨Q4, h4⟩ : ∃ q, (b.life == h.life) = q := ⟨_, rfl⟩
  obtain ⟨Q5, h5⟩ : ∃ q, (b.prio == h.prio) = q := ⟨_, rfl⟩
  obtain ⟨Q6, h6⟩ : ∃ q, (b.flags == h.flags) = q := ⟨_, rfl⟩
  obtain ⟨Q7, h7⟩ : ∃ q, eqBs (copyB b.blocks) (copyB h.blocks) = q := ⟨_, rfl⟩
  rw [h1, h2, h3, h4, h5, h6, h7] at HQ0
  have HQ := Lib.hid HQ0
  have H7 := Lib.hid h7
  obtain ⟨V, hV⟩ : ∃ q, belB ⟨h, kn, dt⟩ b = q := ⟨_, rfl⟩
  rw [hV] at HQ ⊢
  clear hh hk hr hd hv ht hvb f1 f2 HQ0 h7 hV
  go_enter Try.func52, Try.ntmps52
  simp only [parC, bunC, List.cons_append, List.nil_append]
  go_upto_region 2 with fail
  obtain ⟨w4, hw4⟩ : ∃ q, ((w.alloc (.cells #[.int .i64 h.src, .int .i64 h.crt, .int .i64 h.seq, .int .i64 h.off, .int .i64 h.tot, .int .i64 h.dk, .int .i64 h.dn, .int .i64 h.life, .int .i64 h.prio, .int .i64 h.flags, .slice a h.blocks.length c, .string (B h.payload), .slice ka kn.length kc, .string (B dt)] 31)).alloc (.cells #[.int .i64 b.src, .int .i64 b.crt, .int .i64 b.seq, .int .i64 b.off, .int .i64 b.tot, .int .i64 b.dk, .int .i64 b.dn, .int .i64 b.life, .int .i64 b.prio, .int .i64 b.flags, .slice a2 b.blocks.length c2, .string (B b.payload)] 28)).alloc (.cells #[.int .i64 h.src, .int .i64 h.crt, .int .i64 h.seq, .int .i64 h.off, .int .i64 h.tot, .int .i64 h.dk, .int .i64 h.dn, .int .i64 h.life, .int .i64 h.prio, .int .i64 h.flags, .slice a h.blocks.length c, .string (B h.payload)] 28) = q := ⟨_, rfl⟩
  have n1 : w4.heap[w.heap.size]? = some (.cells #[.int .i64 h.src, .int .i64 h.crt, .int .i64 h.seq, .int .i64 h.off, .int .i64 h.tot, .int .i64 h.dk, .int .i64 h.dn, .int .i64 h.life, .int .i64 h.prio, .int .i64 h.flags, .slice a h.blocks.length c, .string (B h.payload), .slice ka kn.length kc, .string (B dt)] 31 (0, 0)) := by rw [← hw4]; exact (Below.heap_alloc _ _ _ (by simp; omega)).trans ((Below.heap_alloc _ _ _ (by simp)).trans heap_new)
  have n2 : w4.heap[w.heap.size + 1]? = some (.cells #[.int .i64 b.src, .int .i64 b.crt, .int .i64 b.seq, .int .i64 b.off, .int .i64 b.tot, .int .i64 b.dk, .int .i64 b.dn, .int .i64 b.life, .int .i64 b.prio, .int .i64 b.flags, .slice a2 b.blocks.length c2, .string (B b.payload)] 28 (0, 0)) := by rw [← hw4]; exact (Below.heap_alloc _ _ _ (by simp)).trans (heap_new' (by simp))
  have n3 : w4.heap[w.heap.size + 2]? = some (.cells #[.int .i64 h.src, .int .i64 h.crt, .int .i64 h.seq, .int .i64 h.off, .int .i64 h.tot, .int .i64 h.dk, .int .i64 h.dn, .int .i64 h.life, .int .i64 h.prio, .int .i64 h.flags, .slice a h.blocks.length c, .string (B h.payload)] 28 (0, 0)) := by rw [← hw4]; exact heap_new' (by simp)
  have b4 : Below w.heap.size w w4 := by rw [← hw4]; exact belowA
  have z4 : w4.heap.size = w.heap.size + 3 := by rw [← hw4]; simp
  rw [hw4]
  clear hw4
  have c1 := fun o => cellB n1 o
  have c2' := fun o => cellB n2 o
  have c3 := fun o => cellB n3 o
  have zb1 : w.heap.size < w4.heap.size := by omega
  have zb2 : w.heap.size + 1 < w4.heap.size := by omega
  have zb3 : w.heap.size + 2 < w4.heap.size := by omega
  clear n1 n2 n3
  cases Q1 with
  | false =>
    refine wp_region_plan (fun V => Below (w4).heap.size (w4) V) [0, 1, 2, 0, 1, 0, 0, 0, 0, 1, 0, 1, 0, 0, 0, 0, 0, 1, 0, 1, 0, 0, 0, 0, 1, 0, 1, 0, 0, 0, 0, 1, 0, 1, 0, 0, 0, 0, 1, 0, 1, 0, 0, 0, 0, 1, 2, 0, 1, 3, 3, 0, 0] [0, 1, 3, 4, 2, 5, 6, 7, 8, 9, 10, 11, 12, 13, 14, 15, 16, 17, 18, 19, 20, 21, 22, 23, 24, 25, 26, 27, 28, 29, 30, 31, 32, 33, 34, 35, 36, 37, 38, 39, 40, 41, 42, 43, 44, 45, 47, 48, 46, 49, 50, 51, 52] (by kernel_rfl) (by kernel_rfl) ?_ ?_
    case refine_1 => exact belowA
    (iterate 4 (first | (refine plan_held rfl (by decide) (by rfl) (fun w1 hS => by (try (obtain ⟨_, _⟩ := bcell (hS rfl))); go_simp; rfl) ?_; simp only [Act.put, List.setIfInBounds_toArray, List.set_cons_zero, List.set_cons_succ]) | (refine plan_skip rfl (by decide) (by rfl) ?_; simp only [Act.put, List.setIfInBounds_toArray, List.set_cons_zero, List.set_cons_succ])))
    (refine plan_keep rfl rfl (by rfl) (fun K hK => ?_); go_simp)
    refine (rparent_any b.src b.crt b.seq b.off b.tot _).mono ?_
    unfold idV
    rintro e wc10 ⟨rfl, hbc10⟩
    (refine hK _ _ (by exact belowA) ?_; clear hK K; (try simp only [Act.put, List.setIfInBounds_toArray, List.set_cons_zero, List.set_cons_succ]))
    (iterate 43 (first | (refine plan_held rfl (by decide) (by rfl) (fun w1 hS => by (try (obtain ⟨_, _⟩ := bcell (hS rfl))); go_simp; rfl) ?_; simp only [Act.put, List.setIfInBounds_toArray, List.set_cons_zero, List.set_cons_succ]) | (refine plan_skip rfl (by decide) (by rfl) ?_; simp only [Act.put, List.setIfInBounds_toArray, List.set_cons_zero, List.set_cons_succ])))
    (refine plan_skipK rfl (by decide) (by rfl) belowA ?_; simp only [Act.put, List.setIfInBounds_toArray, List.set_cons_zero, List.set_cons_succ])
    (refine plan_skipL rfl (by decide) (by rfl) ?_; simp only [Act.put, List.setIfInBounds_toArray, List.set_cons_zero, List.set_cons_succ])
    (refine plan_skipL rfl (by decide) (by rfl) ?_; simp only [Act.put, List.setIfInBounds_toArray, List.set_cons_zero, List.set_cons_succ])
    (iterate 2 (first | (refine plan_held rfl (by decide) (by rfl) (fun w1 hS => by (try (obtain ⟨_, _⟩ := bcell (hS rfl))); go_simp; rfl) ?_; simp only [Act.put, List.setIfInBounds_toArray, List.set_cons_zero, List.set_cons_succ]) | (refine plan_skip rfl (by decide) (by rfl) ?_; simp only [Act.put, List.setIfInBounds_toArray, List.set_cons_zero, List.set_cons_succ])))
    refine plan_done ?_
    go_wp2
    go_ret
    rw [HQ.out]
    exact ⟨rfl, belowA⟩
  | true =>
    cases Q2 with
    | false =>
      refine wp_region_plan (fun V => Below (w4).heap.size (w4) V) [0, 1, 2, 0, 1, 0, 0, 0, 0, 1, 0, 1, 0, 0, 0, 0, 0, 1, 0, 1, 0, 0, 0, 0, 1, 0, 1, 0, 0, 0, 0, 1, 0, 1, 0, 0, 0, 0, 1, 0, 1, 0, 0, 0, 0, 1, 2, 0, 1, 3, 3, 0, 0] [0, 1, 3, 4, 2, 5, 6, 7, 8, 9, 10, 11, 12, 13, 14, 15, 16, 17, 18, 19, 20, 21, 22, 23, 24, 25, 26, 27, 28, 29, 30, 31, 32, 33, 34, 35, 36, 37, 38, 39, 40, 41, 42, 43, 44, 45, 47, 48, 46, 49, 50, 51, 52] (by kernel_rfl) (by kernel_rfl) ?_ ?_
      case refine_1 => exact belowA
      (iterate 4 (first | (refine plan_held rfl (by decide) (by rfl) (fun w1 hS => by (try (obtain ⟨_, _⟩ := bcell (hS rfl))); go_simp; rfl) ?_; simp only [Act.put, List.setIfInBounds_toArray, List.set_cons_zero, List.set_cons_succ]) | (refine plan_skip rfl (by decide) (by rfl) ?_; simp only [Act.put, List.setIfInBounds_toArray, List.set_cons_zero, List.set_cons_succ])))
      (refine plan_keep rfl rfl (by rfl) (fun K hK => ?_); go_simp)
      refine (rparent_any b.src b.crt b.seq b.off b.tot _).mono ?_
      unfold idV
      rintro e wc10 ⟨rfl, hbc10⟩
      (refine hK _ _ (by exact belowA) ?_; clear hK K; (try simp only [Act.put, List.setIfInBounds_toArray, List.set_cons_zero, List.set_cons_succ]))
      (iterate 43 (first | (refine plan_held rfl (by decide) (by rfl) (fun w1 hS => by (try (obtain ⟨_, _⟩ := bcell (hS rfl))); go_simp; rfl) ?_; simp only [Act.put, List.setIfInBounds_toArray, List.set_cons_zero, List.set_cons_succ]) | (refine plan_skip rfl (by decide) (by rfl) ?_; simp only [Act.put, List.setIfInBounds_toArray, List.set_cons_zero, List.set_cons_succ])))
      (refine plan_skipK rfl (by decide) (by rfl) belowA ?_; simp only [Act.put, List.setIfInBounds_toArray, List.set_cons_zero, List.set_cons_succ])
      (refine plan_skipL rfl (by decide) (by rfl) ?_; simp only [Act.put, List.setIfInBounds_toArray, List.set_cons_zero, List.set_cons_succ])
      (refine plan_skipL rfl (by decide) (by rfl) ?_; simp only [Act.put, List.setIfInBounds_toArray, List.set_cons_zero, List.set_cons_succ])
      (iterate 2 (first | (refine plan_held rfl (by decide) (by rfl) (fun w1 hS => by (try (obtain ⟨_, _⟩ := bcell (hS rfl))); go_simp; rfl) ?_; simp only [Act.put, List.setIfInBounds_toArray, List.set_cons_zero, List.set_cons_succ]) | (refine plan_skip rfl (by decide) (by rfl) ?_; simp only [Act.put, List.setIfInBounds_toArray, List.set_cons_zero, List.set_cons_succ])))
      refine plan_done ?_
      go_wp2
      go_ret
      rw [HQ.out]
      exact ⟨rfl, belowA⟩
    | true =>
      cases Q3 with
      | false =>
        refine wp_region_plan (fun V => Below (w4).heap.size (w4) V) [0, 1, 2, 0, 1, 0, 0, 0, 0, 1, 0, 1, 0, 0, 0, 0, 0, 1, 0, 1, 0, 0, 0, 0, 1, 0, 1, 0, 0, 0, 0, 1, 0, 1, 0, 0, 0, 0, 1, 0, 1, 0, 0, 0, 0, 1, 2, 0, 1, 3, 3, 0, 0] [0, 1, 3, 4, 2, 5, 6, 7, 8, 9, 10, 11, 12, 13, 14, 15, 16, 17, 18, 19, 20, 21, 22, 23, 24, 25, 26, 27, 28, 29, 30, 31, 32, 33, 34, 35, 36, 37, 38, 39, 40, 41, 42, 43, 44, 45, 47, 48, 46, 49, 50, 51, 52] (by kernel_rfl) (by kernel_rfl) ?_ ?_
        case refine_1 => exact belowA
        (iterate 4 (first | (refine plan_held rfl (by decide) (by rfl) (fun w1 hS => by (try (obtain ⟨_, _⟩ := bcell (hS rfl))); go_simp; rfl) ?_; simp only [Act.put, List.setIfInBounds_toArray, List.set_cons_zero, List.set_cons_succ]) | (refine plan_skip rfl (by decide) (by rfl) ?_; simp only [Act.put, List.setIfInBounds_toArray, List.set_cons_zero, List.set_cons_succ])))
        (refine plan_keep rfl rfl (by rfl) (fun K hK => ?_); go_simp)
        refine (rparent_any b.src b.crt b.seq b.off b.tot _).mono ?_
        unfold idV
        rintro e wc10 ⟨rfl, hbc10⟩
        (refine hK _ _ (by exact belowA) ?_; clear hK K; (try simp only [Act.put, List.setIfInBounds_toArray, List.set_cons_zero, List.set_cons_succ]))
        (iterate 43 (first | (refine plan_held rfl (by decide) (by rfl) (fun w1 hS => by (try (obtain ⟨_, _⟩ := bcell (hS rfl))); go_simp; rfl) ?_; simp only [Act.put, List.setIfInBounds_toArray, List.set_cons_zero, List.set_cons_succ]) | (refine plan_skip rfl (by decide) (by rfl) ?_; simp only [Act.put, List.setIfInBounds_toArray, List.set_cons_zero, List.set_cons_succ])))
        (refine plan_skipK rfl (by decide) (by rfl) belowA ?_; simp only [Act.put, List.setIfInBounds_toArray, List.set_cons_zero, List.set_cons_succ])
        (refine plan_skipL rfl (by decide) (by rfl) ?_; simp only [Act.put, List.setIfInBounds_toArray, List.set_cons_zero, List.set_cons_succ])
        (refine plan_skipL rfl (by decide) (by rfl) ?_; simp only [Act.put, List.setIfInBounds_toArray, List.set_cons_zero, List.set_cons_succ])
        (iterate 2 (first | (refine plan_held rfl (by decide) (by rfl) (fun w1 hS => by (try (obtain ⟨_, _⟩ := bcell (hS rfl))); go_simp; rfl) ?_; simp only [Act.put, List.setIfInBounds_toArray, List.set_cons_zero, List.set_cons_succ]) | (refine plan_skip rfl (by decide) (by rfl) ?_; simp only [Act.put, List.setIfInBounds_toArray, List.set_cons_zero, List.set_cons_succ])))
        refine plan_done ?_
        go_wp2
        go_ret
        rw [HQ.out]
        exact ⟨rfl, belowA⟩
      | true =>
        cases Q4 with
        | false =>
          refine wp_region_plan (fun V => Below (w4).heap.size (w4) V) [0, 1, 2, 0, 1, 0, 0, 0, 0, 1, 0, 1, 0, 0, 0, 0, 0, 1, 0, 1, 0, 0, 0, 0, 1, 0, 1, 0, 0, 0, 0, 1, 0, 1, 0, 0, 0, 0, 1, 0, 1, 0, 0, 0, 0, 1, 2, 0, 1, 3, 3, 0, 0] [0, 1, 3, 4, 2, 5, 6, 7, 8, 9, 10, 11, 12, 13, 14, 15, 16, 17, 18, 19, 20, 21, 22, 23, 24, 25, 26, 27, 28, 29, 30, 31, 32, 33, 34, 35, 36, 37, 38, 39, 40, 41, 42, 43, 44, 45, 47, 48, 46, 49, 50, 51, 52] (by kernel_rfl) (by kernel_rfl) ?_ ?_
          case refine_1 => exact belowA
          (iterate 4 (first | (refine plan_held rfl (by decide) (by rfl) (fun w1 hS => by (try (obtain ⟨_, _⟩ := bcell (hS rfl))); go_simp; rfl) ?_; simp only [Act.put, List.setIfInBounds_toArray, List.set_cons_zero, List.set_cons_succ]) | (refine plan_skip rfl (by decide) (by rfl) ?_; simp only [Act.put, List.setIfInBounds_toArray, List.set_cons_zero, List.set_cons_succ])))
          (refine plan_keep rfl rfl (by rfl) (fun K hK => ?_); go_simp)
          refine (rparent_any b.src b.crt b.seq b.off b.tot _).mono ?_
          unfold idV
          rintro e wc10 ⟨rfl, hbc10⟩
          (refine hK _ _ (by exact belowA) ?_; clear hK K; (try simp only [Act.put, List.setIfInBounds_toArray, List.set_cons_zero, List.set_cons_succ]))
          (iterate 43 (first | (refine plan_held rfl (by decide) (by rfl) (fun w1 hS => by (try (obtain ⟨_, _⟩ := bcell (hS rfl))); go_simp; rfl) ?_; simp only [Act.put, List.setIfInBounds_toArray, List.set_cons_zero, List.set_cons_succ]) | (refine plan_skip rfl (by decide) (by rfl) ?_; simp only [Act.put, List.setIfInBounds_toArray, List.set_cons_zero, List.set_cons_succ])))
          (refine plan_skipK rfl (by decide) (by rfl) belowA ?_; simp only [Act.put, List.setIfInBounds_toArray, List.set_cons_zero, List.set_cons_succ])
          (refine plan_skipL rfl (by decide) (by rfl) ?_; simp only [Act.put, List.setIfInBounds_toArray, List.set_cons_zero, List.set_cons_succ])
          (refine plan_skipL rfl (by decide) (by rfl) ?_; simp only [Act.put, List.setIfInBounds_toArray, List.set_cons_zero, List.set_cons_succ])
          (iterate 2 (first | (refine plan_held rfl (by decide) (by rfl) (fun w1 hS => by (try (obtain ⟨_, _⟩ := bcell (hS rfl))); go_simp; rfl) ?_; simp only [Act.put, List.setIfInBounds_toArray, List.set_cons_zero, List.set_cons_succ]) | (refine plan_skip rfl (by decide) (by rfl) ?_; simp only [Act.put, List.setIfInBounds_toArray, List.set_cons_zero, List.set_cons_succ])))
          refine plan_done ?_
          go_wp2
          go_ret
          rw [HQ.out]
          exact ⟨rfl, belowA⟩
        | true =>
          cases Q5 with
          | false =>
            refine wp_region_plan (fun V => Below (w4).heap.size (w4) V) [0, 1, 2, 0, 1, 0, 0, 0, 0, 1, 0, 1, 0, 0, 0, 0, 0, 1, 0, 1, 0, 0, 0, 0, 1, 0, 1, 0, 0, 0, 0, 1, 0, 1, 0, 0, 0, 0, 1, 0, 1, 0, 0, 0, 0, 1, 2, 0, 1, 3, 3, 0, 0] [0, 1, 3, 4, 2, 5, 6, 7, 8, 9, 10, 11, 12, 13, 14, 15, 16, 17, 18, 19, 20, 21, 22, 23, 24, 25, 26, 27, 28, 29, 30, 31, 32, 33, 34, 35, 36, 37, 38, 39, 40, 41, 42, 43, 44, 45, 47, 48, 46, 49, 50, 51, 52] (by kernel_rfl) (by kernel_rfl) ?_ ?_
            case refine_1 => exact belowA
            (iterate 4 (first | (refine plan_held rfl (by decide) (by rfl) (fun w1 hS => by (try (obtain ⟨_, _⟩ := bcell (hS rfl))); go_simp; rfl) ?_; simp only [Act.put, List.setIfInBounds_toArray, List.set_cons_zero, List.set_cons_succ]) | (refine plan_skip rfl (by decide) (by rfl) ?_; simp only [Act.put, List.setIfInBounds_toArray, List.set_cons_zero, List.set_cons_succ])))
            (refine plan_keep rfl rfl (by rfl) (fun K hK => ?_); go_simp)
            refine (rparent_any b.src b.crt b.seq b.off b.tot _).mono ?_
            unfold idV
            rintro e wc10 ⟨rfl, hbc10⟩
            (refine hK _ _ (by exact belowA) ?_; clear hK K; (try simp only [Act.put, List.setIfInBounds_toArray, List.set_cons_zero, List.set_cons_succ]))
            (iterate 43 (first | (refine plan_held rfl (by decide) (by rfl) (fun w1 hS => by (try (obtain ⟨_, _⟩ := bcell (hS rfl))); go_simp; rfl) ?_; simp only [Act.put, List.setIfInBounds_toArray, List.set_cons_zero, List.set_cons_succ]) | (refine plan_skip rfl (by decide) (by rfl) ?_; simp only [Act.put, List.setIfInBounds_toArray, List.set_cons_zero, List.set_cons_succ])))
            (refine plan_skipK rfl (by decide) (by rfl) belowA ?_; simp only [Act.put, List.setIfInBounds_toArray, List.set_cons_zero, List.set_cons_succ])
            (refine plan_skipL rfl (by decide) (by rfl) ?_; simp only [Act.put, List.setIfInBounds_toArray, List.set_cons_zero, List.set_cons_succ])
            (refine plan_skipL rfl (by decide) (by rfl) ?_; simp only [Act.put, List.setIfInBounds_toArray, List.set_cons_zero, List.set_cons_succ])
            (iterate 2 (first | (refine plan_held rfl (by decide) (by rfl) (fun w1 hS => by (try (obtain ⟨_, _⟩ := bcell (hS rfl))); go_simp; rfl) ?_; simp only [Act.put, List.setIfInBounds_toArray, List.set_cons_zero, List.set_cons_succ]) | (refine plan_skip rfl (by decide) (by rfl) ?_; simp only [Act.put, List.setIfInBounds_toArray, List.set_cons_zero, List.set_cons_succ])))
            refine plan_done ?_
            go_wp2
            go_ret
            rw [HQ.out]
            exact ⟨rfl, belowA⟩
          | true =>
            cases Q6 with
            | false =>
              refine wp_region_plan (fun V => Below (w4).heap.size (w4) V) [0, 1, 2, 0, 1, 0, 0, 0, 0, 1, 0, 1, 0, 0, 0, 0, 0, 1, 0, 1, 0, 0, 0, 0, 1, 0, 1, 0, 0, 0, 0, 1, 0, 1, 0, 0, 0, 0, 1, 0, 1, 0, 0, 0, 0, 1, 2, 0, 1, 3, 3, 0, 0] [0, 1, 3, 4, 2, 5, 6, 7, 8, 9, 10, 11, 12, 13, 14, 15, 16, 17, 18, 19, 20, 21, 22, 23, 24, 25, 26, 27, 28, 29, 30, 31, 32, 33, 34, 35, 36, 37, 38, 39, 40, 41, 42, 43, 44, 45, 47, 48, 46, 49, 50, 51, 52] (by kernel_rfl) (by kernel_rfl) ?_ ?_
              case refine_1 => exact belowA
              (iterate 4 (first | (refine plan_held rfl (by decide) (by rfl) (fun w1 hS => by (try (obtain ⟨_, _⟩ := bcell (hS rfl))); go_simp; rfl) ?_; simp only [Act.put, List.setIfInBounds_toArray, List.set_cons_zero, List.set_cons_succ]) | (refine plan_skip rfl (by decide) (by rfl) ?_; simp only [Act.put, List.setIfInBounds_toArray, List.set_cons_zero, List.set_cons_succ])))
              (refine plan_keep rfl rfl (by rfl) (fun K hK => ?_); go_simp)
              refine (rparent_any b.src b.crt b.seq b.off b.tot _).mono ?_
              unfold idV
              rintro e wc10 ⟨rfl, hbc10⟩
              (refine hK _ _ (by exact belowA) ?_; clear hK K; (try simp only [Act.put, List.setIfInBounds_toArray, List.set_cons_zero, List.set_cons_succ]))
              (iterate 43 (first | (refine plan_held rfl (by decide) (by rfl) (fun w1 hS => by (try (obtain ⟨_, _⟩ := bcell (hS rfl))); go_simp; rfl) ?_; simp only [Act.put, List.setIfInBounds_toArray, List.set_cons_zero, List.set_cons_succ]) | (refine plan_skip rfl (by decide) (by rfl) ?_; simp only [Act.put, List.setIfInBounds_toArray, List.set_cons_zero, List.set_cons_succ])))
              (refine plan_skipK rfl (by decide) (by rfl) belowA ?_; simp only [Act.put, List.setIfInBounds_toArray, List.set_cons_zero, List.set_cons_succ])
              (refine plan_skipL rfl (by decide) (by rfl) ?_; simp only [Act.put, List.setIfInBounds_toArray, List.set_cons_zero, List.set_cons_succ])
              (refine plan_skipL rfl (by decide) (by rfl) ?_; simp only [Act.put, List.setIfInBounds_toArray, List.set_cons_zero, List.set_cons_succ])
              (iterate 2 (first | (refine plan_held rfl (by decide) (by rfl) (fun w1 hS => by (try (obtain ⟨_, _⟩ := bcell (hS rfl))); go_simp; rfl) ?_; simp only [Act.put, List.setIfInBounds_toArray, List.set_cons_zero, List.set_cons_succ]) | (refine plan_skip rfl (by decide) (by rfl) ?_; simp only [Act.put, List.setIfInBounds_toArray, List.set_cons_zero, List.set_cons_succ])))
              refine plan_done ?_
              go_wp2
              go_ret
              rw [HQ.out]
              exact ⟨rfl, belowA⟩
            | true =>
              cases Q7 with
              | false =>
                refine wp_region_plan (fun V => Below (w4).heap.size (w4) V) [0, 1, 2, 0, 1, 0, 0, 0, 0, 1, 0, 1, 0, 0, 0, 0, 0, 1, 0, 1, 0, 0, 0, 0, 1, 0, 1, 0, 0, 0, 0, 1, 0, 1, 0, 0, 0, 0, 1, 0, 1, 0, 0, 0, 0, 1, 2, 0, 1, 3, 3, 0, 0] [0, 1, 3, 4, 2, 5, 6, 7, 8, 9, 10, 11, 12, 13, 14, 15, 16, 17, 18, 19, 20, 21, 22, 23, 24, 25, 26, 27, 28, 29, 30, 31, 32, 33, 34, 35, 36, 37, 38, 39, 40, 41, 42, 43, 44, 45, 47, 48, 46, 49, 50, 51, 52] (by kernel_rfl) (by kernel_rfl) ?_ ?_
                case refine_1 => exact belowA
                (iterate 4 (first | (refine plan_held rfl (by decide) (by rfl) (fun w1 hS => by (try (obtain ⟨_, _⟩ := bcell (hS rfl))); go_simp; rfl) ?_; simp only [Act.put, List.setIfInBounds_toArray, List.set_cons_zero, List.set_cons_succ]) | (refine plan_skip rfl (by decide) (by rfl) ?_; simp only [Act.put, List.setIfInBounds_toArray, List.set_cons_zero, List.set_cons_succ])))
                (refine plan_keep rfl rfl (by rfl) (fun K hK => ?_); go_simp)
                refine (rparent_any b.src b.crt b.seq b.off b.tot _).mono ?_
                unfold idV
                rintro e wc10 ⟨rfl, hbc10⟩
                (refine hK _ _ (by exact belowA) ?_; clear hK K; (try simp only [Act.put, List.setIfInBounds_toArray, List.set_cons_zero, List.set_cons_succ]))
                (iterate 43 (first | (refine plan_held rfl (by decide) (by rfl) (fun w1 hS => by (try (obtain ⟨_, _⟩ := bcell (hS rfl))); go_simp; rfl) ?_; simp only [Act.put, List.setIfInBounds_toArray, List.set_cons_zero, List.set_cons_succ]) | (refine plan_skip rfl (by decide) (by rfl) ?_; simp only [Act.put, List.setIfInBounds_toArray, List.set_cons_zero, List.set_cons_succ])))
                (refine plan_keep rfl rfl (by rfl) (fun K hK => ?_); go_simp)
                refine (rcopied_any b.blocks _ _ (HB.out.below (C := w.heap.size) (btrans0 b4 belowA) (Nat.le_refl _) (Below.size (btrans0 b4 belowA))) HBF.out hbl).mono ?_
                rintro e wc54 ⟨r1, rfl, hr1, hf1, hbc54⟩
                obtain ⟨ra1, rc1, rfl⟩ : ∃ ra rc, r1 = .slice ra (copyB b.blocks).length rc := by obtain ⟨a, c, h, _⟩ := hr1; exact ⟨a, c, h⟩
                have HR1 := Lib.hid hr1
                clear hr1 hf1
                (refine hK _ _ (by exact belowA) ?_; clear hK K; (try simp only [Act.put, List.setIfInBounds_toArray, List.set_cons_zero, List.set_cons_succ]))
                (refine plan_late rfl rfl (by rfl) (fun K hK => ?_); go_simp)
                refine (rcopied_any h.blocks _ _ (HH.out.below (C := w.heap.size) (btrans0 b4 belowA) (Nat.le_refl _) (Below.size (btrans0 b4 belowA))) HHF.out hhl).mono ?_
                rintro e wc57 ⟨r2, rfl, hr2, hf2, hbc57⟩
                obtain ⟨ra2, rc2, rfl⟩ : ∃ ra rc, r2 = .slice ra (copyB h.blocks).length rc := by obtain ⟨a, c, h, _⟩ := hr2; exact ⟨a, c, h⟩
                have HR2 := Lib.hid hr2
                have HR1' := Lib.hid (HR1.out.up hbc57)
                clear hr2 hf2
                (refine hK _ _ ?_; clear hK K; (try simp only [Act.put, List.setIfInBounds_toArray, List.set_cons_zero, List.set_cons_succ]))
                (refine plan_late rfl rfl (by rfl) (fun K hK => ?_); go_simp)
                refine (reqB_any (copyB b.blocks) (copyB h.blocks) _ _ _ HR1'.out HR2.out).mono ?_
                rw [H7.out]
                rintro e wc58 ⟨rfl, hbc58⟩
                (refine hK _ _ ?_; clear hK K; (try simp only [Act.put, List.setIfInBounds_toArray, List.set_cons_zero, List.set_cons_succ]))
                (iterate 2 (first | (refine plan_held rfl (by decide) (by rfl) (fun w1 hS => by (try (obtain ⟨_, _⟩ := bcell (hS rfl))); go_simp; rfl) ?_; simp only [Act.put, List.setIfInBounds_toArray, List.set_cons_zero, List.set_cons_succ]) | (refine plan_skip rfl (by decide) (by rfl) ?_; simp only [Act.put, List.setIfInBounds_toArray, List.set_cons_zero, List.set_cons_succ])))
                refine plan_done ?_
                go_wp2
                go_ret
                rw [HQ.out]
                exact ⟨rfl, belowA⟩
              | true =>
                refine wp_region_plan (fun V => Below (w4).heap.size (w4) V) [0, 1, 2, 0, 1, 0, 0, 0, 0, 1, 0, 1, 0, 0, 0, 0, 0, 1, 0, 1, 0, 0, 0, 0, 1, 0, 1, 0, 0, 0, 0, 1, 0, 1, 0, 0, 0, 0, 1, 0, 1, 0, 0, 0, 0, 1, 2, 0, 1, 3, 3, 0, 0] [0, 1, 3, 4, 2, 5, 6, 7, 8, 9, 10, 11, 12, 13, 14, 15, 16, 17, 18, 19, 20, 21, 22, 23, 24, 25, 26, 27, 28, 29, 30, 31, 32, 33, 34, 35, 36, 37, 38, 39, 40, 41, 42, 43, 44, 45, 47, 48, 46, 49, 50, 51, 52] (by kernel_rfl) (by kernel_rfl) ?_ ?_
                case refine_1 => exact belowA
                (iterate 4 (first | (refine plan_held rfl (by decide) (by rfl) (fun w1 hS => by (try (obtain ⟨_, _⟩ := bcell (hS rfl))); go_simp; rfl) ?_; simp only [Act.put, List.setIfInBounds_toArray, List.set_cons_zero, List.set_cons_succ]) | (refine plan_skip rfl (by decide) (by rfl) ?_; simp only [Act.put, List.setIfInBounds_toArray, List.set_cons_zero, List.set_cons_succ])))
                (refine plan_keep rfl rfl (by rfl) (fun K hK => ?_); go_simp)
                refine (rparent_any b.src b.crt b.seq b.off b.tot _).mono ?_
                unfold idV
                rintro e wc10 ⟨rfl, hbc10⟩
                (refine hK _ _ (by exact belowA) ?_; clear hK K; (try simp only [Act.put, List.setIfInBounds_toArray, List.set_cons_zero, List.set_cons_succ]))
                (iterate 43 (first | (refine plan_held rfl (by decide) (by rfl) (fun w1 hS => by (try (obtain ⟨_, _⟩ := bcell (hS rfl))); go_simp; rfl) ?_; simp only [Act.put, List.setIfInBounds_toArray, List.set_cons_zero, List.set_cons_succ]) | (refine plan_skip rfl (by decide) (by rfl) ?_; simp only [Act.put, List.setIfInBounds_toArray, List.set_cons_zero, List.set_cons_succ])))
                (refine plan_keep rfl rfl (by rfl) (fun K hK => ?_); go_simp)
                refine (rcopied_any b.blocks _ _ (HB.out.below (C := w.heap.size) (btrans0 b4 belowA) (Nat.le_refl _) (Below.size (btrans0 b4 belowA))) HBF.out hbl).mono ?_
                rintro e wc54 ⟨r1, rfl, hr1, hf1, hbc54⟩
                obtain ⟨ra1, rc1, rfl⟩ : ∃ ra rc, r1 = .slice ra (copyB b.blocks).length rc := by obtain ⟨a, c, h, _⟩ := hr1; exact ⟨a, c, h⟩
                have HR1 := Lib.hid hr1
                clear hr1 hf1
                (refine hK _ _ (by exact belowA) ?_; clear hK K; (try simp only [Act.put, List.setIfInBounds_toArray, List.set_cons_zero, List.set_cons_succ]))
                (refine plan_late rfl rfl (by rfl) (fun K hK => ?_); go_simp)
                refine (rcopied_any h.blocks _ _ (HH.out.below (C := w.heap.size) (btrans0 b4 belowA) (Nat.le_refl _) (Below.size (btrans0 b4 belowA))) HHF.out hhl).mono ?_
                rintro e wc57 ⟨r2, rfl, hr2, hf2, hbc57⟩
                obtain ⟨ra2, rc2, rfl⟩ : ∃ ra rc, r2 = .slice ra (copyB h.blocks).length rc := by obtain ⟨a, c, h, _⟩ := hr2; exact ⟨a, c, h⟩
                have HR2 := Lib.hid hr2
                have HR1' := Lib.hid (HR1.out.up hbc57)
                clear hr2 hf2
                (refine hK _ _ ?_; clear hK K; (try simp only [Act.put, List.setIfInBounds_toArray, List.set_cons_zero, List.set_cons_succ]))
                (refine plan_late rfl rfl (by rfl) (fun K hK => ?_); go_simp)
                refine (reqB_any (copyB b.blocks) (copyB h.blocks) _ _ _ HR1'.out HR2.out).mono ?_
                rw [H7.out]
                rintro e wc58 ⟨rfl, hbc58⟩
                (refine hK _ _ ?_; clear hK K; (try simp only [Act.put, List.setIfInBounds_toArray, List.set_cons_zero, List.set_cons_succ]))
                (iterate 2 (first | (refine plan_held rfl (by decide) (by rfl) (fun w1 hS => by (try (obtain ⟨_, _⟩ := bcell (hS rfl))); go_simp; rfl) ?_; simp only [Act.put, List.setIfInBounds_toArray, List.set_cons_zero, List.set_cons_succ]) | (refine plan_skip rfl (by decide) (by rfl) ?_; simp only [Act.put, List.setIfInBounds_toArray, List.set_cons_zero, List.set_cons_succ])))
                refine plan_done ?_
                go_wp2
                go_ret
                rw [HQ.out]
                exact ⟨rfl, belowA⟩
end Go.Proofs.Ytpnfkmlgelcbgaa
