/- Joined by port.py: XSp XSr XSs -/
import Derived.BigQuiet
import Derived.BigRegion
import Derived.Deep.DeepCutAuto
import Derived.Deep.CutBlock
import Derived.Test.YtmknchdciblfjaaGreatSm
import Derived.Test.YtmknchdciblfjaaGreatJa
import Derived.Test.YtmknchdciblfjaaGreatJb
import Derived.Test.YtmknchdciblfjaaGreatJc
import Derived.Test.YtmknchdciblfjaaGreatJd
import Derived.Test.YtmknchdciblfjaaGreatJe
import Derived.Test.YtmknchdciblfjaaGreatJh
import Derived.Test.YtmknchdciblfjaaGreatJm
import Derived.Test.YtmknchdciblfjaaGreatJo
import Derived.Test.YtmknchdciblfjaaGreatJp
import Derived.Test.YtmknchdciblfjaaGreatJqz
import Derived.Test.YtmknchdciblfjaaGreatKaz
import Derived.Test.YtmknchdciblfjaaGreatJw
import Derived.Test.YtmknchdciblfjaaGreatSb
import Derived.Test.YtmknchdciblfjaaGreatSz
import Derived.Test.YtmknchdciblfjaaGreatSi
import Derived.Test.YtmknchdciblfjaaGreatSkz
import Derived.Test.YtmknchdciblfjaaGreatRT
import Derived.Test.YtmknchdciblfjaaGreatKf
set_option linter.unusedVariables false
set_option linter.unusedSimpArgs false
/-! XSp -/
namespace Go.Proofs.YtmknchdciblfjaaGreat
open Go Go.RowKit Iv
attribute [local go_sem] Oper.semAt_some
attribute [local go_sem] B_getElem B_size B_app B_extract B_get B_toList
section
variable {P : Program} {Q : Exit → Act → World → Prop} {S : World → Prop} {kd : List Nat}
end
/-- the cells of a partial bundle, in a box -/
theorem chkP_1 {p : Par} (h : chkE p.head ≠ 0 ∨ 0 < p.head.tot ∨ p.head.payload ≠ [] ∨ hasF p.head.flags 2 = true) : chkP p = 1 := if_pos h
theorem chkP_2 {p : Par} (n1 : ¬ (chkE p.head ≠ 0 ∨ 0 < p.head.tot ∨ p.head.payload ≠ [] ∨ hasF p.head.flags 2 = true)) (h : p.data.length < 1 ∨ 4096 < p.data.length) : chkP p = 4 := (if_neg n1).trans (if_pos h)
theorem chkP_3 {p : Par} (n1 : ¬ (chkE p.head ≠ 0 ∨ 0 < p.head.tot ∨ p.head.payload ≠ [] ∨ hasF p.head.flags 2 = true)) (n2 : ¬ (p.data.length < 1 ∨ 4096 < p.data.length)) (h : chkSp p.known ≠ 0) : chkP p = chkSp p.known := (if_neg n1).trans ((if_neg n2).trans (if_pos h))
theorem chkP_4 {p : Par} (n1 : ¬ (chkE p.head ≠ 0 ∨ 0 < p.head.tot ∨ p.head.payload ≠ [] ∨ hasF p.head.flags 2 = true)) (n2 : ¬ (p.data.length < 1 ∨ 4096 < p.data.length)) (n3 : ¬ chkSp p.known ≠ 0) (h : rngBad p.known p.data.length = true) : chkP p = 2 := (if_neg n1).trans ((if_neg n2).trans ((if_neg n3).trans (if_pos h)))
theorem chkP_5 {p : Par} (n1 : ¬ (chkE p.head ≠ 0 ∨ 0 < p.head.tot ∨ p.head.payload ≠ [] ∨ hasF p.head.flags 2 = true)) (n2 : ¬ (p.data.length < 1 ∨ 4096 < p.data.length)) (n3 : ¬ chkSp p.known ≠ 0) (n4 : ¬ rngBad p.known p.data.length = true) (h : dataBad p.data p.known = true) : chkP p = 10 := (if_neg n1).trans ((if_neg n2).trans ((if_neg n3).trans ((if_neg n4).trans (if_pos h))))
theorem chkP_6 {p : Par} (n1 : ¬ (chkE p.head ≠ 0 ∨ 0 < p.head.tot ∨ p.head.payload ≠ [] ∨ hasF p.head.flags 2 = true)) (n2 : ¬ (p.data.length < 1 ∨ 4096 < p.data.length)) (n3 : ¬ chkSp p.known ≠ 0) (n4 : ¬ rngBad p.known p.data.length = true) (n5 : ¬ dataBad p.data p.known = true) : chkP p = if 0 < fromS p.known ∧ (copyB p.head.blocks).length ≠ p.head.blocks.length then 10 else 0 := (if_neg n1).trans ((if_neg n2).trans ((if_neg n3).trans ((if_neg n4).trans (if_neg n5))))
theorem rng_at {l : List Sp} {n : Int} {x y : Sp} (h0 : l[0]? = some x) (h1 : l[l.length - 1]? = some y) : rngBad l n = (decide (x.1 < 0) || decide (n < y.2)) := by unfold rngBad; rw [h0, h1]
theorem from_at {l : List Sp} {x : Sp} (h : l[0]? = some x) : fromS l = x.1 := by unfold fromS; rw [h]
theorem dataBad_at {d : List UInt8} {l : List Sp} {i : Nat} {y : UInt8} (h : d[i]? = some y) (h1 : y ≠ 0) (h2 : inS l i = false) : dataBad d l = true := by
  have hi : i < d.length := by
    rcases Nat.lt_or_ge i d.length with z | z
    · exact z
    · rw [List.getElem?_eq_none z] at h; cases h
  unfold dataBad
  refine List.any_eq_true.2 ⟨i, List.mem_range.2 hi, ?_⟩
  rw [List.getD_eq_getElem?_getD, h, h2]
  simpa using h1
theorem dataBad_no {d : List UInt8} {l : List Sp} (h : ∀ i, i < d.length → d.getD i 0 = 0 ∨ inS l i = true) : ¬ dataBad d l = true := by
  intro hb
  unfold dataBad at hb
  obtain ⟨i, hi, h2⟩ := List.any_eq_true.1 hb
  rcases h i (List.mem_range.1 hi) with e | e <;> simp only [e] at h2 <;> simp at h2
theorem nf_drop : ∀ (m : Nat) {l : List Sp} {b : Int}, NF b l → ∃ b', NF b' (l.drop m)
  | 0, l, b, h => ⟨b, h⟩
  | m + 1, [], b, h => ⟨b, h⟩
  | m + 1, x :: r, b, h => nf_drop m (l := r) h.2.2
theorem inS_at {l : List Sp} {b : Int} {m : Nat} {t : Int} (h : NF b l) (h1 : ∀ x ∈ l.take m, x.2 ≤ t) (h2 : ∀ x, l[m]? = some x → t < x.2) : inS l t = match l[m]? with
    | some x => decide (x.1 ≤ t)
    | none => false := by
  have e0 : inS (l.take m) t = false := by
    rw [← Bool.not_eq_true, inS_iff]
    rintro ⟨x, hx, _, h4⟩
    have := h1 x hx
    omega
  have e : inS l t = inS (l.take m ++ l.drop m) t := by rw [List.take_append_drop]
  rw [e, inS_append, e0, Bool.false_or]
  rcases Nat.lt_or_ge m l.length with z | z
  · obtain ⟨x, hx⟩ : ∃ x, l[m]? = some x := ⟨_, List.getElem?_eq_getElem z⟩
    obtain ⟨b', hb⟩ := nf_drop m h
    have hd : l.drop m = x :: l.drop (m + 1) := by
      rw [List.drop_eq_getElem_cons z]
      rw [List.getElem?_eq_getElem z] at hx
      rw [Option.some.inj hx]
    rw [hx, hd, inS_cons]
    rw [hd] at hb
    have h3 := h2 x hx
    rw [NF.out hb.2.2 (by omega), decide_eq_true h3]
    simp
  · rw [List.getElem?_eq_none z, List.drop_of_length_le z]; rfl
def slLen : Value → Nat
  | .slice _ n _ => n
  | _ => 0
def KV (kn : List Sp) (kb ko : Nat) (kv : Value) (m : Nat) : Prop := ∃ ad c', kv = .slice ad (kn.length - m) c' ∧ kn.length - m ≤ c' ∧ (m < kn.length → ad = some ⟨kb, ko + m * 2, none⟩)
set_option maxRecDepth 100000 in
set_option maxHeartbeats 32000000 in
theorem chkP_any (p : Par) (ub uk : Value) (w : World) (h : RBlks w w.heap.size ub p.head.blocks) (k : RSps w w.heap.size uk p.known) (hf : Fits p.head) (hd : p.data.length ≤ maxLen) :
    Calls Tryz.prog 84 #[.agg (parC p ub uk).toArray] w fun e w' => e = .returned (.int .i64 (chkP p)) ∧ Below w.heap.size w w' := by
  obtain ⟨b, kn, dt⟩ := p
  simp only at h k hf hd
  unfold maxLen at hd
  obtain ⟨a, c, rfl, _⟩ := id h
  obtain ⟨ka, kc, rfl, kh1, kh2, kh3, kh4⟩ := id k
  unfold maxLen at kh2
  have HR := Lib.hid h
  have HK := Lib.hid k
  have HF := Lib.hid hf
  have K4 := Lib.hid kh4
  clear h k hf kh3 kh4
  obtain ⟨V, hV⟩ : ∃ q, chkP ⟨b, kn, dt⟩ = q := ⟨_, rfl⟩
  have HVV := Lib.hid hV
  rw [hV]
  clear hV
  obtain ⟨E, hE⟩ : ∃ q, chkE b = q := ⟨_, rfl⟩
  have HE := Lib.hid hE
  go_enter Tryz.func84, Tryz.ntmps84
  simp only [parC, bunC, List.cons_append, List.nil_append]
  go_wp2_with fail
  refine (check_any b _ _ (HR.out.below (C := w.heap.size) (by exact belowA) (Nat.le_refl _) (by simp)) HF.out).mono ?_
  rw [HE.out]
  rintro e w1 ⟨rfl, hb1⟩
  have bw1 : Below w.heap.size w w1 := btrans0 (by exact belowA) hb1
  have zw1 : w.heap.size < w1.heap.size := by have := hb1.size; (try simp at this); omega
  have Pw1 : Hid (w1.heap[w.heap.size]? = some (.cells #[.int .i64 b.src, .int .i64 b.crt, .int .i64 b.seq, .int .i64 b.off, .int .i64 b.tot, .int .i64 b.dk, .int .i64 b.dn, .int .i64 b.life, .int .i64 b.prio, .int .i64 b.flags, .slice a b.blocks.length c, .string (B b.payload), .slice ka kn.length kc, .string (B dt)] 81 (0, 0))) := Lib.hid ((hb1.block _ (by simp)).trans heap_new)
  have cp := fun o => cellB Pw1.out o
  clear hb1
  by_cases z : E = 0
  case neg =>
    have HV : Hid (V = 1) := Lib.hid (by rw [← HVV.out]; exact chkP_1 (.inl (by rw [hE]; exact z)))
    have z' : (E != 0) = true := by rw [bne_iff_ne]; exact z
    clear hE z
    go_wp2
    go_ret
    rw [HV.out]
    exact ⟨rfl, belowA⟩
  subst z
  have hv := valid_facts hE
  go_wp2_with fail
  refine (isfrag_any b _ _ (HR.out.below (C := w.heap.size) bw1 (Nat.le_refl _) (by omega))).mono ?_
  rintro e w2 ⟨rfl, hb2⟩
  have bw2 : Below w.heap.size w w2 := btrans0 bw1 hb2
  have zw2 : w.heap.size < w2.heap.size := by have := hb2.size; (try simp at this); omega
  have Pw2 : Hid (w2.heap[w.heap.size]? = some (.cells #[.int .i64 b.src, .int .i64 b.crt, .int .i64 b.seq, .int .i64 b.off, .int .i64 b.tot, .int .i64 b.dk, .int .i64 b.dn, .int .i64 b.life, .int .i64 b.prio, .int .i64 b.flags, .slice a b.blocks.length c, .string (B b.payload), .slice ka kn.length kc, .string (B dt)] 81 (0, 0))) := Lib.hid ((hb2.block _ zw1).trans Pw1.out)
  clear cp
  have cp := fun o => cellB Pw2.out o
  clear hb2
  by_cases t : 0 < b.tot
  · have HV : Hid (V = 1) := Lib.hid (by rw [← HVV.out]; exact chkP_1 (.inr (.inl t)))
    have t' : decide (b.tot > 0) = true := decide_eq_true t
    clear hv hE t
    go_wp2
    go_ret
    rw [HV.out]
    exact ⟨rfl, belowA⟩
  have t' : decide (b.tot > 0) = false := decide_eq_false t
  by_cases hp : b.payload = []
  case neg =>
    have HV : Hid (V = 1) := Lib.hid (by rw [← HVV.out]; exact chkP_1 (.inr (.inr (.inl hp))))
    obtain ⟨y, r, hy⟩ := List.exists_cons_of_ne_nil hp
    have n1 : ((y :: r) == ([] : List UInt8)) = false := rfl
    have n2 : (!((y :: r) == ([] : List UInt8))) = true := rfl
    have n3 : ¬ (y :: r) = ([] : List UInt8) := fun e => by cases e
    rw [hy] at cp ⊢
    clear hv hE t hp hy
    go_wp2
    go_ret
    rw [HV.out]
    exact ⟨rfl, belowA⟩
  by_cases hf2 : hasF b.flags 2 = true
  · have HV : Hid (V = 1) := Lib.hid (by rw [← HVV.out]; exact chkP_1 (.inr (.inr (.inr hf2))))
    have haf := (and_flag b.flags hv.2.2.2.2.2.1 hv.2.2.2.2.2.2.1).2.2
    rw [hf2] at haf
    rw [hp] at cp ⊢
    clear hv hE t hp hf2
    go_wp2
    go_ret
    rw [HV.out]
    exact ⟨rfl, belowA⟩
  have haf := (and_flag b.flags hv.2.2.2.2.2.1 hv.2.2.2.2.2.2.1).2.2
  have hf3 : hasF b.flags 2 = false := by simpa using hf2
  rw [hf3] at haf
  have HN1 : Hid (¬ (chkE b ≠ 0 ∨ 0 < b.tot ∨ b.payload ≠ [] ∨ hasF b.flags 2 = true)) := Lib.hid (by rintro (h | h | h | h); exact h hE; exact t h; exact h hp; exact hf2 h)
  have HB0 := Lib.hid (show 0 ≤ b.flags ∧ b.flags ≤ 127 ∧ b.blocks.length ≤ 8 from ⟨hv.2.2.2.2.2.1, hv.2.2.2.2.2.2.1, hv.2.2.2.2.2.2.2.1⟩)
  have HBF := Lib.hid (valid_blocks hE)
  rw [hp] at cp ⊢
  clear hv hE t hf2 hf3
  by_cases l1 : dt.length < 1
  · have HV : Hid (V = 4) := Lib.hid (by rw [← HVV.out]; exact chkP_2 HN1.out (.inl l1))
    have d1 : decide ((dt.length : Int) < 1) = true := decide_eq_true (by omega)
    clear l1
    go_wp2
    go_ret
    rw [HV.out]
    exact ⟨rfl, belowA⟩
  have d1 : decide ((dt.length : Int) < 1) = false := decide_eq_false (by omega)
  by_cases l2 : 4096 < dt.length
  · have HV : Hid (V = 4) := Lib.hid (by rw [← HVV.out]; exact chkP_2 HN1.out (.inr l2))
    have d2 : decide ((dt.length : Int) > 4096) = true := decide_eq_true (by omega)
    clear l2
    go_wp2
    go_ret
    rw [HV.out]
    exact ⟨rfl, belowA⟩
  have d2 : decide ((dt.length : Int) > 4096) = false := decide_eq_false (by omega)
  have HN2 : Hid (¬ (dt.length < 1 ∨ 4096 < dt.length)) := Lib.hid (by omega)
  obtain ⟨E3, hE3⟩ : ∃ q, chkSp kn = q := ⟨_, rfl⟩
  have HE3 := Lib.hid hE3
  go_wp2_with fail
  refine (chkSp_any kn _ _ (HK.out.below bw2 (Nat.le_refl _) (by omega))).mono ?_
  rw [HE3.out]
  rintro e w3 ⟨rfl, hb3⟩
  have bw3 : Below w.heap.size w w3 := btrans0 bw2 hb3
  have zw3 : w.heap.size < w3.heap.size := by have := hb3.size; (try simp at this); omega
  have Pw3 : Hid (w3.heap[w.heap.size]? = some (.cells #[.int .i64 b.src, .int .i64 b.crt, .int .i64 b.seq, .int .i64 b.off, .int .i64 b.tot, .int .i64 b.dk, .int .i64 b.dn, .int .i64 b.life, .int .i64 b.prio, .int .i64 b.flags, .slice a b.blocks.length c, .string (B b.payload), .slice ka kn.length kc, .string (B dt)] 81 (0, 0))) := Lib.hid ((hb3.block _ zw2).trans Pw2.out)
  clear cp
  have cp := fun o => cellB Pw3.out o
  clear hb3
  by_cases z3 : E3 = 0
  case neg =>
    have HV : Hid (V = E3) := Lib.hid (by rw [← HVV.out, ← hE3]; exact chkP_3 HN1.out HN2.out (by rw [hE3]; exact z3))
    have z3' : (E3 != 0) = true := by rw [bne_iff_ne]; exact z3
    clear hE3 z3
    go_wp2
    go_ret
    rw [HV.out]
    exact ⟨rfl, belowA⟩
  subst z3
  have HN3 : Hid (¬ chkSp kn ≠ 0) := Lib.hid (by rw [hE3]; simp)
  have HNF := Lib.hid (chkSp_zero hE3)
  have hkl := (chkSp_zero hE3).1
  clear hE3
  by_cases l0 : kn.length = 0
  · have : kn = [] := List.eq_nil_of_length_eq_zero l0
    subst this
    have HV : Hid (V = 2) := Lib.hid (by rw [← HVV.out]; exact chkP_4 HN1.out HN2.out HN3.out rfl)
    simp only [List.length_nil] at *
    clear l0
    go_upto_region 8 with fail
    go_quiet (fail)
    go_wp2
    go_ret
    rw [HV.out]
    exact ⟨rfl, belowA⟩
  obtain ⟨kb, ko, rfl, hkb, hkc⟩ := K4.out (by omega)
  obtain ⟨x0, hx0⟩ : ∃ x, kn[0]? = some x := ⟨_, List.getElem?_eq_getElem (by omega)⟩
  obtain ⟨xl, hxl⟩ : ∃ x, kn[kn.length - 1]? = some x := ⟨_, List.getElem?_eq_getElem (by omega)⟩
  have HX0 := Lib.hid hx0
  have q0 : w3.cell? ⟨kb, ko, none⟩ = some (.int .i64 x0.1) := by have := (bw3.cell (p := ⟨kb, ko + 0 * 2, none⟩) hkb).trans (sp0 hkc hx0); simpa using this
  have q1 : w3.cell? ⟨kb, ko + (kn.length - 1) * 2 + 1, none⟩ = some (.int .i64 xl.2) := (bw3.cell (p := ⟨kb, ko + (kn.length - 1) * 2 + 1, none⟩) hkb).trans (sp1 hkc hxl)
  have HRG := Lib.hid (rng_at (n := dt.length) hx0 hxl)
  have HFR := Lib.hid (from_at hx0)
  have HKC := Lib.hid hkc
  have dl0 : ((kn.length : Int) == 0) = false := by rw [beq_eq_false_iff_ne]; omega
  have wl1 : IntKind.i64.wrap ((kn.length : Int) - 1) = (kn.length : Int) - 1 := by rw [IntKind.wrap_i64]; omega
  have n0 : (0 : Int) < (kn.length : Int) := by omega
  have n0' : 0 < kn.length := by omega
  have n1 : (0 : Int) ≤ (kn.length : Int) - 1 := by omega
  have n2 : (kn.length : Int) - 1 < (kn.length : Int) := by omega
  have n3 : ((kn.length : Int) - 1).toNat = kn.length - 1 := by omega
  clear hx0 hxl hkc l0
  by_cases r1 : x0.1 < 0
  · have HV : Hid (V = 2) := Lib.hid (by rw [← HVV.out]; exact chkP_4 HN1.out HN2.out HN3.out (by rw [HRG.out]; simp [r1]))
    have e1 : decide (x0.1 < 0) = true := decide_eq_true r1
    clear r1
    go_upto_region 8 with fail
    go_quiet (fail)
    go_wp2
    go_ret
    rw [HV.out]
    exact ⟨rfl, belowA⟩
  have e1 : decide (x0.1 < 0) = false := decide_eq_false r1
  by_cases r2 : (dt.length : Int) < xl.2
  · have HV : Hid (V = 2) := Lib.hid (by rw [← HVV.out]; exact chkP_4 HN1.out HN2.out HN3.out (by rw [HRG.out]; simp [r2]))
    have e2 : decide (xl.2 > (dt.length : Int)) = true := decide_eq_true r2
    clear r2
    go_upto_region 8 with fail
    go_quiet (fail)
    go_wp2
    go_ret
    rw [HV.out]
    exact ⟨rfl, belowA⟩
  have e2 : decide (xl.2 > (dt.length : Int)) = false := decide_eq_false r2
  have HN4 : Hid (¬ rngBad kn dt.length = true) := Lib.hid (by rw [HRG.out]; simp; omega)
  clear HRG
  go_upto_region 8 with fail
  go_quiet (fail)
  go_wp2
  go_loopw [4, 76] (fun kv iv wr => ∃ i m : Nat, i ≤ dt.length ∧ m ≤ kn.length ∧ iv = .int .i64 i ∧ Hid (KV kn kb ko kv m) ∧ Hid (∀ x ∈ kn.take m, x.2 ≤ (i : Int)) ∧ Hid (∀ j, j < i → dt.getD j 0 = 0 ∨ inS kn j = true) ∧ Hid (wr.heap[w.heap.size]? = some (.cells #[.int .i64 b.src, .int .i64 b.crt, .int .i64 b.seq, .int .i64 b.off, .int .i64 b.tot, .int .i64 b.dk, .int .i64 b.dn, .int .i64 b.life, .int .i64 b.prio, .int .i64 b.flags, .slice a b.blocks.length c, .string (B b.payload), .slice (some ⟨kb, ko, none⟩) kn.length kc, .string (B dt)] 81 (0, 0))) ∧ Below w.heap.size w wr) (fun _ iv _ => dt.length - (intOf iv).toNat)
  case atStart => exact ⟨0, 0, Nat.zero_le _, Nat.zero_le _, rfl, Lib.hid ⟨_, _, rfl, kh1, fun _ => by simp⟩, Lib.hid (fun x hx => by cases hx), Lib.hid (fun j hj => by omega), Pw3, by exact belowA⟩
  case round =>
    obtain ⟨i, m, hi, hm, rfl, HKV, HDR, HOK, HBX, hB⟩ := hrel
    clear cp
    by_cases hlt : i < dt.length
    · obtain ⟨y, hy⟩ : ∃ y, dt[i]? = some y := ⟨_, List.getElem?_eq_getElem hlt⟩
      have HY := Lib.hid hy
      have i0 : (0 : Int) ≤ (i : Int) := by omega
      have i1 : (i : Int) < (dt.length : Int) := by omega
      obtain ⟨ad0, c0, rfl, _⟩ := id HKV.out
      clear hy
      go_wp2
      go_loopw [4] (fun kv wq => ∃ m' : Nat, m' ≤ kn.length ∧ Hid (KV kn kb ko kv m') ∧ Hid (∀ x ∈ kn.take m', x.2 ≤ (i : Int)) ∧ Hid (wq.heap[w.heap.size]? = some (.cells #[.int .i64 b.src, .int .i64 b.crt, .int .i64 b.seq, .int .i64 b.off, .int .i64 b.tot, .int .i64 b.dk, .int .i64 b.dn, .int .i64 b.life, .int .i64 b.prio, .int .i64 b.flags, .slice a b.blocks.length c, .string (B b.payload), .slice (some ⟨kb, ko, none⟩) kn.length kc, .string (B dt)] 81 (0, 0))) ∧ Below w.heap.size w wq) (fun kv _ => slLen kv)
      case atStart => exact ⟨m, hm, HKV, HDR, HBX, hB⟩
      case round =>
        obtain ⟨m', hm', HKV', HDR', HBX', hB'⟩ := hrel
        obtain ⟨ad, cc, rfl, hcc, had⟩ := HKV'.out
        have HBX2 := HBX'.out
        have cp := fun o => cellB HBX2 o
        have zw : w.heap.size < wr.heap.size := (Array.getElem?_eq_some_iff.1 HBX2).1
        clear HBX2
        by_cases hml : m' < kn.length
        · have hA := had hml
          subst hA
          clear had
          obtain ⟨x, hx⟩ : ∃ x, kn[m']? = some x := ⟨_, List.getElem?_eq_getElem hml⟩
          have p0 : wr.cell? ⟨kb, ko + m' * 2, none⟩ = some (.int .i64 x.1) := (hB'.cell (p := ⟨kb, ko + m' * 2, none⟩) hkb).trans (sp0 HKC.out hx)
          have p1 : wr.cell? ⟨kb, ko + m' * 2 + 1, none⟩ = some (.int .i64 x.2) := (hB'.cell (p := ⟨kb, ko + m' * 2 + 1, none⟩) hkb).trans (sp1 HKC.out hx)
          have HX := Lib.hid hx
          obtain ⟨N, hN⟩ : ∃ N, kn.length - m' = N + 1 := ⟨kn.length - m' - 1, by omega⟩
          have HNN := Lib.hid hN
          rw [hN] at hcc ⊢
          have zkb : kb < wr.heap.size := by omega
          have g0 : decide (((N + 1 : Nat) : Int) > 0) = true := decide_eq_true (by omega)
          have g1 : (0 : Int) < ((N + 1 : Nat) : Int) := by omega
          have g2 : (1 : Int) ≤ ((N + 1 : Nat) : Int) := by omega
          have g3 : ((N + 1 : Nat) : Int) ≤ (cc : Int) := by omega
          have g4 : ((N : Int) + 1 == 0) = false := by rw [beq_eq_false_iff_ne]; omega
          have HKV2 : Hid (KV kn kb ko (.slice (some ⟨kb, ko + m' * 2, none⟩) (N + 1) cc) m') := Lib.hid ⟨_, _, by rw [hN], by omega, fun _ => rfl⟩
          clear hx hN
          by_cases hle : x.2 ≤ (i : Int)
          · have d5 : decide (x.2 ≤ (i : Int)) = true := decide_eq_true hle
            have HLE := Lib.hid hle
            clear hle
            go_wp2
            refine ⟨⟨m' + 1, by omega, Lib.hid ⟨_, _, by rw [show kn.length - (m' + 1) = N by have := HNN.out; omega], by have := HNN.out; omega, fun hm2 => ?_⟩, Lib.hid ?_, HBX', hB'⟩, ?_⟩
            · rw [if_neg (by have := HNN.out; omega), show ko + (m' + 1) * 2 = ko + m' * 2 + 2 by omega]
            · intro z hz
              rw [List.take_add_one, HX.out] at hz
              rcases List.mem_append.1 hz with hz | hz
              · exact HDR'.out z hz
              · simp at hz; subst hz; exact HLE.out
            · simp [slLen]
          · have d5 : decide (x.2 ≤ (i : Int)) = false := decide_eq_false hle
            have HIN : Hid (inS kn i = decide (x.1 ≤ (i : Int))) := Lib.hid (by
              rw [inS_at HNF.out.2.1 HDR'.out (fun z hz => by rw [HX.out] at hz; cases hz; omega), HX.out])
            clear hle
            have hyN : dt[i] = y := by have := HY.out; rw [List.getElem?_eq_getElem hlt] at this; exact Option.some.inj this
            have hgd : dt.getD i 0 = y := by rw [List.getD_eq_getElem?_getD, HY.out]; rfl
            have HGD := Lib.hid hgd
            clear hgd
            have HOKN : Hid ((y = 0 ∨ inS kn i = true) → ∀ j, j < i + 1 → dt.getD j 0 = 0 ∨ inS kn j = true) := Lib.hid (fun h j hj => by
              rcases Nat.lt_or_ge j i with z | z
              · exact HOK.out j z
              · obtain rfl : j = i := by omega
                rw [HGD.out]; exact h)
            by_cases hy0 : dt[i].toNat = 0
            · have e0 : ((dt[i].toNat : Int) != 0) = false := by rw [hy0]; rfl
              have HY0 : Hid (y = 0) := Lib.hid (UInt8.toNat_inj.1 (by rw [← hyN, hy0]; rfl))
              clear hyN
              go_wp2
              refine ⟨⟨i + 1, m', by omega, hm', by go_num, HKV2, Lib.hid (fun z hz => by have := HDR'.out z hz; omega), Lib.hid (HOKN.out (.inl HY0.out)), HBX', belowA⟩, by simp [intOf]; omega⟩
            · have e0 : ((dt[i].toNat : Int) != 0) = true := by rw [bne_iff_ne]; omega
              have HY0 : Hid (y ≠ 0) := Lib.hid (fun e => hy0 (by rw [hyN, e]; rfl))
              clear hyN
              by_cases hx1 : x.1 ≤ (i : Int)
              · have e6 : decide ((i : Int) < x.1) = false := decide_eq_false (by omega)
                have HI2 : Hid (inS kn i = true) := Lib.hid (by rw [HIN.out]; exact decide_eq_true hx1)
                clear hx1
                go_wp2
                refine ⟨⟨i + 1, m', by omega, hm', by go_num, HKV2, Lib.hid (fun z hz => by have := HDR'.out z hz; omega), Lib.hid (HOKN.out (.inr HI2.out)), HBX', belowA⟩, by simp [intOf]; omega⟩
              · have e6 : decide ((i : Int) < x.1) = true := decide_eq_true (by omega)
                have HV : Hid (V = 10) := Lib.hid (by rw [← HVV.out]; exact chkP_5 HN1.out HN2.out HN3.out HN4.out (dataBad_at HY.out HY0.out (by rw [HIN.out]; exact decide_eq_false hx1)))
                clear hx1
                go_wp2
                go_ret
                rw [HV.out]
                exact ⟨rfl, belowA⟩
        · obtain rfl : m' = kn.length := by omega
          have hN : kn.length - kn.length = 0 := Nat.sub_self _
          rw [hN] at hcc ⊢
          have HKV2 : Hid (KV kn kb ko (.slice ad 0 cc) kn.length) := Lib.hid ⟨_, _, by rw [hN], by omega, fun h => absurd h (by omega)⟩
          have HIN : Hid (inS kn i = false) := Lib.hid (by
            rw [inS_at (m := kn.length) HNF.out.2.1 HDR'.out (fun z hz => by rw [List.getElem?_eq_none (Nat.le_refl _)] at hz; cases hz), List.getElem?_eq_none (Nat.le_refl _)])
          clear hN had
          have hyN : dt[i] = y := by have := HY.out; rw [List.getElem?_eq_getElem hlt] at this; exact Option.some.inj this
          have hgd : dt.getD i 0 = y := by rw [List.getD_eq_getElem?_getD, HY.out]; rfl
          have HGD := Lib.hid hgd
          clear hgd
          have HOKN : Hid ((y = 0 ∨ inS kn i = true) → ∀ j, j < i + 1 → dt.getD j 0 = 0 ∨ inS kn j = true) := Lib.hid (fun h j hj => by
            rcases Nat.lt_or_ge j i with z | z
            · exact HOK.out j z
            · obtain rfl : j = i := by omega
              rw [HGD.out]; exact h)
          by_cases hy0 : dt[i].toNat = 0
          · have e0 : ((dt[i].toNat : Int) != 0) = false := by rw [hy0]; rfl
            have HY0 : Hid (y = 0) := Lib.hid (UInt8.toNat_inj.1 (by rw [← hyN, hy0]; rfl))
            clear hyN
            go_wp2
            refine ⟨⟨i + 1, kn.length, by omega, Nat.le_refl _, by go_num, HKV2, Lib.hid (fun z hz => by have := HDR'.out z hz; omega), Lib.hid (HOKN.out (.inl HY0.out)), HBX', belowA⟩, by simp [intOf]; omega⟩
          · have e0 : ((dt[i].toNat : Int) != 0) = true := by rw [bne_iff_ne]; omega
            have HY0 : Hid (y ≠ 0) := Lib.hid (fun e => hy0 (by rw [hyN, e]; rfl))
            clear hyN
            have HV : Hid (V = 10) := Lib.hid (by rw [← HVV.out]; exact chkP_5 HN1.out HN2.out HN3.out HN4.out (dataBad_at HY.out HY0.out HIN.out))
            go_wp2
            go_ret
            rw [HV.out]
            exact ⟨rfl, belowA⟩
    · obtain rfl : i = dt.length := by omega
      have HN5 : Hid (¬ dataBad dt kn = true) := Lib.hid (dataBad_no HOK.out)
      have HL : Hid (V = if 0 < x0.1 ∧ (copyB b.blocks).length ≠ b.blocks.length then 10 else 0) := Lib.hid (by rw [← HVV.out, chkP_6 HN1.out HN2.out HN3.out HN4.out HN5.out, HFR.out])
      have HBX2 := HBX.out
      have cp := fun o => cellB HBX2 o
      have zw : w.heap.size < wr.heap.size := (Array.getElem?_eq_some_iff.1 HBX2).1
      have q0 : wr.cell? ⟨kb, ko, none⟩ = some (.int .i64 x0.1) := by have := (hB.cell (p := ⟨kb, ko + 0 * 2, none⟩) hkb).trans (sp0 HKC.out HX0.out); simpa using this
      have zkb : kb < wr.heap.size := by omega
      have hbl : b.blocks.length ≤ 1000 := by have := HB0.out.2.2; omega
      clear HBX2
      by_cases f0 : 0 < x0.1
      · have df : decide (x0.1 > 0) = true := decide_eq_true f0
        by_cases fl : (copyB b.blocks).length = b.blocks.length
        · have HV : Hid (V = 0) := Lib.hid (by rw [HL.out, if_neg (fun h => h.2 fl)])
          have dl : (((copyB b.blocks).length : Int) != (b.blocks.length : Int)) = false := by rw [bne_eq_false_iff_eq]; omega
          have dn : ¬ (copyB b.blocks).length < b.blocks.length := by omega
          clear f0 fl
          go_upto_region 19 with fail
          refine wp_region_plan (fun V => Below (wr).heap.size (wr) V) [0, 1, 0, 0, 1, 0, 0, 0, 0, 1, 2, 0, 0, 0, 1, 0, 0, 0] [0, 1, 2, 3, 4, 5, 6, 7, 8, 9, 12, 13, 14, 15, 10, 11, 16, 17] (by kernel_rfl) (by kernel_rfl) ?_ ?_
          case refine_1 => exact belowA
          (iterate 14 (first | (refine plan_held rfl (by decide) (by rfl) (fun w1 hS => by (try (obtain ⟨_, _⟩ := bcell (hS rfl))); go_simp; rfl) ?_; simp only [Act.put, List.setIfInBounds_toArray, List.set_cons_zero, List.set_cons_succ]) | (refine plan_skip rfl (by decide) (by rfl) ?_; simp only [Act.put, List.setIfInBounds_toArray, List.set_cons_zero, List.set_cons_succ])))
          (refine plan_keep rfl rfl (by rfl) (fun K hK => ?_); go_simp)
          refine (copied_any b.blocks _ _ (HR.out.below (C := w.heap.size) (btrans0 hB belowA) (Nat.le_refl _) (Below.size (btrans0 hB belowA))) HBF.out hbl).mono ?_
          rintro e wc121 ⟨r, rfl, hr, hfr, hbc121⟩
          obtain ⟨ra, rc, rfl⟩ : ∃ ra rc, r = .slice ra (copyB b.blocks).length rc := by obtain ⟨a, c, h, _⟩ := hr; exact ⟨a, c, h⟩
          clear hr hfr
          (refine hK _ _ (by exact belowA) ?_; clear hK K; (try simp only [Act.put, List.setIfInBounds_toArray, List.set_cons_zero, List.set_cons_succ]))
          (iterate 3 (first | (refine plan_held rfl (by decide) (by rfl) (fun w1 hS => by (try (obtain ⟨_, _⟩ := bcell (hS rfl))); go_simp; rfl) ?_; simp only [Act.put, List.setIfInBounds_toArray, List.set_cons_zero, List.set_cons_succ]) | (refine plan_skip rfl (by decide) (by rfl) ?_; simp only [Act.put, List.setIfInBounds_toArray, List.set_cons_zero, List.set_cons_succ])))
          refine plan_done ?_
          go_wp2
          go_ret
          rw [HV.out]
          exact ⟨rfl, belowA⟩
        · have HV : Hid (V = 10) := Lib.hid (by rw [HL.out, if_pos ⟨f0, fl⟩])
          have dl : (((copyB b.blocks).length : Int) != (b.blocks.length : Int)) = true := by rw [bne_iff_ne]; omega
          have dn : (copyB b.blocks).length < b.blocks.length := by have := copy_len b.blocks; omega
          clear f0 fl
          go_upto_region 19 with fail
          refine wp_region_plan (fun V => Below (wr).heap.size (wr) V) [0, 1, 0, 0, 1, 0, 0, 0, 0, 1, 2, 0, 0, 0, 1, 0, 0, 0] [0, 1, 2, 3, 4, 5, 6, 7, 8, 9, 12, 13, 14, 15, 10, 11, 16, 17] (by kernel_rfl) (by kernel_rfl) ?_ ?_
          case refine_1 => exact belowA
          (iterate 14 (first | (refine plan_held rfl (by decide) (by rfl) (fun w1 hS => by (try (obtain ⟨_, _⟩ := bcell (hS rfl))); go_simp; rfl) ?_; simp only [Act.put, List.setIfInBounds_toArray, List.set_cons_zero, List.set_cons_succ]) | (refine plan_skip rfl (by decide) (by rfl) ?_; simp only [Act.put, List.setIfInBounds_toArray, List.set_cons_zero, List.set_cons_succ])))
          (refine plan_keep rfl rfl (by rfl) (fun K hK => ?_); go_simp)
          refine (copied_any b.blocks _ _ (HR.out.below (C := w.heap.size) (btrans0 hB belowA) (Nat.le_refl _) (Below.size (btrans0 hB belowA))) HBF.out hbl).mono ?_
          rintro e wc121 ⟨r, rfl, hr, hfr, hbc121⟩
          obtain ⟨ra, rc, rfl⟩ : ∃ ra rc, r = .slice ra (copyB b.blocks).length rc := by obtain ⟨a, c, h, _⟩ := hr; exact ⟨a, c, h⟩
          clear hr hfr
          (refine hK _ _ (by exact belowA) ?_; clear hK K; (try simp only [Act.put, List.setIfInBounds_toArray, List.set_cons_zero, List.set_cons_succ]))
          (iterate 3 (first | (refine plan_held rfl (by decide) (by rfl) (fun w1 hS => by (try (obtain ⟨_, _⟩ := bcell (hS rfl))); go_simp; rfl) ?_; simp only [Act.put, List.setIfInBounds_toArray, List.set_cons_zero, List.set_cons_succ]) | (refine plan_skip rfl (by decide) (by rfl) ?_; simp only [Act.put, List.setIfInBounds_toArray, List.set_cons_zero, List.set_cons_succ])))
          refine plan_done ?_
          go_wp2
          go_ret
          rw [HV.out]
          exact ⟨rfl, belowA⟩
      · have df : decide (x0.1 > 0) = false := decide_eq_false f0
        have HV : Hid (V = 0) := Lib.hid (by rw [HL.out, if_neg (fun h => f0 h.1)])
        clear f0
        go_upto_region 19 with fail
        refine wp_region_plan (fun V => Below (wr).heap.size (wr) V) [0, 1, 0, 0, 1, 0, 0, 0, 0, 1, 2, 0, 0, 0, 1, 0, 0, 0] [0, 1, 2, 3, 4, 5, 6, 7, 8, 9, 12, 13, 14, 15, 10, 11, 16, 17] (by kernel_rfl) (by kernel_rfl) ?_ ?_
        case refine_1 => exact belowA
        (iterate 14 (first | (refine plan_held rfl (by decide) (by rfl) (fun w1 hS => by (try (obtain ⟨_, _⟩ := bcell (hS rfl))); go_simp; rfl) ?_; simp only [Act.put, List.setIfInBounds_toArray, List.set_cons_zero, List.set_cons_succ]) | (refine plan_skip rfl (by decide) (by rfl) ?_; simp only [Act.put, List.setIfInBounds_toArray, List.set_cons_zero, List.set_cons_succ])))
        (refine plan_skipK rfl (by decide) (by rfl) belowA ?_; simp only [Act.put, List.setIfInBounds_toArray, List.set_cons_zero, List.set_cons_succ])
        (iterate 3 (first | (refine plan_held rfl (by decide) (by rfl) (fun w1 hS => by (try (obtain ⟨_, _⟩ := bcell (hS rfl))); go_simp; rfl) ?_; simp only [Act.put, List.setIfInBounds_toArray, List.set_cons_zero, List.set_cons_succ]) | (refine plan_skip rfl (by decide) (by rfl) ?_; simp only [Act.put, List.setIfInBounds_toArray, List.set_cons_zero, List.set_cons_succ])))
        refine plan_done ?_
        go_wp2
        go_ret
        rw [HV.out]
        exact ⟨rfl, belowA⟩
end Go.Proofs.YtmknchdciblfjaaGreat
/-! XSr -/
namespace Go.Proofs.YtmknchdciblfjaaGreat
open Go Go.RowKit Iv
attribute [local go_sem] Oper.semAt_some
attribute [local go_sem] B_getElem B_size B_app B_extract B_get B_toList
theorem neBlk (a f a' f' : Int) (d d' : List UInt8) (w : World) : Sem.run Tryz.prog (Go.binOp .neq 91 (.agg #[.int .i64 a, .int .i64 f, .string (B d)]) (.agg #[.int .i64 a', .int .i64 f', .string (B d')])) w = .ok (.bool (!eqKK ⟨a, f, d⟩ ⟨a', f', d'⟩)) w := by
  go_simp
  unfold eqKK
  by_cases h1 : a = a' <;> by_cases h2 : f = f' <;> by_cases h3 : d = d' <;> simp [h1, h2, h3, B]
attribute [local go_sem ↓] neBlk
theorem eqBs_len : ∀ {l m : List Blk}, l.length ≠ m.length → eqBs l m = false
  | [], [], h => absurd rfl h
  | x :: r, y :: s, h => by
    unfold eqBs
    rw [eqBs_len (l := r) (m := s) (fun e => h (by simp [e]))]
    simp
  | [], y :: s, _ => rfl
  | x :: r, [], _ => rfl
theorem eqBs_at {l m : List Blk} {k : Nat} {x y : Blk} (hx : l[k]? = some x) (hy : m[k]? = some y) : eqBs (l.drop k) (m.drop k) = (eqKK x y && eqBs (l.drop (k + 1)) (m.drop (k + 1))) := by
  have h1 : k < l.length := (List.getElem?_eq_some_iff.1 hx).1
  have h2 : k < m.length := (List.getElem?_eq_some_iff.1 hy).1
  rw [List.drop_eq_getElem_cons h1, List.drop_eq_getElem_cons h2]
  rw [List.getElem?_eq_getElem h1] at hx
  rw [List.getElem?_eq_getElem h2] at hy
  rw [Option.some.inj hx, Option.some.inj hy]
  rfl
set_option maxRecDepth 100000 in
set_option maxHeartbeats 4000000 in
theorem eqB_any (l m : List Blk) (u v : Value) (w : World) (h : RBlks w w.heap.size u l) (k : RBlks w w.heap.size v m) :
    Calls Tryz.prog 86 #[u, v] w fun e w' => e = .returned (.bool (eqBs l m)) ∧ Below w.heap.size w w' := by
  obtain ⟨a, c, rfl, h1, h2, h3, h4⟩ := h
  obtain ⟨a', c', rfl, k1, k2, k3, k4⟩ := k
  unfold maxLen at h2 k2
  have hlen : l.length ≤ 9223372036854775807 := by omega
  have hlen2 : m.length ≤ 9223372036854775807 := by omega
  have H4 := Lib.hid h4
  have K4 := Lib.hid k4
  clear h3 h4 k3 k4
  by_cases hl : l.length = m.length
  case neg =>
    rw [eqBs_len hl]
    have dl : ((l.length : Int) != (m.length : Int)) = true := by rw [bne_iff_ne]; omega
    go_enter Tryz.func86, Tryz.ntmps86
    go_wp2
    go_ret
    exact ⟨rfl, belowA⟩
  have dl : ((l.length : Int) != (m.length : Int)) = false := by rw [bne_eq_false_iff_eq]; omega
  have HLN := Lib.hid hl
  obtain ⟨E, hE⟩ : ∃ q, eqBs l m = q := ⟨_, rfl⟩
  have HE := Lib.hid hE
  rw [hE]
  clear hE hl
  go_enter Tryz.func86, Tryz.ntmps86
  go_wp2
  go_loopw [13] (fun i wr => ∃ k : Nat, k ≤ l.length ∧ i = .int .i64 k ∧ Hid (eqBs (l.drop k) (m.drop k) = E) ∧ Below w.heap.size w wr) (fun i _ => l.length - (intOf i).toNat)
  case atStart => exact ⟨0, Nat.zero_le _, rfl, HE, Below.refl _ _⟩
  case round =>
    obtain ⟨k, hk, rfl, HQ, hB⟩ := hrel
    by_cases hlt : k < l.length
    · have hkm : k < m.length := by have := HLN.out; omega
      obtain ⟨b, o, rfl, hbn, hcell⟩ := H4.out (by omega)
      obtain ⟨b', o', rfl, hbn', hcell'⟩ := K4.out (by omega)
      obtain ⟨x, hx⟩ : ∃ x, l[k]? = some x := ⟨_, List.getElem?_eq_getElem hlt⟩
      obtain ⟨y, hy⟩ : ∃ x, m[k]? = some x := ⟨_, List.getElem?_eq_getElem hkm⟩
      obtain ⟨c1, c2, c3⟩ := (hcell k x hx).keep (fun o => hB.cell (p := ⟨b, o, none⟩) hbn)
      obtain ⟨d1, d2, d3⟩ := (hcell' k y hy).keep (fun o => hB.cell (p := ⟨b', o, none⟩) hbn')
      have k0 : (0 : Int) ≤ (k : Int) := by omega
      have k1' : (k : Int) < (l.length : Int) := by omega
      have k2' : (k : Int) < (m.length : Int) := by omega
      have HAT := Lib.hid ((eqBs_at hx hy).symm.trans HQ.out)
      obtain ⟨D, hD⟩ : ∃ q, eqKK x y = q := ⟨_, rfl⟩
      have hD2 : eqKK ⟨x.kind, x.flags, x.data⟩ ⟨y.kind, y.flags, y.data⟩ = D := hD
      have HD := Lib.hid hD
      clear hcell hcell' hx hy hD
      cases D with
      | true =>
        have HQ2 : Hid (eqBs (l.drop (k + 1)) (m.drop (k + 1)) = E) := Lib.hid (by have := HAT.out; rw [HD.out] at this; simpa using this)
        go_wp2
        go_quiet (fail)
        go_wp2
        refine ⟨⟨k + 1, by omega, by go_num, HQ2, belowA⟩, by simp [intOf]; omega⟩
      | false =>
        have HQ2 : Hid (E = false) := Lib.hid (by have := HAT.out; rw [HD.out] at this; simpa using this.symm)
        go_wp2
        go_quiet (fail)
        go_wp2
        go_ret
        rw [HQ2.out]
        exact ⟨rfl, belowA⟩
    · obtain rfl : k = l.length := by omega
      have HQ2 : Hid (E = true) := Lib.hid (by
        have := HQ.out
        rw [List.drop_length, HLN.out, List.drop_length] at this
        exact this.symm)
      go_wp2
      go_ret
      rw [HQ2.out]
      exact ⟨rfl, belowA⟩
end Go.Proofs.YtmknchdciblfjaaGreat
/-! XSs -/
namespace Go.Proofs.YtmknchdciblfjaaGreat
open Go Go.RowKit Iv
attribute [local go_sem] Oper.semAt_some
attribute [local go_sem] B_getElem B_size B_app B_extract B_get B_toList
set_option maxHeartbeats 4000000 in
theorem neFld (a b c d e f g h i j a' b' c' d' e' f' g' h' i' j' : Int) (w : World) : Sem.run Tryz.prog (Go.binOp .neq 162 (.agg #[.int .i64 a, .int .i64 b, .int .i64 c, .int .i64 d, .int .i64 e, .int .i64 f, .int .i64 g, .int .i64 h, .int .i64 i, .int .i64 j]) (.agg #[.int .i64 a', .int .i64 b', .int .i64 c', .int .i64 d', .int .i64 e', .int .i64 f', .int .i64 g', .int .i64 h', .int .i64 i', .int .i64 j'])) w = .ok (.bool (!decide (a = a' ∧ b = b' ∧ c = c' ∧ d = d' ∧ e = e' ∧ f = f' ∧ g = g' ∧ h = h' ∧ i = i' ∧ j = j'))) w := by
  go_simp
  by_cases h0 : a = a'
  case neg => simp [h0]
  by_cases h1 : b = b'
  case neg => simp [h0, h1]
  by_cases h2 : c = c'
  case neg => simp [h0, h1, h2]
  by_cases h3 : d = d'
  case neg => simp [h0, h1, h2, h3]
  by_cases h4 : e = e'
  case neg => simp [h0, h1, h2, h3, h4]
  by_cases h5 : f = f'
  case neg => simp [h0, h1, h2, h3, h4, h5]
  by_cases h6 : g = g'
  case neg => simp [h0, h1, h2, h3, h4, h5, h6]
  by_cases h7 : h = h'
  case neg => simp [h0, h1, h2, h3, h4, h5, h6, h7]
  by_cases h8 : i = i'
  case neg => simp [h0, h1, h2, h3, h4, h5, h6, h7, h8]
  by_cases h9 : j = j'
  case neg => simp [h0, h1, h2, h3, h4, h5, h6, h7, h8, h9]
  simp [h0, h1, h2, h3, h4, h5, h6, h7, h8, h9]
theorem eqIdI (a b c d e a' b' c' d' e' : Int) (w : World) : Sem.run Tryz.prog (Go.binOp .eql 27 (.agg #[.int .i64 a, .int .i64 b, .int .i64 c, .int .i64 d, .int .i64 e]) (.agg #[.int .i64 a', .int .i64 b', .int .i64 c', .int .i64 d', .int .i64 e'])) w = .ok (.bool (decide (a = a' ∧ b = b' ∧ c = c' ∧ d = d' ∧ e = e'))) w := by
  go_simp
  by_cases h0 : a = a'
  case neg => simp [h0]
  by_cases h1 : b = b'
  case neg => simp [h0, h1]
  by_cases h2 : c = c'
  case neg => simp [h0, h1, h2]
  by_cases h3 : d = d'
  case neg => simp [h0, h1, h2, h3]
  by_cases h4 : e = e'
  case neg => simp [h0, h1, h2, h3, h4]
  simp [h0, h1, h2, h3, h4]
theorem eqEndI (a b a' b' : Int) (w : World) : Sem.run Tryz.prog (Go.binOp .eql 29 (.agg #[.int .i64 a, .int .i64 b]) (.agg #[.int .i64 a', .int .i64 b'])) w = .ok (.bool (decide (a = a' ∧ b = b'))) w := by
  go_simp
  by_cases h0 : a = a'
  case neg => simp [h0]
  by_cases h1 : b = b'
  case neg => simp [h0, h1]
  simp [h0, h1]
def fldB (p : Par) (b : Bun) : Bool := decide (p.head.src = b.src ∧ p.head.crt = b.crt ∧ p.head.seq = b.seq ∧ p.head.dk = b.dk ∧ p.head.dn = b.dn ∧ p.head.life = b.life ∧ p.head.prio = b.prio ∧ p.head.flags = b.flags)
theorem belB_eq (p : Par) (b : Bun) : belB p b = (fldB p b && (decide (b.tot = p.data.length) && eqBs (copyB p.head.blocks) (copyB b.blocks))) := by
  unfold belB fldB
  by_cases h : p.head.src = b.src ∧ p.head.crt = b.crt ∧ p.head.seq = b.seq ∧ p.head.dk = b.dk ∧ p.head.dn = b.dn ∧ p.head.life = b.life ∧ p.head.prio = b.prio ∧ p.head.flags = b.flags
  · rw [decide_eq_true h, Bool.true_and]
    congr 1
    obtain ⟨h1, h2, h3, h4, h5, h6, h7, h8⟩ := h
    simp [h1, h2, h3, h4, h5, h6, h7, h8]
  · rw [decide_eq_false h, decide_eq_false (fun k => h ⟨k.1, k.2.1, k.2.2.1, k.2.2.2.1, k.2.2.2.2.1, k.2.2.2.2.2.1, k.2.2.2.2.2.2.1, k.2.2.2.2.2.2.2.1⟩)]
    rfl
abbrev fldC (b : Bun) : Array Value := #[.int .i64 b.src, .int .i64 b.crt, .int .i64 b.seq, .int .i64 0, .int .i64 0, .int .i64 b.dk, .int .i64 b.dn, .int .i64 b.life, .int .i64 b.prio, .int .i64 b.flags]
attribute [local go_sem ↓] neFld eqIdI eqEndI
set_option maxRecDepth 100000 in
set_option maxHeartbeats 4000000 in
theorem fields_any (b : Bun) (u : Value) (w : World) (h : RBlks w w.heap.size u b.blocks) :
    Calls Tryz.prog 85 #[.agg (bunC b u).toArray] w fun e w' => e = .returned (.agg (fldC b)) ∧ Below w.heap.size w w' := by
  obtain ⟨a, c, rfl, _⟩ := h
  go_enter Tryz.func85, Tryz.ntmps85
  simp only [bunC]
  go_upto_region 1 with fail
  obtain ⟨w1, hw1⟩ : ∃ q, w.alloc (.cells #[.int .i64 b.src, .int .i64 b.crt, .int .i64 b.seq, .int .i64 b.off, .int .i64 b.tot, .int .i64 b.dk, .int .i64 b.dn, .int .i64 b.life, .int .i64 b.prio, .int .i64 b.flags, .slice a b.blocks.length c, .string (B b.payload)] 32) = q := ⟨_, rfl⟩
  have hn1 : w1.heap[w.heap.size]? = some (.cells #[.int .i64 b.src, .int .i64 b.crt, .int .i64 b.seq, .int .i64 b.off, .int .i64 b.tot, .int .i64 b.dk, .int .i64 b.dn, .int .i64 b.life, .int .i64 b.prio, .int .i64 b.flags, .slice a b.blocks.length c, .string (B b.payload)] 32 (0, 0)) := by rw [← hw1]; exact heap_new
  have hs1 : w1.heap.size = w.heap.size + 1 := by rw [← hw1]; simp
  have hb1 : Below w.heap.size w w1 := by rw [← hw1]; exact balloc0 (Below.refl _ _)
  rw [hw1]
  obtain ⟨w2, hw2⟩ : ∃ q, w1.alloc (.cells #[.int .i64 0, .int .i64 0, .int .i64 0, .int .i64 0, .int .i64 0, .int .i64 0, .int .i64 0, .int .i64 0, .int .i64 0, .int .i64 0] 162) = q := ⟨_, rfl⟩
  have hn2 : w2.heap[w.heap.size + 1]? = some (.cells #[.int .i64 0, .int .i64 0, .int .i64 0, .int .i64 0, .int .i64 0, .int .i64 0, .int .i64 0, .int .i64 0, .int .i64 0, .int .i64 0] 162 (0, 0)) := by rw [← hw2, ← hs1]; exact heap_new
  have hb2 : Below w1.heap.size w1 w2 := by rw [← hw2]; exact balloc0 (Below.refl _ _)
  rw [hw2]
  have B2 := (hb2.block _ (by omega)).trans hn1
  have zb2 : w.heap.size + 1 < w2.heap.size := (Array.getElem?_eq_some_iff.1 hn2).1
  have cb := fun o => cellB B2 o
  have cr := fun o => cellB hn2 o
  have fr := fun o => frozenB hn2 o
  have zb1 : w.heap.size < w2.heap.size := by omega
  have hb3 : Below w.heap.size w w2 := btrans0 hb1 hb2
  clear hw1 hw2 hn1 B2 hb1 hb2 hs1
  refine wp_region_plan (fun V => Below (w2).heap.size (w2) V) [0, 1, 2, 0, 1, 0, 1, 0, 1, 0, 1, 0, 3] [0, 1, 3, 4, 5, 6, 7, 8, 9, 10, 2, 11, 12] (by kernel_rfl) (by kernel_rfl) ?_ ?_
  case refine_1 => exact belowA
  (iterate 10 (first | (refine plan_held rfl (by decide) (by rfl) (fun w1 hS => by (try (obtain ⟨_, _⟩ := bcell (hS rfl))); go_simp; rfl) ?_; simp only [Act.put, List.setIfInBounds_toArray, List.set_cons_zero, List.set_cons_succ]) | (refine plan_skip rfl (by decide) (by rfl) ?_; simp only [Act.put, List.setIfInBounds_toArray, List.set_cons_zero, List.set_cons_succ])))
  (refine plan_keep rfl rfl (by rfl) (fun K hK => ?_); go_simp)
  refine (parent_any b.src b.crt b.seq b.off b.tot _).mono ?_
  unfold idV
  rintro e wc5 ⟨rfl, hbc5⟩
  have hn3 := (hbc5.block _ zb2).trans hn2
  have cr3 := fun o => cellB hn3 o
  have fr3 := fun o => frozenB hn3 o
  have zb5 : w.heap.size + 1 < wc5.heap.size := (Array.getElem?_eq_some_iff.1 hn3).1
  clear cr fr
  (refine hK _ _ (by exact belowA) ?_; clear hK K; (try simp only [Act.put, List.setIfInBounds_toArray, List.set_cons_zero, List.set_cons_succ]))
  (iterate 1 (first | (refine plan_held rfl (by decide) (by rfl) (fun w1 hS => by (try (obtain ⟨_, _⟩ := bcell (hS rfl))); go_simp; rfl) ?_; simp only [Act.put, List.setIfInBounds_toArray, List.set_cons_zero, List.set_cons_succ]) | (refine plan_skip rfl (by decide) (by rfl) ?_; simp only [Act.put, List.setIfInBounds_toArray, List.set_cons_zero, List.set_cons_succ])))
  (refine plan_late rfl rfl (by rfl) (fun K hK => ?_); go_simp)
  (refine hK _ _ ?_; clear hK K; (try simp only [Act.put, List.setIfInBounds_toArray, List.set_cons_zero, List.set_cons_succ]))
  refine plan_done ?_
  go_wp2
  refine bodyPost_ret (v := .agg (fldC b)) (by simp [results, Tryz.results85, go_sem, World.cell?_setCell_same', cr3, zb5]) rfl ?_
  exact ⟨rfl, belowA⟩
end Go.Proofs.YtmknchdciblfjaaGreat
