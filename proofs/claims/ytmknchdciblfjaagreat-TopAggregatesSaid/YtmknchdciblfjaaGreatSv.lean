/- Joined by port.py: XSu XSv -/
import Derived.Test.YtmknchdciblfjaaGreatSm
import Derived.Test.YtmknchdciblfjaaGreatSj
import Derived.BigQuiet
import Derived.BigRegion
import Derived.Deep.DeepCutAuto
import Derived.Deep.CutBlock
import Derived.Test.YtmknchdciblfjaaGreatSp
import Derived.Test.YtmknchdciblfjaaGreatJa
import Derived.Test.YtmknchdciblfjaaGreatJb
import Derived.Test.YtmknchdciblfjaaGreatJc
import Derived.Test.YtmknchdciblfjaaGreatJd
import Derived.Test.YtmknchdciblfjaaGreatJe
import Derived.Test.YtmknchdciblfjaaGreatJh
import Derived.Test.YtmknchdciblfjaaGreatJm
import Derived.Test.YtmknchdciblfjaaGreatJo
import Derived.Test.YtmknchdciblfjaaGreatJs
import Derived.Test.YtmknchdciblfjaaGreatJp
import Derived.Test.YtmknchdciblfjaaGreatKaz
import Derived.Test.YtmknchdciblfjaaGreatJw
import Derived.Test.YtmknchdciblfjaaGreatSb
import Derived.Test.YtmknchdciblfjaaGreatSez
import Derived.Test.YtmknchdciblfjaaGreatSz
import Derived.Test.YtmknchdciblfjaaGreatSi
import Derived.Test.YtmknchdciblfjaaGreatSkz
import Derived.Test.YtmknchdciblfjaaGreatRT
set_option linter.unusedVariables false
set_option linter.unusedSimpArgs false
/-! XSu -/
namespace Go.Proofs.YtmknchdciblfjaaGreat
open Go Go.RowKit Iv
theorem chk_one {x : Sp} (h1 : x.1 < x.2) (h2 : -1152921504606846976 ≤ x.1) (h3 : x.2 ≤ 1152921504606846976) : chkSp [x] = 0 :=
  chkSp_of (by simp) ⟨by omega, h1, trivial⟩ (fun y hy => by simp at hy; subst hy; exact ⟨h2, h3⟩)
theorem comb_and {a : List Sp} {x : Sp} (ha : chkSp a = 0) (hx : chkSp [x] = 0) : combS (fun p q => p && q) a [x] = (both a [x], 0) := by
  obtain ⟨la, na, _⟩ := chkSp_zero ha
  obtain ⟨_, nx, _⟩ := chkSp_zero hx
  obtain ⟨_, c2, c3⟩ := cmb_spec (fun p q => p && q) rfl a [x] _ na nx
  have e : cmb (fun p q => p && q) a [x] = both a [x] := NF.uniq c2 (both_nf a [x] _ _ na nx) (fun t => by rw [c3, both_in])
  have hl := both_len a [x]
  simp only [List.length_cons, List.length_nil, Nat.zero_add, Nat.mul_one] at hl
  unfold combS
  rw [if_neg (by simp [ha, hx]), e]
  unfold limS
  rw [if_neg (by omega)]
theorem comb_or {a : List Sp} {x : Sp} (ha : chkSp a = 0) (hx : chkSp [x] = 0) : combS (fun p q => p || q) a [x] = limS (ins a x) := by
  obtain ⟨la, na, _⟩ := chkSp_zero ha
  obtain ⟨_, nx, _⟩ := chkSp_zero hx
  obtain ⟨_, c2, c3⟩ := cmb_spec (fun p q => p || q) rfl a [x] _ na nx
  have e : cmb (fun p q => p || q) a [x] = ins a x := NF.uniq c2 (ins_nf a x _ na nx.1 nx.2.1) (fun t => by
    rw [c3, ins_in a x _ na nx.2.1, inS_cons, inS_nil, Bool.or_false, Bool.or_comm])
  unfold combS
  rw [if_neg (by simp [ha, hx]), e]
/-- what lies in an intersection with one interval -/
theorem both_mem {a : List Sp} {x y : Sp} (h : y ∈ both a [x]) : x.1 ≤ y.1 ∧ y.1 < y.2 ∧ y.2 ≤ x.2 := by
  unfold both at h
  obtain ⟨z, hz, h⟩ := List.mem_flatMap.1 h
  unfold both1 at h
  simp only [List.filterMap_cons, List.filterMap_nil] at h
  split at h
  · rename_i hs
    split at hs
    · cases hs
    · cases h
  · rename_i w hs
    split at hs
    · rename_i hlt
      simp at h
      cases hs
      subst h
      simp only
      omega
    · cases hs
def eqCut (d pay : List UInt8) (off : Int) (x : Sp) : Bool := (d.drop x.1.toNat).take (x.2.toNat - x.1.toNat) == (pay.drop (x.1 - off).toNat).take ((x.2 - off).toNat - (x.1 - off).toNat)
theorem cut_at {l : List UInt8} {a n j : Nat} (h : j < n) : ((l.drop a).take n)[j]? = l[a + j]? := by
  rw [List.getElem?_take, if_pos h, List.getElem?_drop]
theorem agr_iff {p : Par} {b : Bun} (h0 : 0 ≤ b.off) (h1 : b.off + b.payload.length ≤ p.data.length) : (∀ x ∈ both p.known [spanB b], eqCut p.data b.payload b.off x = true) ↔ agrD p b = true := by
  unfold agrD
  rw [List.all_eq_true]
  constructor
  · intro h i hi
    have hi := List.mem_range.1 hi
    cases hk : inS p.known (b.off + i) with
    | false => simp
    | true =>
      have hb : inS (both p.known [spanB b]) (b.off + i) = true := by
        rw [both_in, hk, inS_cons]
        unfold spanB
        simp
        omega
      obtain ⟨x, hx, h3, h4⟩ := inS_iff.1 hb
      obtain ⟨m1, m2, m3⟩ := both_mem hx
      unfold spanB at m1 m3
      simp only at m1 m3
      have he := h x hx
      unfold eqCut at he
      rw [beq_iff_eq] at he
      have hj := congrArg (fun l => l[((b.off + i) - x.1).toNat]?) he
      have hj : (List.take (x.2.toNat - x.1.toNat) (List.drop x.1.toNat p.data))[((b.off + i) - x.1).toNat]? = (List.take ((x.2 - b.off).toNat - (x.1 - b.off).toNat) (List.drop (x.1 - b.off).toNat b.payload))[((b.off + i) - x.1).toNat]? := hj
      rw [cut_at (by omega), cut_at (by omega)] at hj
      rw [show x.1.toNat + (b.off + ↑i - x.1).toNat = b.off.toNat + i by omega, show (x.1 - b.off).toNat + (b.off + ↑i - x.1).toNat = i by omega] at hj
      simp only [Bool.not_true, Bool.false_or, beq_iff_eq]
      rw [List.getD_eq_getElem?_getD, List.getD_eq_getElem?_getD, hj]
  · intro h x hx
    obtain ⟨m1, m2, m3⟩ := both_mem hx
    unfold spanB at m1 m3
    simp only at m1 m3
    unfold eqCut
    rw [beq_iff_eq]
    apply List.ext_getElem?
    intro j
    by_cases hj : j < x.2.toNat - x.1.toNat
    · rw [cut_at hj, cut_at (by omega)]
      have hb : inS (both p.known [spanB b]) (x.1 + j) = true := inS_iff.2 ⟨x, hx, by omega, by omega⟩
      rw [both_in, Bool.and_eq_true] at hb
      have hi : ((x.1 - b.off).toNat + j) < b.payload.length := by omega
      have := h _ (List.mem_range.2 hi)
      rw [show b.off + (((x.1 - b.off).toNat + j : Nat) : Int) = x.1 + j by omega, hb.1] at this
      simp only [Bool.not_true, Bool.false_or, beq_iff_eq] at this
      rw [List.getD_eq_getElem?_getD, List.getD_eq_getElem?_getD, show b.off.toNat + ((x.1 - b.off).toNat + j) = x.1.toNat + j by omega] at this
      rw [List.getElem?_eq_getElem (by omega), List.getElem?_eq_getElem hi] at this ⊢
      simpa using this
    · rw [List.getElem?_take, if_neg hj, List.getElem?_take, if_neg (by omega)]
end Go.Proofs.YtmknchdciblfjaaGreat
/-! XSv -/
namespace Go.Proofs.YtmknchdciblfjaaGreat
open Go Go.RowKit Iv
attribute [local go_sem] Oper.semAt_some
attribute [local go_sem] B_getElem B_size B_app B_extract B_get B_toList
theorem chkP_zero {p : Par} (h : chkP p = 0) : (chkE p.head = 0 ∧ p.head.tot ≤ 0 ∧ p.head.payload = [] ∧ hasF p.head.flags 2 = false) ∧ p.data.length ≤ 4096 ∧ chkSp p.known = 0 ∧ 0 < p.known.length := by
  unfold chkP at h
  split at h
  · cases h
  · rename_i n1
    split at h
    · cases h
    · rename_i n2
      split at h
      · rename_i n3; exact absurd h n3
      · rename_i n3
        split at h
        · cases h
        · rename_i n4
          simp only [not_or] at n1
          refine ⟨⟨Decidable.not_not.1 n1.1, by omega, Decidable.not_not.1 n1.2.2.1, by simpa using n1.2.2.2⟩, by omega, Decidable.not_not.1 n3, ?_⟩
          rcases Nat.eq_zero_or_pos p.known.length with z | z
          · have e : p.known = [] := List.eq_nil_of_length_eq_zero z
            rw [e] at n4
            exact absurd rfl n4
          · exact z
set_option maxRecDepth 100000 in
set_option maxHeartbeats 32000000 in
theorem agr_any (p : Par) (b : Bun) (ub uk u : Value) (w : World) (hh : RBlks w w.heap.size ub p.head.blocks) (hk : RSps w w.heap.size uk p.known) (hr : RBlks w w.heap.size u b.blocks) (hf : Fits b) (hc : chkP p = 0) (hvb : chkE b = 0) (ht : b.tot = p.data.length) (ht0 : 0 < b.tot) :
    Calls Tryz.prog 87 #[.agg (parC p ub uk).toArray, .agg (bunC b u).toArray] w fun e w' => e = .returned (.bool (agrB p b)) ∧ Below w.heap.size w w' := by
  have hpf := chkP_zero hc
  have hv := valid_facts hvb
  obtain ⟨pl0, pl1⟩ := hv.2.2.2.2.2.2.2.2.2 ht0
  obtain ⟨o, ho⟩ := Int.eq_ofNat_of_zero_le hv.1
  have h0 : 0 ≤ b.off := hv.1
  have h1 : b.off + b.payload.length ≤ p.data.length := by omega
  have HAG := Lib.hid (agr_iff h0 h1)
  obtain ⟨h, kn, dt⟩ := p
  simp only at hh hk hpf ht h1
  obtain ⟨a, c, rfl, _⟩ := id hh
  obtain ⟨ka, kc, rfl, _, _, _, kh4⟩ := id hk
  obtain ⟨a2, c2, rfl, _⟩ := id hr
  have HH := Lib.hid hh
  have HK := Lib.hid hk
  have HB := Lib.hid hr
  have HF := Lib.hid hf
  have K4 := Lib.hid kh4
  have hkc : chkSp kn = 0 := hpf.2.2.1
  have hkn : 0 < kn.length := hpf.2.2.2
  have hlen : dt.length ≤ 4096 := hpf.2.1
  have hsp : chkSp [spanB b] = 0 := chk_one (by unfold spanB; simp only; omega) (by unfold spanB; simp only; omega) (by unfold spanB; simp only; omega)
  have HSPB : Hid (spanB b = ((o : Int), (o : Int) + b.payload.length)) := Lib.hid (by unfold spanB; rw [ho])
  have HB0 : Hid (0 ≤ b.off ∧ b.off ≤ 100000 ∧ b.payload.length ≤ 100000) := Lib.hid ⟨h0, by omega, by omega⟩
  have HCA := Lib.hid (comb_and hkc hsp)
  have HKC := Lib.hid hkc
  have hon : o + b.payload.length ≤ dt.length := by omega
  obtain ⟨V, hV⟩ : ∃ q, agrB ⟨h, kn, dt⟩ b = q := ⟨_, rfl⟩
  have HV0 := Lib.hid hV
  rw [hV]
  have HOF := Lib.hid ho
  clear hh hk hr hf hc hvb ht hpf hv kh4 hkc hsp hV h0 h1 pl1 ht0 ho
  go_enter Tryz.func87, Tryz.ntmps87
  simp only [parC, bunC, List.cons_append, List.nil_append]
  go_upto_region 1 with fail
  obtain ⟨w4, hw4⟩ : ∃ q, (w.alloc (.cells #[.int .i64 h.src, .int .i64 h.crt, .int .i64 h.seq, .int .i64 h.off, .int .i64 h.tot, .int .i64 h.dk, .int .i64 h.dn, .int .i64 h.life, .int .i64 h.prio, .int .i64 h.flags, .slice a h.blocks.length c, .string (B h.payload), .slice ka kn.length kc, .string (B dt)] 81)).alloc (.cells #[.int .i64 b.src, .int .i64 b.crt, .int .i64 b.seq, .int .i64 b.off, .int .i64 b.tot, .int .i64 b.dk, .int .i64 b.dn, .int .i64 b.life, .int .i64 b.prio, .int .i64 b.flags, .slice a2 b.blocks.length c2, .string (B b.payload)] 32) = q := ⟨_, rfl⟩
  have n1 : w4.heap[w.heap.size]? = some (.cells #[.int .i64 h.src, .int .i64 h.crt, .int .i64 h.seq, .int .i64 h.off, .int .i64 h.tot, .int .i64 h.dk, .int .i64 h.dn, .int .i64 h.life, .int .i64 h.prio, .int .i64 h.flags, .slice a h.blocks.length c, .string (B h.payload), .slice ka kn.length kc, .string (B dt)] 81 (0, 0)) := by rw [← hw4]; exact (Below.heap_alloc _ _ _ (by simp)).trans heap_new
  have n2 : w4.heap[w.heap.size + 1]? = some (.cells #[.int .i64 b.src, .int .i64 b.crt, .int .i64 b.seq, .int .i64 b.off, .int .i64 b.tot, .int .i64 b.dk, .int .i64 b.dn, .int .i64 b.life, .int .i64 b.prio, .int .i64 b.flags, .slice a2 b.blocks.length c2, .string (B b.payload)] 32 (0, 0)) := by rw [← hw4]; exact heap_new' (by simp)
  have b4 : Below w.heap.size w w4 := by rw [← hw4]; exact belowA
  have z4 : w4.heap.size = w.heap.size + 2 := by rw [← hw4]; simp
  rw [hw4]
  clear hw4
  have c1 := fun o => cellB n1 o
  have c2' := fun o => cellB n2 o
  have zb1 : w.heap.size < w4.heap.size := by omega
  have zb2 : w.heap.size + 1 < w4.heap.size := by omega
  have N1 := Lib.hid n1
  have N2 := Lib.hid n2
  clear n1 n2
  obtain ⟨L, hL⟩ : ∃ q, both kn [spanB b] = q := ⟨_, rfl⟩
  have HL := Lib.hid hL
  rw [hL] at HAG HCA
  have HLl : Hid (L.length ≤ 1000) := Lib.hid (by
    rw [← hL]
    have h1 := both_len kn [spanB b]
    have h2 := (chkSp_zero HKC.out).1
    simp only [List.length_cons, List.length_nil, Nat.zero_add, Nat.mul_one] at h1
    omega)
  clear hL
  refine wp_region_plan (fun V => Below (w4).heap.size (w4) V) [0, 1, 1, 2, 2, 3, 0, 0, 0, 0, 0] [0, 1, 2, 3, 4, 5, 6, 7, 8, 9, 10] (by kernel_rfl) (by kernel_rfl) ?_ ?_
  case refine_1 => exact belowA
  (iterate 3 (first | (refine plan_held rfl (by decide) (by rfl) (fun w1 hS => by (try (obtain ⟨_, _⟩ := bcell (hS rfl))); go_simp; rfl) ?_; simp only [Act.put, List.setIfInBounds_toArray, List.set_cons_zero, List.set_cons_succ]) | (refine plan_skip rfl (by decide) (by rfl) ?_; simp only [Act.put, List.setIfInBounds_toArray, List.set_cons_zero, List.set_cons_succ])))
  (refine plan_keep rfl rfl (by rfl) (fun K hK => ?_); go_simp)
  refine (pspan_any b _ _ (HB.out.below (C := w.heap.size) (btrans0 b4 belowA) (Nat.le_refl _) (Below.size (btrans0 b4 belowA))) HB0.out.1 HB0.out.2.1 HB0.out.2.2).mono ?_
  rintro e wc13 ⟨rfl, hbc13⟩
  (refine hK _ _ (by exact belowA) ?_; clear hK K; (try simp only [Act.put, List.setIfInBounds_toArray, List.set_cons_zero, List.set_cons_succ]))
  (refine plan_keep rfl rfl (by rfl) (fun K hK => ?_); go_simp)
  (refine hK _ _ (by exact belowA) ?_; clear hK K; (try simp only [Act.put, List.setIfInBounds_toArray, List.set_cons_zero, List.set_cons_succ]))
  (refine plan_late rfl rfl (by rfl) (fun K hK => ?_); go_simp)
  refine (and_any kn [spanB b] _ _ _ (HK.out.below (C := w.heap.size) (btrans0 b4 belowA) (Nat.le_refl _) (Below.size (btrans0 b4 belowA))) (RSps.one (t := 154) (f := (0, 0)) (by exact heap_new) rfl)).mono ?_
  rw [HCA.out]
  rintro e wc15 ⟨r, rfl, hr, _, hbc15⟩
  obtain ⟨ra, rc, rfl, rh1, rh2, rh3, rh4⟩ := id hr
  have R4 := Lib.hid rh4
  clear hr rh3 rh4
  (refine hK _ _ ?_; clear hK K; (try simp only [Act.put, List.setIfInBounds_toArray, List.set_cons_zero, List.set_cons_succ]))
  (iterate 5 (first | (refine plan_held rfl (by decide) (by rfl) (fun w1 hS => by (try (obtain ⟨_, _⟩ := bcell (hS rfl))); go_simp; rfl) ?_; simp only [Act.put, List.setIfInBounds_toArray, List.set_cons_zero, List.set_cons_succ]) | (refine plan_skip rfl (by decide) (by rfl) ?_; simp only [Act.put, List.setIfInBounds_toArray, List.set_cons_zero, List.set_cons_succ])))
  refine plan_done ?_
  have b15 : Below w4.heap.size w4 wc15 := by exact belowA
  have bw15 : Below w.heap.size w wc15 := b4.trans (b15.mono (by omega))
  have M1 := Lib.hid ((b15.block _ zb1).trans N1.out)
  have M2 := Lib.hid ((b15.block _ zb2).trans N2.out)
  have z15 : w.heap.size + 1 < wc15.heap.size := by have := b15.size; omega
  clear hbc13 hbc15 c1 c2' b15 N1 N2
  have hl9 := HLl.out
  go_wp2
  go_loopw [20] (fun iv wr => ∃ k : Nat, k ≤ L.length ∧ iv = .int .i64 k ∧ Hid (∀ x ∈ L.take k, eqCut dt b.payload b.off x = true) ∧ Below wc15.heap.size wc15 wr) (fun iv _ => L.length - (intOf iv).toNat)
  case atStart => exact ⟨0, Nat.zero_le _, rfl, Lib.hid (fun x hx => by cases hx), by exact belowA⟩
  case round =>
    obtain ⟨k, hkl, rfl, HOK, hB⟩ := hrel
    have bwr : Below w.heap.size w wr := bw15.trans (hB.mono (by omega))
    have c1 := fun o => cellB ((hB.block _ (by omega)).trans M1.out) o
    have c2' := fun o => cellB ((hB.block _ z15).trans M2.out) o
    have zr1 : w.heap.size < wr.heap.size := by have := hB.size; omega
    have zr2 : w.heap.size + 1 < wr.heap.size := by have := hB.size; omega
    by_cases hlt : k < L.length
    · obtain ⟨x, hx⟩ : ∃ x, L[k]? = some x := ⟨_, List.getElem?_eq_getElem hlt⟩
      obtain ⟨m1, m2, m3⟩ := both_mem (a := kn) (x := spanB b) (y := x) (by rw [HL.out]; exact List.mem_of_getElem? hx)
      rw [HSPB.out] at m1 m3
      simp only at m1 m3
      obtain ⟨rb, ro, rfl, hrb, hrc⟩ := R4.out (by omega)
      have p0 := (hB.cell (p := ⟨rb, ro + k * 2, none⟩) hrb).trans (sp0 hrc hx)
      have p1 := (hB.cell (p := ⟨rb, ro + k * 2 + 1, none⟩) hrb).trans (sp1 hrc hx)
      have HX := Lib.hid hx
      obtain ⟨xf, xt⟩ := x
      simp only at m1 m2 m3 p0 p1
      obtain ⟨f, rfl⟩ := Int.eq_ofNat_of_zero_le (show 0 ≤ xf by omega)
      obtain ⟨t, rfl⟩ := Int.eq_ofNat_of_zero_le (show 0 ≤ xt by omega)
      have zrb : rb < wr.heap.size := by have := hB.size; omega
      have k0 : (0 : Int) ≤ (k : Int) := by omega
      have k1 : (k : Int) < (L.length : Int) := by omega
      have s0 : (0 : Int) ≤ (f : Int) := by omega
      have s1 : (f : Int) ≤ (t : Int) := by omega
      have s2 : (t : Int) ≤ (dt.length : Int) := by omega
      obtain ⟨i, hi⟩ : ∃ i : Nat, f = o + i := ⟨f - o, by omega⟩
      obtain ⟨j, hj⟩ : ∃ j : Nat, t = o + j := ⟨t - o, by omega⟩
      have w1 : IntKind.i64.wrap ((f : Int) - b.off) = (i : Int) := by rw [HOF.out, IntKind.wrap_i64]; omega
      have w2 : IntKind.i64.wrap ((t : Int) - b.off) = (j : Int) := by rw [HOF.out, IntKind.wrap_i64]; omega
      have s3 : (0 : Int) ≤ (i : Int) := by omega
      have s4 : (i : Int) ≤ (j : Int) := by omega
      have s5 : (j : Int) ≤ (b.payload.length : Int) := by omega
      have HEQ : Hid (eqCut dt b.payload b.off ((f : Int), (t : Int)) = ((dt.drop f).take (t - f) == (b.payload.drop i).take (j - i))) := Lib.hid (by
        unfold eqCut
        rw [HOF.out]
        simp only [Int.toNat_natCast]
        rw [show ((f : Int) - (o : Int)).toNat = i by omega, show ((t : Int) - (o : Int)).toNat = j by omega])
      obtain ⟨D, hD⟩ : ∃ q, ((dt.drop f).take (t - f) == (b.payload.drop i).take (j - i)) = q := ⟨_, rfl⟩
      rw [hD] at HEQ
      clear hrc hx hi hj
      cases D with
      | true =>
        go_upto_region 5 with fail
        go_quiet (fail)
        go_wp2
        refine ⟨⟨k + 1, by omega, by go_num, Lib.hid ?_, by exact belowA⟩, by simp [intOf]; omega⟩
        intro z hz
        rw [List.take_add_one, HX.out] at hz
        rcases List.mem_append.1 hz with hz | hz
        · exact HOK.out z hz
        · simp at hz; subst hz; exact HEQ.out
      | false =>
        have HV : Hid (V = false) := Lib.hid (by
          rw [← HV0.out]
          have hn : agrD ⟨h, kn, dt⟩ b = false := by
            rw [← Bool.not_eq_true]
            intro hh
            have := HAG.out.2 hh _ (List.mem_of_getElem? HX.out)
            rw [HEQ.out] at this
            cases this
          unfold agrB
          rw [hn]; rfl)
        go_upto_region 5 with fail
        go_quiet (fail)
        go_wp2
        go_ret
        rw [HV.out]
        exact ⟨rfl, belowA⟩
    · obtain rfl : k = L.length := by omega
      have HAD : Hid (agrD ⟨h, kn, dt⟩ b = true) := Lib.hid (HAG.out.1 (by have := HOK.out; rwa [List.take_length] at this))
      obtain ⟨kb, ko, rfl, hkb, hkcl⟩ := K4.out hkn
      obtain ⟨x0, hx0⟩ : ∃ x, kn[0]? = some x := ⟨_, List.getElem?_eq_getElem (by omega)⟩
      have HX0 := Lib.hid hx0
      have q0 : wr.cell? ⟨kb, ko, none⟩ = some (.int .i64 x0.1) := by have := (bwr.cell (p := ⟨kb, ko + 0 * 2, none⟩) hkb).trans (sp0 hkcl hx0); simpa using this
      have zkb : kb < wr.heap.size := by have := bwr.size; omega
      have hkI : (0 : Int) < (kn.length : Int) := by omega
      have HFR : Hid (fromS kn = x0.1) := Lib.hid (by unfold fromS; rw [hx0])
      clear hkcl hx0
      by_cases f1 : 0 < b.off
      · have d1 : decide (b.off > 0) = true := decide_eq_true f1
        have d1' : decide ((o : Int) > 0) = true := by rw [← HOF.out]; exact d1
        have HV : Hid (V = true) := Lib.hid (by rw [← HV0.out]; unfold agrB; rw [HAD.out, decide_eq_true f1]; rfl)
        clear f1
        go_wp2
        go_ret
        rw [HV.out]
        exact ⟨rfl, belowA⟩
      have d1 : decide (b.off > 0) = false := decide_eq_false f1
      have d1' : decide ((o : Int) > 0) = false := by rw [← HOF.out]; exact d1
      by_cases f2 : 0 < x0.1
      · have d2 : decide (x0.1 > 0) = true := decide_eq_true f2
        have HV : Hid (V = true) := Lib.hid (by rw [← HV0.out]; unfold agrB; rw [HAD.out, HFR.out]; simp [f2])
        clear f1 f2
        go_wp2
        go_ret
        rw [HV.out]
        exact ⟨rfl, belowA⟩
      have d2 : decide (x0.1 > 0) = false := decide_eq_false f2
      have HV : Hid (V = eqBs h.blocks b.blocks) := Lib.hid (by rw [← HV0.out]; unfold agrB; rw [HAD.out, HFR.out]; simp [f1, f2])
      clear f1 f2
      go_wp2_with fail
      refine (eqB_any h.blocks b.blocks _ _ _ (HH.out.below bwr (Nat.le_refl _) (by omega)) (HB.out.below bwr (Nat.le_refl _) (by omega))).mono ?_
      rintro e w9 ⟨rfl, hb9⟩
      go_wp2
      go_ret
      rw [HV.out]
      exact ⟨rfl, belowA⟩
end Go.Proofs.YtmknchdciblfjaaGreat
