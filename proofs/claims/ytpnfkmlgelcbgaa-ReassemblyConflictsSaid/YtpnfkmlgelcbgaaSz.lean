/- Chapter 18: the reference: Add. -/
import Derived.BigQuiet
import Derived.BigRegion
import Derived.Deep.DeepCutAuto
import Derived.Deep.CutBlock
import Derived.Test.YtpnfkmlgelcbgaaSy
import Derived.Test.YtpnfkmlgelcbgaaSw
import Derived.Test.YtpnfkmlgelcbgaaSq
set_option linter.unusedVariables false
set_option linter.unusedSimpArgs false
namespace Go.Proofs.Ytpnfkmlgelcbgaa
open Go Go.RowKit Iv
attribute [local go_sem] Oper.semAt_some
attribute [local go_sem] B_getElem B_size B_app B_extract B_get B_toList
set_option maxRecDepth 100000 in
set_option maxHeartbeats 32000000 in
theorem radd_any (p : Par) (b : Bun) (ub uk u : Value) (N : Nat) (w : World) (hN : N ≤ w.heap.size) (hh : RBlks w N ub p.head.blocks) (hk : RSps w w.heap.size uk p.known) (hr : RBlks w N u b.blocks) (hfp : Fits p.head) (hd : p.data.length ≤ maxLen) (hf : Fits b) :
    Calls Try.prog 16 #[.agg (parC p ub uk).toArray, .agg (bunC b u).toArray] w (ParPostO N ub u (addP p b) w) := by
  obtain ⟨h, kn, dt⟩ := p
  simp only at hh hk hfp hd
  obtain ⟨a, c, rfl, -⟩ := id hh
  obtain ⟨ka, kc, rfl, -⟩ := id hk
  obtain ⟨a2, c2, rfl, -⟩ := id hr
  have HHN := Lib.hid hh
  have HBN := Lib.hid hr
  have HH := Lib.hid (hh.wide hN)
  have HK := Lib.hid hk
  have HB := Lib.hid (hr.wide hN)
  have HFP := Lib.hid hfp
  have HF := Lib.hid hf
  have HD := Lib.hid hd
  obtain ⟨V, hV⟩ : ∃ q, addP ⟨h, kn, dt⟩ b = q := ⟨_, rfl⟩
  have HVV := Lib.hid hV
  rw [hV]
  obtain ⟨E1, hE1⟩ : ∃ q, chkP ⟨h, kn, dt⟩ = q := ⟨_, rfl⟩
  have HE1 := Lib.hid hE1
  obtain ⟨E2, hE2⟩ : ∃ q, chkE b = q := ⟨_, rfl⟩
  have HE2 := Lib.hid hE2
  clear hh hk hr hfp hf hd hV
  go_enter Try.func16, Try.ntmps16
  simp only [parC, bunC, List.cons_append, List.nil_append]
  go_wp2_with fail
  refine (rchkP_any ⟨h, kn, dt⟩ _ _ _ (HH.out.below (C := w.heap.size) (by exact belowA) (Nat.le_refl _) (by simp; omega)) (HK.out.below (C := w.heap.size) (by exact belowA) (Nat.le_refl _) (by simp; omega)) HFP.out HD.out).mono ?_
  rw [HE1.out]
  rintro e w1 ⟨rfl, hb⟩
  have bw1 : Below w.heap.size w w1 := btrans0 (by exact belowA) hb
  have zw1 : w.heap.size + 2 < w1.heap.size := by have := hb.size; simp at this; omega
  have Pw1 : Hid (w1.heap[w.heap.size]? = some (.cells #[.int .i64 h.src, .int .i64 h.crt, .int .i64 h.seq, .int .i64 h.off, .int .i64 h.tot, .int .i64 h.dk, .int .i64 h.dn, .int .i64 h.life, .int .i64 h.prio, .int .i64 h.flags, .slice a h.blocks.length c, .string (B h.payload), .slice ka kn.length kc, .string (B dt)] 31 (0, 0))) := Lib.hid ((hb.block _ (by simp; omega)).trans ((Below.heap_alloc _ _ _ (by simp; omega)).trans ((Below.heap_alloc _ _ _ (by simp)).trans heap_new)))
  have Bw1 : Hid (w1.heap[w.heap.size + 1]? = some (.cells #[.int .i64 b.src, .int .i64 b.crt, .int .i64 b.seq, .int .i64 b.off, .int .i64 b.tot, .int .i64 b.dk, .int .i64 b.dn, .int .i64 b.life, .int .i64 b.prio, .int .i64 b.flags, .slice a2 b.blocks.length c2, .string (B b.payload)] 28 (0, 0))) := Lib.hid ((hb.block _ (by simp)).trans ((Below.heap_alloc _ _ _ (by simp)).trans (heap_new' (by simp))))
  have Rw1 : Hid (w1.heap[w.heap.size + 2]? = some (.cells #[.int .i64 0, .int .i64 0, .int .i64 0, .int .i64 0, .int .i64 0, .int .i64 0, .int .i64 0, .int .i64 0, .int .i64 0, .int .i64 0, .slice none 0 0, .string ⟨#[]⟩, .slice none 0 0, .string ⟨#[]⟩] 31 (0, 0))) := Lib.hid ((hb.block _ (by simp)).trans (heap_new' (by simp)))
  have yw1 : w.heap.size < w1.heap.size := by omega
  have xw1 : w.heap.size + 1 < w1.heap.size := by omega
  have cp := fun o => cellB Pw1.out o
  have cb := fun o => cellB Bw1.out o
  have cr := fun o => cellB Rw1.out o
  have fr := fun o => frozenB Rw1.out o
  clear hb
  by_cases e1 : E1 = 0
  case neg =>
    have HV : Hid (V = (zPar, 1)) := Lib.hid (by rw [← HVV.out]; exact addP_1 (.inl (by rw [HE1.out]; exact e1)))
    have e1' : (E1 != 0) = true := by rw [bne_iff_ne]; exact e1
    clear e1 hE1 hE2
    as_aux_lemma =>
      clear cp cr fr
      rw [show w.heap.size + 1 + 1 = w.heap.size + 2 from rfl]
      go_wp2_with (refine wpList_store_block rfl 31 _ _ rfl (w.heap.size + 2) #[.int .i64 0, .int .i64 0, .int .i64 0, .int .i64 0, .int .i64 0, .int .i64 0, .int .i64 0, .int .i64 0, .int .i64 0, .int .i64 0, .slice none 0 0, .string ⟨#[]⟩, .slice none 0 0, .string ⟨#[]⟩] _ 31 rfl rfl Rw1.out rfl (by kernel_rfl) (by simp [Value.oneCell']) ?_; intro wF hW hbW hsW hoW; have bF : Below w.heap.size w wF := bw1.trans (hbW _ (by omega)); have zF : w.heap.size + 2 < wF.heap.size := (by rw [hsW]; exact zw1); have cF := fun o => cellB hW o; clear hW hbW hsW hoW)
      refine bodyPost_ret (v := .tuple #[.agg #[.int .i64 0, .int .i64 0, .int .i64 0, .int .i64 0, .int .i64 0, .int .i64 0, .int .i64 0, .int .i64 0, .int .i64 0, .int .i64 0, .slice none 0 0, .string ⟨#[]⟩, .slice none 0 0, .string ⟨#[]⟩], .int .i64 1]) (by simp [results, Try.results16, go_sem, World.cell?_setCell_same', cF, zF]) rfl ?_
      rw [HV.out]
      exact ⟨_, _, rfl, .inl rfl, RBlks.nil _ _, RSps.nil _ _, rfrom_nil _ _ _, bF⟩
  subst e1
  go_wp2_with fail
  refine (rcheck_any b _ _ (HB.out.below (C := w.heap.size) bw1 (Nat.le_refl _) (by omega)) HF.out).mono ?_
  rw [HE2.out]
  rintro e w2 ⟨rfl, hb2⟩
  have kw2 : Below w1.heap.size w1 w2 := hb2
  have bw2 : Below w.heap.size w w2 := bw1.trans (kw2.mono bw1.size)
  have zw2 : w.heap.size + 2 < w2.heap.size := by have := kw2.size; omega
  have Pw2 : Hid (w2.heap[w.heap.size]? = some (.cells #[.int .i64 h.src, .int .i64 h.crt, .int .i64 h.seq, .int .i64 h.off, .int .i64 h.tot, .int .i64 h.dk, .int .i64 h.dn, .int .i64 h.life, .int .i64 h.prio, .int .i64 h.flags, .slice a h.blocks.length c, .string (B h.payload), .slice ka kn.length kc, .string (B dt)] 31 (0, 0))) := Lib.hid ((kw2.block _ (by omega)).trans Pw1.out)
  have Bw2 : Hid (w2.heap[w.heap.size + 1]? = some (.cells #[.int .i64 b.src, .int .i64 b.crt, .int .i64 b.seq, .int .i64 b.off, .int .i64 b.tot, .int .i64 b.dk, .int .i64 b.dn, .int .i64 b.life, .int .i64 b.prio, .int .i64 b.flags, .slice a2 b.blocks.length c2, .string (B b.payload)] 28 (0, 0))) := Lib.hid ((kw2.block _ (by omega)).trans Bw1.out)
  have Rw2 : Hid (w2.heap[w.heap.size + 2]? = some (.cells #[.int .i64 0, .int .i64 0, .int .i64 0, .int .i64 0, .int .i64 0, .int .i64 0, .int .i64 0, .int .i64 0, .int .i64 0, .int .i64 0, .slice none 0 0, .string ⟨#[]⟩, .slice none 0 0, .string ⟨#[]⟩] 31 (0, 0))) := Lib.hid ((kw2.block _ (by omega)).trans Rw1.out)
  clear cp cb cr fr kw2 Pw1 Bw1 Rw1 yw1 xw1
  have yw2 : w.heap.size < w2.heap.size := by omega
  have xw2 : w.heap.size + 1 < w2.heap.size := by omega
  have cp := fun o => cellB Pw2.out o
  have cb := fun o => cellB Bw2.out o
  have cr := fun o => cellB Rw2.out o
  have fr := fun o => frozenB Rw2.out o
  clear hb2
  by_cases e2 : E2 = 0
  case neg =>
    have HV : Hid (V = (zPar, 1)) := Lib.hid (by rw [← HVV.out]; exact addP_1 (.inr (by rw [HE2.out]; exact e2)))
    have e2' : (E2 != 0) = true := by rw [bne_iff_ne]; exact e2
    clear e2 hE1 hE2
    as_aux_lemma =>
      clear cp cr fr
      rw [show w.heap.size + 1 + 1 = w.heap.size + 2 from rfl]
      go_wp2_with (refine wpList_store_block rfl 31 _ _ rfl (w.heap.size + 2) #[.int .i64 0, .int .i64 0, .int .i64 0, .int .i64 0, .int .i64 0, .int .i64 0, .int .i64 0, .int .i64 0, .int .i64 0, .int .i64 0, .slice none 0 0, .string ⟨#[]⟩, .slice none 0 0, .string ⟨#[]⟩] _ 31 rfl rfl Rw2.out rfl (by kernel_rfl) (by simp [Value.oneCell']) ?_; intro wF hW hbW hsW hoW; have bF : Below w.heap.size w wF := bw2.trans (hbW _ (by omega)); have zF : w.heap.size + 2 < wF.heap.size := (by rw [hsW]; exact zw2); have cF := fun o => cellB hW o; clear hW hbW hsW hoW)
      refine bodyPost_ret (v := .tuple #[.agg #[.int .i64 0, .int .i64 0, .int .i64 0, .int .i64 0, .int .i64 0, .int .i64 0, .int .i64 0, .int .i64 0, .int .i64 0, .int .i64 0, .slice none 0 0, .string ⟨#[]⟩, .slice none 0 0, .string ⟨#[]⟩], .int .i64 1]) (by simp [results, Try.results16, go_sem, World.cell?_setCell_same', cF, zF]) rfl ?_
      rw [HV.out]
      exact ⟨_, _, rfl, .inl rfl, RBlks.nil _ _, RSps.nil _ _, rfrom_nil _ _ _, bF⟩
  subst e2
  have hv := valid_facts hE2
  have hp := chkP_zero hE1
  by_cases t : 0 < b.tot
  case neg =>
    have HV : Hid (V = (zPar, 19)) := Lib.hid (by rw [← HVV.out]; exact addP_2 hE1 hE2 t)
    have t' : (b.tot == 0) = true := by rw [beq_iff_eq]; have := hv.2.1; omega
    clear hE1 hE2 hv hp t
    as_aux_lemma =>
      clear cp cr fr
      rw [show w.heap.size + 1 + 1 = w.heap.size + 2 from rfl]
      go_wp2_with (refine wpList_store_block rfl 31 _ _ rfl (w.heap.size + 2) #[.int .i64 0, .int .i64 0, .int .i64 0, .int .i64 0, .int .i64 0, .int .i64 0, .int .i64 0, .int .i64 0, .int .i64 0, .int .i64 0, .slice none 0 0, .string ⟨#[]⟩, .slice none 0 0, .string ⟨#[]⟩] _ 31 rfl rfl Rw2.out rfl (by kernel_rfl) (by simp [Value.oneCell']) ?_; intro wF hW hbW hsW hoW; have bF : Below w.heap.size w wF := bw2.trans (hbW _ (by omega)); have zF : w.heap.size + 2 < wF.heap.size := (by rw [hsW]; exact zw2); have cF := fun o => cellB hW o; clear hW hbW hsW hoW)
      refine bodyPost_ret (v := .tuple #[.agg #[.int .i64 0, .int .i64 0, .int .i64 0, .int .i64 0, .int .i64 0, .int .i64 0, .int .i64 0, .int .i64 0, .int .i64 0, .int .i64 0, .slice none 0 0, .string ⟨#[]⟩, .slice none 0 0, .string ⟨#[]⟩], .int .i64 19]) (by simp [results, Try.results16, go_sem, World.cell?_setCell_same', cF, zF]) rfl ?_
      rw [HV.out]
      exact ⟨_, _, rfl, .inl rfl, RBlks.nil _ _, RSps.nil _ _, rfrom_nil _ _ _, bF⟩
  have t' : (b.tot == 0) = false := by rw [beq_eq_false_iff_ne]; omega
  obtain ⟨v1, v2, v3, v4, v5, v6, v7, v8, v9, v10⟩ := hv
  obtain ⟨v11, v12⟩ := v10 t
  obtain ⟨p1, p2, p3, p4⟩ := hp
  have hp1 : chkE h = 0 := p1.1
  have hp2 : h.tot ≤ 0 := p1.2.1
  have g1 := valid_facts hp1
  have HHF := Lib.hid (valid_blocks hp1)
  have HBF := Lib.hid (valid_blocks hE2)
  have hhl : h.blocks.length ≤ 1000 := by omega
  have hbl : b.blocks.length ≤ 1000 := by omega
  have HP1 := Lib.hid hp1
  have HHT : Hid (h.tot = 0) := Lib.hid (by omega)
  have HKC : Hid (chkSp kn = 0) := Lib.hid p3
  have HKN : Hid (0 < kn.length) := Lib.hid p4
  have HT := Lib.hid t
  have hlen : dt.length ≤ 4096 := p2
  have hpl : b.payload.length ≤ 4096 := v5
  have HB0 : Hid (0 ≤ b.off ∧ b.off ≤ 100000 ∧ b.payload.length ≤ 100000 ∧ 0 < b.payload.length ∧ b.off + b.payload.length ≤ b.tot) := Lib.hid ⟨v1, by omega, by omega, by omega, v12⟩
  have hsp : chkSp [spanB b] = 0 := chk_one (by unfold spanB; simp only; omega) (by unfold spanB; simp only; omega) (by unfold spanB; simp only; omega)
  have HSP := Lib.hid hsp
  have HCO := Lib.hid ((by rw [ins2_ins (chkSp_zero p3).2.1] : limS (ins2 kn (spanB b)) = limS (ins kn (spanB b))))
  clear v1 v2 v3 v4 v5 v6 v7 v8 v9 v10 v11 v12 p1 p2 p3 p4 hp1 hp2 g1 t hsp
  obtain ⟨QB, hQB⟩ : ∃ q, belB ⟨h, kn, dt⟩ b = q := ⟨_, rfl⟩
  have HQB := Lib.hid hQB
  go_wp2_with fail
  refine (rbelongs_any ⟨h, kn, dt⟩ b _ _ _ _ (HH.out.below (C := w.heap.size) bw2 (Nat.le_refl _) (by omega)) (HK.out.below (C := w.heap.size) bw2 (Nat.le_refl _) (by omega)) (HB.out.below (C := w.heap.size) bw2 (Nat.le_refl _) (by omega)) HD.out HP1.out HHT.out HE2.out).mono ?_
  rw [HQB.out]
  rintro e w4 ⟨rfl, hb4⟩
  have kw4 : Below w2.heap.size w2 w4 := hb4
  have bw4 : Below w.heap.size w w4 := bw2.trans (kw4.mono bw2.size)
  have zw4 : w.heap.size + 2 < w4.heap.size := by have := kw4.size; omega
  have Pw4 : Hid (w4.heap[w.heap.size]? = some (.cells #[.int .i64 h.src, .int .i64 h.crt, .int .i64 h.seq, .int .i64 h.off, .int .i64 h.tot, .int .i64 h.dk, .int .i64 h.dn, .int .i64 h.life, .int .i64 h.prio, .int .i64 h.flags, .slice a h.blocks.length c, .string (B h.payload), .slice ka kn.length kc, .string (B dt)] 31 (0, 0))) := Lib.hid ((kw4.block _ (by omega)).trans Pw2.out)
  have Bw4 : Hid (w4.heap[w.heap.size + 1]? = some (.cells #[.int .i64 b.src, .int .i64 b.crt, .int .i64 b.seq, .int .i64 b.off, .int .i64 b.tot, .int .i64 b.dk, .int .i64 b.dn, .int .i64 b.life, .int .i64 b.prio, .int .i64 b.flags, .slice a2 b.blocks.length c2, .string (B b.payload)] 28 (0, 0))) := Lib.hid ((kw4.block _ (by omega)).trans Bw2.out)
  have Rw4 : Hid (w4.heap[w.heap.size + 2]? = some (.cells #[.int .i64 0, .int .i64 0, .int .i64 0, .int .i64 0, .int .i64 0, .int .i64 0, .int .i64 0, .int .i64 0, .int .i64 0, .int .i64 0, .slice none 0 0, .string ⟨#[]⟩, .slice none 0 0, .string ⟨#[]⟩] 31 (0, 0))) := Lib.hid ((kw4.block _ (by omega)).trans Rw2.out)
  clear cp cb cr fr kw4 Pw2 Bw2 Rw2 yw2 xw2
  have yw4 : w.heap.size < w4.heap.size := by omega
  have xw4 : w.heap.size + 1 < w4.heap.size := by omega
  have cp := fun o => cellB Pw4.out o
  have cb := fun o => cellB Bw4.out o
  have cr := fun o => cellB Rw4.out o
  have fr := fun o => frozenB Rw4.out o
  clear hb4
  cases QB with
  | false =>
    have HV : Hid (V = (zPar, 10)) := Lib.hid (by rw [← HVV.out]; exact addP_3 HE1.out HE2.out HT.out HQB.out)
    as_aux_lemma =>
      clear cp cr fr
      rw [show w.heap.size + 1 + 1 = w.heap.size + 2 from rfl]
      go_wp2_with (refine wpList_store_block rfl 31 _ _ rfl (w.heap.size + 2) #[.int .i64 0, .int .i64 0, .int .i64 0, .int .i64 0, .int .i64 0, .int .i64 0, .int .i64 0, .int .i64 0, .int .i64 0, .int .i64 0, .slice none 0 0, .string ⟨#[]⟩, .slice none 0 0, .string ⟨#[]⟩] _ 31 rfl rfl Rw4.out rfl (by kernel_rfl) (by simp [Value.oneCell']) ?_; intro wF hW hbW hsW hoW; have bF : Below w.heap.size w wF := bw4.trans (hbW _ (by omega)); have zF : w.heap.size + 2 < wF.heap.size := (by rw [hsW]; exact zw4); have cF := fun o => cellB hW o; clear hW hbW hsW hoW)
      refine bodyPost_ret (v := .tuple #[.agg #[.int .i64 0, .int .i64 0, .int .i64 0, .int .i64 0, .int .i64 0, .int .i64 0, .int .i64 0, .int .i64 0, .int .i64 0, .int .i64 0, .slice none 0 0, .string ⟨#[]⟩, .slice none 0 0, .string ⟨#[]⟩], .int .i64 10]) (by simp [results, Try.results16, go_sem, World.cell?_setCell_same', cF, zF]) rfl ?_
      rw [HV.out]
      exact ⟨_, _, rfl, .inl rfl, RBlks.nil _ _, RSps.nil _ _, rfrom_nil _ _ _, bF⟩
  | true =>
  have htt : b.tot = dt.length := belB_tot HQB.out
  have HTT := Lib.hid htt
  obtain ⟨QA, hQA⟩ : ∃ q, agrB ⟨h, kn, dt⟩ b = q := ⟨_, rfl⟩
  have HQA := Lib.hid hQA
  clear hQA htt hQB
  go_wp2_with fail
  refine (ragr_any ⟨h, kn, dt⟩ b _ _ _ _ (HH.out.below (C := w.heap.size) bw4 (Nat.le_refl _) (by omega)) (HK.out.below (C := w.heap.size) bw4 (Nat.le_refl _) (by omega)) (HB.out.below (C := w.heap.size) bw4 (Nat.le_refl _) (by omega)) HF.out HE1.out HE2.out HTT.out HT.out).mono ?_
  rw [HQA.out]
  rintro e w5 ⟨rfl, hb5⟩
  have kw5 : Below w4.heap.size w4 w5 := hb5
  have bw5 : Below w.heap.size w w5 := bw4.trans (kw5.mono bw4.size)
  have zw5 : w.heap.size + 2 < w5.heap.size := by have := kw5.size; omega
  have Pw5 : Hid (w5.heap[w.heap.size]? = some (.cells #[.int .i64 h.src, .int .i64 h.crt, .int .i64 h.seq, .int .i64 h.off, .int .i64 h.tot, .int .i64 h.dk, .int .i64 h.dn, .int .i64 h.life, .int .i64 h.prio, .int .i64 h.flags, .slice a h.blocks.length c, .string (B h.payload), .slice ka kn.length kc, .string (B dt)] 31 (0, 0))) := Lib.hid ((kw5.block _ (by omega)).trans Pw4.out)
  have Bw5 : Hid (w5.heap[w.heap.size + 1]? = some (.cells #[.int .i64 b.src, .int .i64 b.crt, .int .i64 b.seq, .int .i64 b.off, .int .i64 b.tot, .int .i64 b.dk, .int .i64 b.dn, .int .i64 b.life, .int .i64 b.prio, .int .i64 b.flags, .slice a2 b.blocks.length c2, .string (B b.payload)] 28 (0, 0))) := Lib.hid ((kw5.block _ (by omega)).trans Bw4.out)
  have Rw5 : Hid (w5.heap[w.heap.size + 2]? = some (.cells #[.int .i64 0, .int .i64 0, .int .i64 0, .int .i64 0, .int .i64 0, .int .i64 0, .int .i64 0, .int .i64 0, .int .i64 0, .int .i64 0, .slice none 0 0, .string ⟨#[]⟩, .slice none 0 0, .string ⟨#[]⟩] 31 (0, 0))) := Lib.hid ((kw5.block _ (by omega)).trans Rw4.out)
  clear cp cb cr fr kw5 Pw4 Bw4 Rw4 yw4 xw4
  have yw5 : w.heap.size < w5.heap.size := by omega
  have xw5 : w.heap.size + 1 < w5.heap.size := by omega
  have cp := fun o => cellB Pw5.out o
  have cb := fun o => cellB Bw5.out o
  have cr := fun o => cellB Rw5.out o
  have fr := fun o => frozenB Rw5.out o
  clear hb5
  cases QA with
  | false =>
    have HV : Hid (V = (zPar, 24)) := Lib.hid (by rw [← HVV.out]; exact addP_4 HE1.out HE2.out HT.out HQB.out HQA.out)
    as_aux_lemma =>
      clear cp cr fr
      rw [show w.heap.size + 1 + 1 = w.heap.size + 2 from rfl]
      go_wp2_with (refine wpList_store_block rfl 31 _ _ rfl (w.heap.size + 2) #[.int .i64 0, .int .i64 0, .int .i64 0, .int .i64 0, .int .i64 0, .int .i64 0, .int .i64 0, .int .i64 0, .int .i64 0, .int .i64 0, .slice none 0 0, .string ⟨#[]⟩, .slice none 0 0, .string ⟨#[]⟩] _ 31 rfl rfl Rw5.out rfl (by kernel_rfl) (by simp [Value.oneCell']) ?_; intro wF hW hbW hsW hoW; have bF : Below w.heap.size w wF := bw5.trans (hbW _ (by omega)); have zF : w.heap.size + 2 < wF.heap.size := (by rw [hsW]; exact zw5); have cF := fun o => cellB hW o; clear hW hbW hsW hoW)
      refine bodyPost_ret (v := .tuple #[.agg #[.int .i64 0, .int .i64 0, .int .i64 0, .int .i64 0, .int .i64 0, .int .i64 0, .int .i64 0, .int .i64 0, .int .i64 0, .int .i64 0, .slice none 0 0, .string ⟨#[]⟩, .slice none 0 0, .string ⟨#[]⟩], .int .i64 24]) (by simp [results, Try.results16, go_sem, World.cell?_setCell_same', cF, zF]) rfl ?_
      rw [HV.out]
      exact ⟨_, _, rfl, .inl rfl, RBlks.nil _ _, RSps.nil _ _, rfrom_nil _ _ _, bF⟩
  | true =>
  have HV5 : Hid (V = if 1000 < (ins kn (spanB b)).length then (zPar, 4) else (⟨{ h with blocks := if b.off = 0 then b.blocks else h.blocks }, ins kn (spanB b), writeS dt b⟩, 0)) := Lib.hid (by rw [← HVV.out]; exact addP_5 HE1.out HE2.out HT.out HQB.out HQA.out)
  obtain ⟨L, hL⟩ : ∃ q, ins kn (spanB b) = q := ⟨_, rfl⟩
  rw [hL] at HCO HV5
  obtain ⟨D, hD⟩ : ∃ q, writeS dt b = q := ⟨_, rfl⟩
  have HDD := Lib.hid hD
  rw [hD] at HV5
  clear hL hD hE1 hE2
  as_aux_lemma =>
    go_upto_region 9 with fail
    refine wp_region_plan (fun V => Below (w5).heap.size (w5) V) [0, 1, 1, 2, 2, 3, 0, 0, 0, 0, 0] [0, 1, 2, 3, 4, 5, 6, 7, 8, 9, 10] (by kernel_rfl) (by kernel_rfl) ?_ ?_
    case refine_1 => exact belowA
    (iterate 3 (first | (refine plan_held rfl (by decide) (by rfl) (fun w1 hS => by (try (obtain ⟨_, _⟩ := bcell (hS rfl))); go_simp; rfl) ?_; simp only [Act.put, List.setIfInBounds_toArray, List.set_cons_zero, List.set_cons_succ]) | (refine plan_skip rfl (by decide) (by rfl) ?_; simp only [Act.put, List.setIfInBounds_toArray, List.set_cons_zero, List.set_cons_succ])))
    (refine plan_keep rfl rfl (by rfl) (fun K hK => ?_); go_simp)
    refine (qspan_any b _ _ (HB.out.below (C := w.heap.size) (btrans0 bw5 belowA) (Nat.le_refl _) (Below.size (btrans0 bw5 belowA))) HB0.out.1 HB0.out.2.1 HB0.out.2.2.1).mono ?_
    rintro e wc36 ⟨rfl, hbc36⟩
    (refine hK _ _ (by exact belowA) ?_; clear hK K; (try simp only [Act.put, List.setIfInBounds_toArray, List.set_cons_zero, List.set_cons_succ]))
    (refine plan_keep rfl rfl (by rfl) (fun K hK => ?_); go_simp)
    (refine hK _ _ (by exact belowA) ?_; clear hK K; (try simp only [Act.put, List.setIfInBounds_toArray, List.set_cons_zero, List.set_cons_succ]))
    (refine plan_late rfl rfl (by rfl) (fun K hK => ?_); go_simp)
    refine (runion_any kn (spanB b) _ _ _ (HK.out.below (C := w.heap.size) (btrans0 bw5 belowA) (Nat.le_refl _) (Below.size (btrans0 bw5 belowA))) (RSps.one (t := 47) (f := (0, 0)) (by exact heap_new) rfl) HKN.out HSP.out HKC.out).mono ?_
    rw [HCO.out]
    rintro e wc38 ⟨r, rfl, hr, hf9, hbc38⟩
    obtain ⟨ra, rc, rfl⟩ : ∃ ra rc, r = .slice ra (limS L).1.length rc := by obtain ⟨a, c, h, _⟩ := hr; exact ⟨a, c, h⟩
    have R9 := Lib.hid hr
    have F9 : Hid (RFrom w5.heap.size (.slice ra (limS L).1.length rc)) := Lib.hid (hf9.le (by have := hbc36.size; have e5 : w5.drew.heap.size = w5.heap.size := rfl; simp at this ⊢; omega))
    clear hr hf9
    (refine hK _ _ ?_; clear hK K; (try simp only [Act.put, List.setIfInBounds_toArray, List.set_cons_zero, List.set_cons_succ]))
    (iterate 5 (first | (refine plan_held rfl (by decide) (by rfl) (fun w1 hS => by (try (obtain ⟨_, _⟩ := bcell (hS rfl))); go_simp; rfl) ?_; simp only [Act.put, List.setIfInBounds_toArray, List.set_cons_zero, List.set_cons_succ]) | (refine plan_skip rfl (by decide) (by rfl) ?_; simp only [Act.put, List.setIfInBounds_toArray, List.set_cons_zero, List.set_cons_succ])))
    refine plan_done ?_
    have kk6 : Below w5.heap.size w5 wc38 := by exact belowA
    have kwc38 : Below w5.heap.size w5 wc38 := kk6
    have bwc38 : Below w.heap.size w wc38 := bw5.trans (kwc38.mono bw5.size)
    have zwc38 : w.heap.size + 2 < wc38.heap.size := by have := kwc38.size; omega
    have Pwc38 : Hid (wc38.heap[w.heap.size]? = some (.cells #[.int .i64 h.src, .int .i64 h.crt, .int .i64 h.seq, .int .i64 h.off, .int .i64 h.tot, .int .i64 h.dk, .int .i64 h.dn, .int .i64 h.life, .int .i64 h.prio, .int .i64 h.flags, .slice a h.blocks.length c, .string (B h.payload), .slice ka kn.length kc, .string (B dt)] 31 (0, 0))) := Lib.hid ((kwc38.block _ (by omega)).trans Pw5.out)
    have Bwc38 : Hid (wc38.heap[w.heap.size + 1]? = some (.cells #[.int .i64 b.src, .int .i64 b.crt, .int .i64 b.seq, .int .i64 b.off, .int .i64 b.tot, .int .i64 b.dk, .int .i64 b.dn, .int .i64 b.life, .int .i64 b.prio, .int .i64 b.flags, .slice a2 b.blocks.length c2, .string (B b.payload)] 28 (0, 0))) := Lib.hid ((kwc38.block _ (by omega)).trans Bw5.out)
    have Rwc38 : Hid (wc38.heap[w.heap.size + 2]? = some (.cells #[.int .i64 0, .int .i64 0, .int .i64 0, .int .i64 0, .int .i64 0, .int .i64 0, .int .i64 0, .int .i64 0, .int .i64 0, .int .i64 0, .slice none 0 0, .string ⟨#[]⟩, .slice none 0 0, .string ⟨#[]⟩] 31 (0, 0))) := Lib.hid ((kwc38.block _ (by omega)).trans Rw5.out)
    clear cp cb cr fr kwc38 Pw5 Bw5 Rw5 yw5 xw5
    have ywc38 : w.heap.size < wc38.heap.size := by omega
    have xwc38 : w.heap.size + 1 < wc38.heap.size := by omega
    have cp := fun o => cellB Pwc38.out o
    have cb := fun o => cellB Bwc38.out o
    have cr := fun o => cellB Rwc38.out o
    have fr := fun o => frozenB Rwc38.out o
    clear kk6
    by_cases l1 : 1000 < L.length
    · have HV : Hid (V = (zPar, 4)) := Lib.hid (by rw [HV5.out, if_pos l1])
      have e6 : (limS L).2 = 4 := by unfold limS; rw [if_pos l1]
      rw [e6]
      clear R9 F9 l1
      as_aux_lemma =>
        clear cp cr fr
        rw [show w.heap.size + 1 + 1 = w.heap.size + 2 from rfl]
        go_wp2_with (refine wpList_store_block rfl 31 _ _ rfl (w.heap.size + 2) #[.int .i64 0, .int .i64 0, .int .i64 0, .int .i64 0, .int .i64 0, .int .i64 0, .int .i64 0, .int .i64 0, .int .i64 0, .int .i64 0, .slice none 0 0, .string ⟨#[]⟩, .slice none 0 0, .string ⟨#[]⟩] _ 31 rfl rfl Rwc38.out rfl (by kernel_rfl) (by simp [Value.oneCell']) ?_; intro wF hW hbW hsW hoW; have bF : Below w.heap.size w wF := bwc38.trans (hbW _ (by omega)); have zF : w.heap.size + 2 < wF.heap.size := (by rw [hsW]; exact zwc38); have cF := fun o => cellB hW o; clear hW hbW hsW hoW)
        refine bodyPost_ret (v := .tuple #[.agg #[.int .i64 0, .int .i64 0, .int .i64 0, .int .i64 0, .int .i64 0, .int .i64 0, .int .i64 0, .int .i64 0, .int .i64 0, .int .i64 0, .slice none 0 0, .string ⟨#[]⟩, .slice none 0 0, .string ⟨#[]⟩], .int .i64 4]) (by simp [results, Try.results16, go_sem, World.cell?_setCell_same', cF, zF]) rfl ?_
        rw [HV.out]
        exact ⟨_, _, rfl, .inl rfl, RBlks.nil _ _, RSps.nil _ _, rfrom_nil _ _ _, bF⟩
    have HV6 : Hid (V = (⟨{ h with blocks := if b.off = 0 then b.blocks else h.blocks }, L, D⟩, 0)) := Lib.hid (by rw [HV5.out, if_neg l1])
    have e6 : limS L = (L, 0) := if_neg l1
    rw [e6] at R9 F9 ⊢
    simp only at R9 F9 ⊢
    have hdl : dt.length ≤ 100000 := by omega
    clear l1 e6
    go_wp2_with fail
    refine (rwrite_any dt b _ _ (HB.out.below (C := w.heap.size) bwc38 (Nat.le_refl _) (by omega)) hdl HB0.out.1 (by rw [← HTT.out]; exact HB0.out.2.2.2.2)).mono ?_
    rw [HDD.out]
    rintro e w7 ⟨rfl, hb7⟩
    have kw7 : Below wc38.heap.size wc38 w7 := hb7
    have bw7 : Below w.heap.size w w7 := bwc38.trans (kw7.mono bwc38.size)
    have zw7 : w.heap.size + 2 < w7.heap.size := by have := kw7.size; omega
    have Pw7 : Hid (w7.heap[w.heap.size]? = some (.cells #[.int .i64 h.src, .int .i64 h.crt, .int .i64 h.seq, .int .i64 h.off, .int .i64 h.tot, .int .i64 h.dk, .int .i64 h.dn, .int .i64 h.life, .int .i64 h.prio, .int .i64 h.flags, .slice a h.blocks.length c, .string (B h.payload), .slice ka kn.length kc, .string (B dt)] 31 (0, 0))) := Lib.hid ((kw7.block _ (by omega)).trans Pwc38.out)
    have Bw7 : Hid (w7.heap[w.heap.size + 1]? = some (.cells #[.int .i64 b.src, .int .i64 b.crt, .int .i64 b.seq, .int .i64 b.off, .int .i64 b.tot, .int .i64 b.dk, .int .i64 b.dn, .int .i64 b.life, .int .i64 b.prio, .int .i64 b.flags, .slice a2 b.blocks.length c2, .string (B b.payload)] 28 (0, 0))) := Lib.hid ((kw7.block _ (by omega)).trans Bwc38.out)
    have Rw7 : Hid (w7.heap[w.heap.size + 2]? = some (.cells #[.int .i64 0, .int .i64 0, .int .i64 0, .int .i64 0, .int .i64 0, .int .i64 0, .int .i64 0, .int .i64 0, .int .i64 0, .int .i64 0, .slice none 0 0, .string ⟨#[]⟩, .slice none 0 0, .string ⟨#[]⟩] 31 (0, 0))) := Lib.hid ((kw7.block _ (by omega)).trans Rwc38.out)
    clear cp cb cr fr kw7 Pwc38 Bwc38 Rwc38 ywc38 xwc38
    have yw7 : w.heap.size < w7.heap.size := by omega
    have xw7 : w.heap.size + 1 < w7.heap.size := by omega
    have cp := fun o => cellB Pw7.out o
    have cb := fun o => cellB Bw7.out o
    have cr := fun o => cellB Rw7.out o
    have fr := fun o => frozenB Rw7.out o
    have R7 := Lib.hid (R9.out.below' hb7)
    clear hb7
    have fp := fun o => frozenB Pw7.out o
    as_aux_lemma =>
      go_upto_region 13 with fail
      obtain ⟨w8, hw8⟩ : ∃ q, q = (w7.setCell ⟨w.heap.size, 12, none⟩ (.slice ra L.length rc)).setCell ⟨w.heap.size, 13, none⟩ (.string (B D)) := ⟨_, rfl⟩
      rw [← hw8]
      have g8 : w8.heap[w.heap.size]? = some (.cells #[.int .i64 h.src, .int .i64 h.crt, .int .i64 h.seq, .int .i64 h.off, .int .i64 h.tot, .int .i64 h.dk, .int .i64 h.dn, .int .i64 h.life, .int .i64 h.prio, .int .i64 h.flags, .slice a h.blocks.length c, .string (B h.payload), .slice ra L.length rc, .string (B D)] 31 (0, 0)) := by
        rw [hw8]
        have := setB (setB Pw7.out 12 (.slice ra L.length rc)) 13 (.string (B D))
        simpa using this
      have o8 : ∀ q, q ≠ w.heap.size → w8.heap[q]? = w7.heap[q]? := fun q hq => by
        rw [hw8]
        exact (heap_setCell_other _ _ _ _ (by exact hq)).trans (heap_setCell_other _ _ _ _ (by exact hq))
      have b8 : Below w.heap.size w w8 := by
        rw [hw8]
        exact bset (bset bw7 (Nat.le_refl _)) (Nat.le_refl _)
      have s8 : w8.heap.size = w7.heap.size := by rw [hw8]; simp
      have q8 := (o8 _ (by omega)).trans Bw7.out
      have r8 := (o8 _ (by omega)).trans Rw7.out
      have F8 := Lib.hid F9.out
      have n5 : w.heap.size + 2 < w5.heap.size := zw5
      have K8 : Hid (RSps w8 w8.heap.size (.slice ra L.length rc) L) := Lib.hid (RSps.keepFrom (L := w5.heap.size) R7.out F8.out (fun b hb => o8 b (by omega)) (by omega))
      have y8 : w.heap.size < w8.heap.size := by omega
      have x8 : w.heap.size + 1 < w8.heap.size := by omega
      have z8 : w.heap.size + 2 < w8.heap.size := by omega
      have P8 := Lib.hid g8
      have B8 := Lib.hid q8
      have R8 := Lib.hid r8
      clear hw8 o8 cp cb cr fr fp g8 q8 r8 R9 R7 s8
      have cp := fun o => cellB P8.out o
      have fp := fun o => frozenB P8.out o
      have cb := fun o => cellB B8.out o
      have cr := fun o => cellB R8.out o
      have fr := fun o => frozenB R8.out o
      by_cases off : b.off = 0
      · have off' : (b.off == 0) = true := by rw [beq_iff_eq]; exact off
        have HV8 : Hid (V = (⟨⟨h.src, h.crt, h.seq, h.off, h.tot, h.dk, h.dn, h.life, h.prio, h.flags, b.blocks, h.payload⟩, L, D⟩, 0)) := Lib.hid (by rw [HV6.out, if_pos off])
        clear off
        as_aux_lemma =>
          go_upto_region 15 with fail
          clear off'
          obtain ⟨w9, hw9⟩ : ∃ q, q = w8.setCell ⟨w.heap.size, 10, none⟩ (.slice a2 b.blocks.length c2) := ⟨_, rfl⟩
          rw [← hw9]
          have g9 : w9.heap[w.heap.size]? = some (.cells #[.int .i64 h.src, .int .i64 h.crt, .int .i64 h.seq, .int .i64 h.off, .int .i64 h.tot, .int .i64 h.dk, .int .i64 h.dn, .int .i64 h.life, .int .i64 h.prio, .int .i64 h.flags, .slice a2 b.blocks.length c2, .string (B h.payload), .slice ra L.length rc, .string (B D)] 31 (0, 0)) := by
            rw [hw9]
            have := setB P8.out 10 (.slice a2 b.blocks.length c2)
            simpa using this
          have o9 : ∀ q, q ≠ w.heap.size → w9.heap[q]? = w8.heap[q]? := fun q hq => by
            rw [hw9]
            exact heap_setCell_other _ _ _ _ (by exact hq)
          have b9 : Below w.heap.size w w9 := by
            rw [hw9]
            exact bset b8 (Nat.le_refl _)
          have s9 : w9.heap.size = w8.heap.size := by rw [hw9]; simp
          have R9 := Lib.hid ((o9 _ (by omega)).trans R8.out)
          have K9 : Hid (RSps w9 w9.heap.size (.slice ra L.length rc) L) := Lib.hid (RSps.keepFrom (L := w5.heap.size) K8.out F8.out (fun b hb => o9 b (by omega)) (by omega))
          have z9 : w.heap.size + 2 < w9.heap.size := by omega
          have P9 := Lib.hid g9
          clear s9 hw9 o9 cp cb cr fr fp g9
          have cp := fun o => cellB P9.out o
          rw [show w.heap.size + 1 + 1 = w.heap.size + 2 from rfl]
          go_wp2_with (refine wpList_store_block rfl 31 _ _ rfl (w.heap.size + 2) #[.int .i64 h.src, .int .i64 h.crt, .int .i64 h.seq, .int .i64 h.off, .int .i64 h.tot, .int .i64 h.dk, .int .i64 h.dn, .int .i64 h.life, .int .i64 h.prio, .int .i64 h.flags, .slice a2 b.blocks.length c2, .string (B h.payload), .slice ra L.length rc, .string (B D)] _ 31 rfl rfl R9.out rfl (by kernel_rfl) (by simp [Value.oneCell']) ?_; intro wF hW hbW hsW hoW; have bF : Below w.heap.size w wF := b9.trans (hbW _ (by omega)); have zF : w.heap.size + 2 < wF.heap.size := (by rw [hsW]; exact z9); have KF : Hid (RSps wF wF.heap.size (.slice ra L.length rc) L) := Lib.hid (RSps.keepFrom (L := w5.heap.size) K9.out F8.out (fun bb hb => hoW bb (by omega)) (by rw [hsW]; exact Nat.le_refl _)); have cF := fun o => cellB hW o; clear hW hbW hsW hoW cp)
          refine bodyPost_ret (v := .tuple #[.agg #[.int .i64 h.src, .int .i64 h.crt, .int .i64 h.seq, .int .i64 h.off, .int .i64 h.tot, .int .i64 h.dk, .int .i64 h.dn, .int .i64 h.life, .int .i64 h.prio, .int .i64 h.flags, .slice a2 b.blocks.length c2, .string (B h.payload), .slice ra L.length rc, .string (B D)], .int .i64 0]) (by simp [results, Try.results16, go_sem, World.cell?_setCell_same', cF, zF]) rfl ?_
          refine ⟨_, _, by rw [HV8.out]; rfl, .inr (.inr rfl), ?_, ?_, RFrom.le (M := w5.heap.size) F8.out (by omega), belowA⟩
          · rw [HV8.out]
            exact HBN.out.below (C := w.heap.size) (by exact belowA) hN (Nat.le_refl _)
          · rw [HV8.out]
            exact KF.out
      · have off' : (b.off == 0) = false := by rw [beq_eq_false_iff_ne]; exact off
        have HV8 : Hid (V = (⟨⟨h.src, h.crt, h.seq, h.off, h.tot, h.dk, h.dn, h.life, h.prio, h.flags, h.blocks, h.payload⟩, L, D⟩, 0)) := Lib.hid (by rw [HV6.out, if_neg off])
        clear off
        as_aux_lemma =>
          go_upto_region 15 with fail
          clear off'
          obtain ⟨w9, hw9⟩ : ∃ q, q = w8 := ⟨_, rfl⟩
          rw [← hw9]
          have b9 : Below w.heap.size w w9 := by rw [hw9]; exact b8
          have R9 : Hid (w9.heap[w.heap.size + 2]? = some (.cells #[.int .i64 0, .int .i64 0, .int .i64 0, .int .i64 0, .int .i64 0, .int .i64 0, .int .i64 0, .int .i64 0, .int .i64 0, .int .i64 0, .slice none 0 0, .string ⟨#[]⟩, .slice none 0 0, .string ⟨#[]⟩] 31 (0, 0))) := Lib.hid (by rw [hw9]; exact R8.out)
          have K9 : Hid (RSps w9 w9.heap.size (.slice ra L.length rc) L) := Lib.hid (by rw [hw9]; exact K8.out)
          have P9 : Hid (w9.heap[w.heap.size]? = some (.cells #[.int .i64 h.src, .int .i64 h.crt, .int .i64 h.seq, .int .i64 h.off, .int .i64 h.tot, .int .i64 h.dk, .int .i64 h.dn, .int .i64 h.life, .int .i64 h.prio, .int .i64 h.flags, .slice a h.blocks.length c, .string (B h.payload), .slice ra L.length rc, .string (B D)] 31 (0, 0))) := Lib.hid (by rw [hw9]; exact P8.out)
          have z9 : w.heap.size + 2 < w9.heap.size := by rw [hw9]; exact z8
          clear hw9 cp cb cr fr fp
          have cp := fun o => cellB P9.out o
          rw [show w.heap.size + 1 + 1 = w.heap.size + 2 from rfl]
          go_wp2_with (refine wpList_store_block rfl 31 _ _ rfl (w.heap.size + 2) #[.int .i64 h.src, .int .i64 h.crt, .int .i64 h.seq, .int .i64 h.off, .int .i64 h.tot, .int .i64 h.dk, .int .i64 h.dn, .int .i64 h.life, .int .i64 h.prio, .int .i64 h.flags, .slice a h.blocks.length c, .string (B h.payload), .slice ra L.length rc, .string (B D)] _ 31 rfl rfl R9.out rfl (by kernel_rfl) (by simp [Value.oneCell']) ?_; intro wF hW hbW hsW hoW; have bF : Below w.heap.size w wF := b9.trans (hbW _ (by omega)); have zF : w.heap.size + 2 < wF.heap.size := (by rw [hsW]; exact z9); have KF : Hid (RSps wF wF.heap.size (.slice ra L.length rc) L) := Lib.hid (RSps.keepFrom (L := w5.heap.size) K9.out F8.out (fun bb hb => hoW bb (by omega)) (by rw [hsW]; exact Nat.le_refl _)); have cF := fun o => cellB hW o; clear hW hbW hsW hoW cp)
          refine bodyPost_ret (v := .tuple #[.agg #[.int .i64 h.src, .int .i64 h.crt, .int .i64 h.seq, .int .i64 h.off, .int .i64 h.tot, .int .i64 h.dk, .int .i64 h.dn, .int .i64 h.life, .int .i64 h.prio, .int .i64 h.flags, .slice a h.blocks.length c, .string (B h.payload), .slice ra L.length rc, .string (B D)], .int .i64 0]) (by simp [results, Try.results16, go_sem, World.cell?_setCell_same', cF, zF]) rfl ?_
          refine ⟨_, _, by rw [HV8.out]; rfl, .inr (.inl rfl), ?_, ?_, RFrom.le (M := w5.heap.size) F8.out (by omega), belowA⟩
          · rw [HV8.out]
            exact HHN.out.below (C := w.heap.size) (by exact belowA) hN (Nat.le_refl _)
          · rw [HV8.out]
            exact KF.out
end Go.Proofs.Ytpnfkmlgelcbgaa
