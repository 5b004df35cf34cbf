/- Joined by port.py: XSy -/
import Derived.BigQuiet
import Derived.BigRegion
import Derived.Deep.DeepCutAuto
import Derived.Deep.CutBlock
import Derived.Test.YtmknchdciblfjaaGreatSv
import Derived.Test.YtmknchdciblfjaaGreatSp
import Derived.Test.YtmknchdciblfjaaGreatJt
import Derived.Test.YtmknchdciblfjaaGreatJa
import Derived.Test.YtmknchdciblfjaaGreatJb
import Derived.Test.YtmknchdciblfjaaGreatJc
import Derived.Test.YtmknchdciblfjaaGreatJh
import Derived.Test.YtmknchdciblfjaaGreatJm
import Derived.Test.YtmknchdciblfjaaGreatJo
import Derived.Test.YtmknchdciblfjaaGreatJs
import Derived.Test.YtmknchdciblfjaaGreatJp
import Derived.Test.YtmknchdciblfjaaGreatKaz
import Derived.Test.YtmknchdciblfjaaGreatJw
import Derived.Test.YtmknchdciblfjaaGreatSb
import Derived.Test.YtmknchdciblfjaaGreatSez
import Derived.Test.YtmknchdciblfjaaGreatSz
import Derived.Test.YtmknchdciblfjaaGreatSh
import Derived.Test.YtmknchdciblfjaaGreatSi
import Derived.Test.YtmknchdciblfjaaGreatSj
import Derived.Test.YtmknchdciblfjaaGreatSkz
import Derived.Test.YtmknchdciblfjaaGreatSm
import Derived.Test.YtmknchdciblfjaaGreatRT
set_option linter.unusedVariables false
set_option linter.unusedSimpArgs false
/-! XSy -/
namespace Go.Proofs.YtmknchdciblfjaaGreat
open Go Go.RowKit Iv
attribute [local go_sem] Oper.semAt_some
attribute [local go_sem] B_getElem B_size B_app B_extract B_get B_toList
attribute [local go_sem ↓] neFld eqIdI eqEndI
theorem RSps.keepFrom {w w' : World} {M M' L : Nat} {v : Value} {l : List Sp} (h : RSps w M v l) (hv : RFrom L v) (k : ∀ b, L ≤ b → w'.heap[b]? = w.heap[b]?) (hM : M ≤ M') : RSps w' M' v l := by
  obtain ⟨a, c, rfl, h1, h2, h3, h4⟩ := h
  refine ⟨a, c, rfl, h1, h2, h3, fun hp => ?_⟩
  obtain ⟨b, o, rfl, hb, hc⟩ := h4 hp
  exact ⟨b, o, rfl, by omega, fun j u hu => (World.cell?_of_block (k b (hv _ _ _ rfl))).trans (hc j u hu)⟩
/-- Add: the blocks it returns are old ones -/
def ParPostO (N : Nat) (u v : Value) (r : Par × Int) (w : World) (e : Ending) (w' : World) : Prop := ∃ ub uk, e = .returned (.tuple #[.agg (parC r.1 ub uk).toArray, .int .i64 r.2]) ∧ (ub = .slice none 0 0 ∨ ub = u ∨ ub = v) ∧ RBlks w' N ub r.1.head.blocks ∧ RSps w' w'.heap.size uk r.1.known ∧ RFrom w.heap.size uk ∧ Below w.heap.size w w'
theorem addP_1 {p : Par} {b : Bun} (h : chkP p ≠ 0 ∨ chkE b ≠ 0) : addP p b = (zPar, 1) := if_pos h
theorem addP_2 {p : Par} {b : Bun} (h1 : chkP p = 0) (h2 : chkE b = 0) (h : ¬ 0 < b.tot) : addP p b = (zPar, 19) := by unfold addP; rw [if_neg (by simp [h1, h2]), if_pos h]
theorem addP_3 {p : Par} {b : Bun} (h1 : chkP p = 0) (h2 : chkE b = 0) (h3 : 0 < b.tot) (h : belB p b = false) : addP p b = (zPar, 10) := by unfold addP; rw [if_neg (by simp [h1, h2]), if_neg (by omega), if_pos h]
theorem addP_4 {p : Par} {b : Bun} (h1 : chkP p = 0) (h2 : chkE b = 0) (h3 : 0 < b.tot) (h4 : belB p b = true) (h : agrB p b = false) : addP p b = (zPar, 24) := by unfold addP; rw [if_neg (by simp [h1, h2]), if_neg (by omega), if_neg (by simp [h4]), if_pos h]
theorem addP_5 {p : Par} {b : Bun} (h1 : chkP p = 0) (h2 : chkE b = 0) (h3 : 0 < b.tot) (h4 : belB p b = true) (h5 : agrB p b = true) : addP p b = if 1000 < (ins p.known (spanB b)).length then (zPar, 4) else (⟨{ p.head with blocks := if b.off = 0 then b.blocks else p.head.blocks }, ins p.known (spanB b), writeS p.data b⟩, 0) := by
  unfold addP; rw [if_neg (by simp [h1, h2]), if_neg (by omega), if_neg (by simp [h4]), if_neg (by simp [h5])]
theorem belB_tot {p : Par} {b : Bun} (h : belB p b = true) : b.tot = p.data.length := by
  unfold belB at h
  simp only [Bool.and_eq_true, decide_eq_true_eq] at h
  exact h.1.2.2.2.2.2.2.2.2
set_option maxRecDepth 100000 in
set_option maxHeartbeats 32000000 in
theorem add_any (p : Par) (b : Bun) (ub uk u : Value) (N : Nat) (w : World) (hN : N ≤ w.heap.size) (hh : RBlks w N ub p.head.blocks) (hk : RSps w w.heap.size uk p.known) (hr : RBlks w N u b.blocks) (hfp : Fits p.head) (hd : p.data.length ≤ maxLen) (hf : Fits b) :
    Calls Tryz.prog 30 #[.agg (parC p ub uk).toArray, .agg (bunC b u).toArray] w (ParPostO N ub u (addP p b) w) := by
  obtain ⟨h, kn, dt⟩ := p
  simp only at hh hk hfp hd
  obtain ⟨a, c, rfl, -⟩ := id hh
  obtain ⟨ka, kc, rfl, -⟩ := id hk
  obtain ⟨a2, c2, rfl, -⟩ := id hr
  have HHN := Lib.hid hh
  have HBN := Lib.hid hr
  have HH := Lib.hid (hh.wide hN)
  have HK := Lib.hid hk
  have HB := Lib.hid (hr.wide hN)
  have HFP := Lib.hid hfp
  have HF := Lib.hid hf
  have HD := Lib.hid hd
  obtain ⟨V, hV⟩ : ∃ q, addP ⟨h, kn, dt⟩ b = q := ⟨_, rfl⟩
  have HVV := Lib.hid hV
  rw [hV]
  obtain ⟨E1, hE1⟩ : ∃ q, chkP ⟨h, kn, dt⟩ = q := ⟨_, rfl⟩
  have HE1 := Lib.hid hE1
  obtain ⟨E2, hE2⟩ : ∃ q, chkE b = q := ⟨_, rfl⟩
  have HE2 := Lib.hid hE2
  clear hh hk hr hfp hf hd hV
  go_enter Tryz.func30, Tryz.ntmps30
  simp only [parC, bunC, List.cons_append, List.nil_append]
  go_wp2_with fail
  refine (chkP_any ⟨h, kn, dt⟩ _ _ _ (HH.out.below (C := w.heap.size) (by exact belowA) (Nat.le_refl _) (by simp; omega)) (HK.out.below (C := w.heap.size) (by exact belowA) (Nat.le_refl _) (by simp; omega)) HFP.out HD.out).mono ?_
  rw [HE1.out]
  rintro e w1 ⟨rfl, hb⟩
  have bw1 : Below w.heap.size w w1 := btrans0 (by exact belowA) hb
  have zw1 : w.heap.size + 2 < w1.heap.size := by have := hb.size; simp at this; omega
  have Pw1 : Hid (w1.heap[w.heap.size]? = some (.cells #[.int .i64 h.src, .int .i64 h.crt, .int .i64 h.seq, .int .i64 h.off, .int .i64 h.tot, .int .i64 h.dk, .int .i64 h.dn, .int .i64 h.life, .int .i64 h.prio, .int .i64 h.flags, .slice a h.blocks.length c, .string (B h.payload), .slice ka kn.length kc, .string (B dt)] 81 (0, 0))) := Lib.hid ((hb.block _ (by simp; omega)).trans ((Below.heap_alloc _ _ _ (by simp; omega)).trans ((Below.heap_alloc _ _ _ (by simp)).trans heap_new)))
  have Bw1 : Hid (w1.heap[w.heap.size + 1]? = some (.cells #[.int .i64 b.src, .int .i64 b.crt, .int .i64 b.seq, .int .i64 b.off, .int .i64 b.tot, .int .i64 b.dk, .int .i64 b.dn, .int .i64 b.life, .int .i64 b.prio, .int .i64 b.flags, .slice a2 b.blocks.length c2, .string (B b.payload)] 32 (0, 0))) := Lib.hid ((hb.block _ (by simp)).trans ((Below.heap_alloc _ _ _ (by simp)).trans (heap_new' (by simp))))
  have Rw1 : Hid (w1.heap[w.heap.size + 2]? = some (.cells #[.int .i64 0, .int .i64 0, .int .i64 0, .int .i64 0, .int .i64 0, .int .i64 0, .int .i64 0, .int .i64 0, .int .i64 0, .int .i64 0, .slice none 0 0, .string ⟨#[]⟩, .slice none 0 0, .string ⟨#[]⟩] 81 (0, 0))) := Lib.hid ((hb.block _ (by simp)).trans (heap_new' (by simp)))
  have yw1 : w.heap.size < w1.heap.size := by omega
  have xw1 : w.heap.size + 1 < w1.heap.size := by omega
  have cp := fun o => cellB Pw1.out o
  have cb := fun o => cellB Bw1.out o
  have cr := fun o => cellB Rw1.out o
  have fr := fun o => frozenB Rw1.out o
  clear hb
  by_cases e1 : E1 = 0
  case neg =>
    have HV : Hid (V = (zPar, 1)) := Lib.hid (by rw [← HVV.out]; exact addP_1 (.inl (by rw [HE1.out]; exact e1)))
    have e1' : (E1 != 0) = true := by rw [bne_iff_ne]; exact e1
    clear e1 hE1 hE2
    as_aux_lemma =>
      clear cp cb cr fr
      rw [show w.heap.size + 1 + 1 = w.heap.size + 2 from rfl]
      go_wp2_with (refine wpList_store_block rfl 81 _ _ rfl (w.heap.size + 2) #[.int .i64 0, .int .i64 0, .int .i64 0, .int .i64 0, .int .i64 0, .int .i64 0, .int .i64 0, .int .i64 0, .int .i64 0, .int .i64 0, .slice none 0 0, .string ⟨#[]⟩, .slice none 0 0, .string ⟨#[]⟩] _ 81 rfl rfl Rw1.out rfl (by kernel_rfl) (by simp [Value.oneCell']) ?_; intro wF hW hbW hsW hoW; have bF : Below w.heap.size w wF := bw1.trans (hbW _ (by omega)); have zF : w.heap.size + 2 < wF.heap.size := (by rw [hsW]; exact zw1); have cF := fun o => cellB hW o; clear hW hbW hsW hoW)
      refine bodyPost_ret (v := .tuple #[.agg #[.int .i64 0, .int .i64 0, .int .i64 0, .int .i64 0, .int .i64 0, .int .i64 0, .int .i64 0, .int .i64 0, .int .i64 0, .int .i64 0, .slice none 0 0, .string ⟨#[]⟩, .slice none 0 0, .string ⟨#[]⟩], .int .i64 1]) (by simp [results, Tryz.results30, go_sem, World.cell?_setCell_same', cF, zF]) rfl ?_
      rw [HV.out]
      exact ⟨_, _, rfl, .inl rfl, RBlks.nil _ _, RSps.nil _ _, rfrom_nil _ _ _, bF⟩
  subst e1
  go_wp2_with fail
  refine (check_any b _ _ (HB.out.below (C := w.heap.size) bw1 (Nat.le_refl _) (by omega)) HF.out).mono ?_
  rw [HE2.out]
  rintro e w2 ⟨rfl, hb2⟩
  have kw2 : Below w1.heap.size w1 w2 := hb2
  have bw2 : Below w.heap.size w w2 := bw1.trans (kw2.mono bw1.size)
  have zw2 : w.heap.size + 2 < w2.heap.size := by have := kw2.size; omega
  have Pw2 : Hid (w2.heap[w.heap.size]? = some (.cells #[.int .i64 h.src, .int .i64 h.crt, .int .i64 h.seq, .int .i64 h.off, .int .i64 h.tot, .int .i64 h.dk, .int .i64 h.dn, .int .i64 h.life, .int .i64 h.prio, .int .i64 h.flags, .slice a h.blocks.length c, .string (B h.payload), .slice ka kn.length kc, .string (B dt)] 81 (0, 0))) := Lib.hid ((kw2.block _ (by omega)).trans Pw1.out)
  have Bw2 : Hid (w2.heap[w.heap.size + 1]? = some (.cells #[.int .i64 b.src, .int .i64 b.crt, .int .i64 b.seq, .int .i64 b.off, .int .i64 b.tot, .int .i64 b.dk, .int .i64 b.dn, .int .i64 b.life, .int .i64 b.prio, .int .i64 b.flags, .slice a2 b.blocks.length c2, .string (B b.payload)] 32 (0, 0))) := Lib.hid ((kw2.block _ (by omega)).trans Bw1.out)
  have Rw2 : Hid (w2.heap[w.heap.size + 2]? = some (.cells #[.int .i64 0, .int .i64 0, .int .i64 0, .int .i64 0, .int .i64 0, .int .i64 0, .int .i64 0, .int .i64 0, .int .i64 0, .int .i64 0, .slice none 0 0, .string ⟨#[]⟩, .slice none 0 0, .string ⟨#[]⟩] 81 (0, 0))) := Lib.hid ((kw2.block _ (by omega)).trans Rw1.out)
  clear cp cb cr fr kw2 Pw1 Bw1 Rw1 yw1 xw1
  have yw2 : w.heap.size < w2.heap.size := by omega
  have xw2 : w.heap.size + 1 < w2.heap.size := by omega
  have cp := fun o => cellB Pw2.out o
  have cb := fun o => cellB Bw2.out o
  have cr := fun o => cellB Rw2.out o
  have fr := fun o => frozenB Rw2.out o
  clear hb2
  by_cases e2 : E2 = 0
  case neg =>
    have HV : Hid (V = (zPar, 1)) := Lib.hid (by rw [← HVV.out]; exact addP_1 (.inr (by rw [HE2.out]; exact e2)))
    have e2' : (E2 != 0) = true := by rw [bne_iff_ne]; exact e2
    clear e2 hE1 hE2
    as_aux_lemma =>
      clear cp cb cr fr
      rw [show w.heap.size + 1 + 1 = w.heap.size + 2 from rfl]
      go_wp2_with (refine wpList_store_block rfl 81 _ _ rfl (w.heap.size + 2) #[.int .i64 0, .int .i64 0, .int .i64 0, .int .i64 0, .int .i64 0, .int .i64 0, .int .i64 0, .int .i64 0, .int .i64 0, .int .i64 0, .slice none 0 0, .string ⟨#[]⟩, .slice none 0 0, .string ⟨#[]⟩] _ 81 rfl rfl Rw2.out rfl (by kernel_rfl) (by simp [Value.oneCell']) ?_; intro wF hW hbW hsW hoW; have bF : Below w.heap.size w wF := bw2.trans (hbW _ (by omega)); have zF : w.heap.size + 2 < wF.heap.size := (by rw [hsW]; exact zw2); have cF := fun o => cellB hW o; clear hW hbW hsW hoW)
      refine bodyPost_ret (v := .tuple #[.agg #[.int .i64 0, .int .i64 0, .int .i64 0, .int .i64 0, .int .i64 0, .int .i64 0, .int .i64 0, .int .i64 0, .int .i64 0, .int .i64 0, .slice none 0 0, .string ⟨#[]⟩, .slice none 0 0, .string ⟨#[]⟩], .int .i64 1]) (by simp [results, Tryz.results30, go_sem, World.cell?_setCell_same', cF, zF]) rfl ?_
      rw [HV.out]
      exact ⟨_, _, rfl, .inl rfl, RBlks.nil _ _, RSps.nil _ _, rfrom_nil _ _ _, bF⟩
  subst e2
  have hv := valid_facts hE2
  have hp := chkP_zero hE1
  go_wp2_with fail
  refine (isfrag_any b _ _ (HB.out.below (C := w.heap.size) bw2 (Nat.le_refl _) (by omega))).mono ?_
  rintro e w3 ⟨rfl, hb3⟩
  have kw3 : Below w2.heap.size w2 w3 := hb3
  have bw3 : Below w.heap.size w w3 := bw2.trans (kw3.mono bw2.size)
  have zw3 : w.heap.size + 2 < w3.heap.size := by have := kw3.size; omega
  have Pw3 : Hid (w3.heap[w.heap.size]? = some (.cells #[.int .i64 h.src, .int .i64 h.crt, .int .i64 h.seq, .int .i64 h.off, .int .i64 h.tot, .int .i64 h.dk, .int .i64 h.dn, .int .i64 h.life, .int .i64 h.prio, .int .i64 h.flags, .slice a h.blocks.length c, .string (B h.payload), .slice ka kn.length kc, .string (B dt)] 81 (0, 0))) := Lib.hid ((kw3.block _ (by omega)).trans Pw2.out)
  have Bw3 : Hid (w3.heap[w.heap.size + 1]? = some (.cells #[.int .i64 b.src, .int .i64 b.crt, .int .i64 b.seq, .int .i64 b.off, .int .i64 b.tot, .int .i64 b.dk, .int .i64 b.dn, .int .i64 b.life, .int .i64 b.prio, .int .i64 b.flags, .slice a2 b.blocks.length c2, .string (B b.payload)] 32 (0, 0))) := Lib.hid ((kw3.block _ (by omega)).trans Bw2.out)
  have Rw3 : Hid (w3.heap[w.heap.size + 2]? = some (.cells #[.int .i64 0, .int .i64 0, .int .i64 0, .int .i64 0, .int .i64 0, .int .i64 0, .int .i64 0, .int .i64 0, .int .i64 0, .int .i64 0, .slice none 0 0, .string ⟨#[]⟩, .slice none 0 0, .string ⟨#[]⟩] 81 (0, 0))) := Lib.hid ((kw3.block _ (by omega)).trans Rw2.out)
  clear cp cb cr fr kw3 Pw2 Bw2 Rw2 yw2 xw2
  have yw3 : w.heap.size < w3.heap.size := by omega
  have xw3 : w.heap.size + 1 < w3.heap.size := by omega
  have cp := fun o => cellB Pw3.out o
  have cb := fun o => cellB Bw3.out o
  have cr := fun o => cellB Rw3.out o
  have fr := fun o => frozenB Rw3.out o
  clear hb3
  by_cases t : 0 < b.tot
  case neg =>
    have HV : Hid (V = (zPar, 19)) := Lib.hid (by rw [← HVV.out]; exact addP_2 hE1 hE2 t)
    have t' : decide (b.tot > 0) = false := decide_eq_false (by omega)
    clear hE1 hE2 hv hp t
    as_aux_lemma =>
      clear cp cb cr fr
      rw [show w.heap.size + 1 + 1 = w.heap.size + 2 from rfl]
      go_wp2_with (refine wpList_store_block rfl 81 _ _ rfl (w.heap.size + 2) #[.int .i64 0, .int .i64 0, .int .i64 0, .int .i64 0, .int .i64 0, .int .i64 0, .int .i64 0, .int .i64 0, .int .i64 0, .int .i64 0, .slice none 0 0, .string ⟨#[]⟩, .slice none 0 0, .string ⟨#[]⟩] _ 81 rfl rfl Rw3.out rfl (by kernel_rfl) (by simp [Value.oneCell']) ?_; intro wF hW hbW hsW hoW; have bF : Below w.heap.size w wF := bw3.trans (hbW _ (by omega)); have zF : w.heap.size + 2 < wF.heap.size := (by rw [hsW]; exact zw3); have cF := fun o => cellB hW o; clear hW hbW hsW hoW)
      refine bodyPost_ret (v := .tuple #[.agg #[.int .i64 0, .int .i64 0, .int .i64 0, .int .i64 0, .int .i64 0, .int .i64 0, .int .i64 0, .int .i64 0, .int .i64 0, .int .i64 0, .slice none 0 0, .string ⟨#[]⟩, .slice none 0 0, .string ⟨#[]⟩], .int .i64 19]) (by simp [results, Tryz.results30, go_sem, World.cell?_setCell_same', cF, zF]) rfl ?_
      rw [HV.out]
      exact ⟨_, _, rfl, .inl rfl, RBlks.nil _ _, RSps.nil _ _, rfrom_nil _ _ _, bF⟩
  have t' : decide (b.tot > 0) = true := decide_eq_true (by omega)
  obtain ⟨v1, v2, v3, v4, v5, v6, v7, v8, v9, v10⟩ := hv
  obtain ⟨v11, v12⟩ := v10 t
  obtain ⟨p1, p2, p3, p4⟩ := hp
  have hp1 : chkE h = 0 := p1.1
  have hp2 : h.tot ≤ 0 := p1.2.1
  have g1 := valid_facts hp1
  have HHF := Lib.hid (valid_blocks hp1)
  have HBF := Lib.hid (valid_blocks hE2)
  have hhl : h.blocks.length ≤ 1000 := by omega
  have hbl : b.blocks.length ≤ 1000 := by omega
  have HP1 := Lib.hid hp1
  have HHT : Hid (h.tot = 0) := Lib.hid (by omega)
  have HKC : Hid (chkSp kn = 0) := Lib.hid p3
  have HKN : Hid (0 < kn.length) := Lib.hid p4
  have HT := Lib.hid t
  have hlen : dt.length ≤ 4096 := p2
  have hpl : b.payload.length ≤ 4096 := v5
  have HB0 : Hid (0 ≤ b.off ∧ b.off ≤ 100000 ∧ b.payload.length ≤ 100000 ∧ 0 < b.payload.length ∧ b.off + b.payload.length ≤ b.tot) := Lib.hid ⟨v1, by omega, by omega, by omega, v12⟩
  have hsp : chkSp [spanB b] = 0 := chk_one (by unfold spanB; simp only; omega) (by unfold spanB; simp only; omega) (by unfold spanB; simp only; omega)
  have HSP := Lib.hid hsp
  have HCO := Lib.hid (comb_or p3 hsp)
  clear v1 v2 v3 v4 v5 v6 v7 v8 v9 v10 v11 v12 p1 p2 p3 p4 hp1 hp2 g1 t hsp
  obtain ⟨QB, hQB⟩ : ∃ q, belB ⟨h, kn, dt⟩ b = q := ⟨_, rfl⟩
  have HQB := Lib.hid hQB
  have hbq : QB = (fldB ⟨h, kn, dt⟩ b && (decide (b.tot = dt.length) && eqBs (copyB h.blocks) (copyB b.blocks))) := by rw [← hQB]; exact belB_eq _ _
  obtain ⟨Q1, h1⟩ : ∃ q, fldB ⟨h, kn, dt⟩ b = q := ⟨_, rfl⟩
  obtain ⟨Q2, h2⟩ : ∃ q, decide (b.tot = (dt.length : Int)) = q := ⟨_, rfl⟩
  obtain ⟨Q3, h3⟩ : ∃ q, eqBs (copyB h.blocks) (copyB b.blocks) = q := ⟨_, rfl⟩
  rw [h1, h2, h3] at hbq
  have H3 := Lib.hid h3
  have HBQ := Lib.hid hbq
  have d1 : decide (h.src = b.src ∧ h.crt = b.crt ∧ h.seq = b.seq ∧ h.dk = b.dk ∧ h.dn = b.dn ∧ h.life = b.life ∧ h.prio = b.prio ∧ h.flags = b.flags) = Q1 := h1
  have d1' : decide (h.src = b.src ∧ h.crt = b.crt ∧ h.seq = b.seq ∧ (0 : Int) = 0 ∧ (0 : Int) = 0 ∧ h.dk = b.dk ∧ h.dn = b.dn ∧ h.life = b.life ∧ h.prio = b.prio ∧ h.flags = b.flags) = Q1 := by rw [← d1]; simp
  have d2 : (b.tot != (dt.length : Int)) = !Q2 := by rw [← h2]; by_cases z : b.tot = dt.length <;> simp [z]
  clear hbq h1 h2 h3
  cases Q1 with
  | false =>
    as_aux_lemma =>
      go_upto_region 5 with fail
      refine wp_region_plan (fun V => Below (w3).heap.size (w3) V) [0, 1, 2, 1, 2, 0, 0, 0, 0, 1, 0, 1, 0, 0, 0, 0, 0, 0, 1, 2, 0, 1, 3, 3, 0, 0] [0, 1, 3, 2, 4, 5, 6, 7, 8, 9, 10, 11, 12, 13, 14, 15, 16, 17, 18, 20, 21, 19, 22, 23, 24, 25] (by kernel_rfl) (by kernel_rfl) ?_ ?_
      case refine_1 => exact belowA
      (iterate 3 (first | (refine plan_held rfl (by decide) (by rfl) (fun w1 hS => by (try (obtain ⟨_, _⟩ := bcell (hS rfl))); go_simp; rfl) ?_; simp only [Act.put, List.setIfInBounds_toArray, List.set_cons_zero, List.set_cons_succ]) | (refine plan_skip rfl (by decide) (by rfl) ?_; simp only [Act.put, List.setIfInBounds_toArray, List.set_cons_zero, List.set_cons_succ])))
      (refine plan_keep rfl rfl (by rfl) (fun K hK => ?_); go_simp)
      refine (fields_any h _ _ (HH.out.below (C := w.heap.size) (btrans0 bw3 belowA) (Nat.le_refl _) (Below.size (btrans0 bw3 belowA)))).mono ?_
      rintro e wc23 ⟨rfl, hbc23⟩
      (refine hK _ _ (by exact belowA) ?_; clear hK K; (try simp only [Act.put, List.setIfInBounds_toArray, List.set_cons_zero, List.set_cons_succ]))
      (refine plan_keep rfl rfl (by rfl) (fun K hK => ?_); go_simp)
      refine (fields_any b _ _ (HB.out.below (C := w.heap.size) (btrans0 bw3 belowA) (Nat.le_refl _) (Below.size (btrans0 bw3 belowA)))).mono ?_
      rintro e wc25 ⟨rfl, hbc25⟩
      (refine hK _ _ (by exact belowA) ?_; clear hK K; (try simp only [Act.put, List.setIfInBounds_toArray, List.set_cons_zero, List.set_cons_succ]))
      (iterate 16 (first | (refine plan_held rfl (by decide) (by rfl) (fun w1 hS => by (try (obtain ⟨_, _⟩ := bcell (hS rfl))); go_simp; rfl) ?_; simp only [Act.put, List.setIfInBounds_toArray, List.set_cons_zero, List.set_cons_succ]) | (refine plan_skip rfl (by decide) (by rfl) ?_; simp only [Act.put, List.setIfInBounds_toArray, List.set_cons_zero, List.set_cons_succ])))
      (refine plan_skipK rfl (by decide) (by rfl) belowA ?_; simp only [Act.put, List.setIfInBounds_toArray, List.set_cons_zero, List.set_cons_succ])
      (refine plan_skipL rfl (by decide) (by rfl) ?_; simp only [Act.put, List.setIfInBounds_toArray, List.set_cons_zero, List.set_cons_succ])
      (refine plan_skipL rfl (by decide) (by rfl) ?_; simp only [Act.put, List.setIfInBounds_toArray, List.set_cons_zero, List.set_cons_succ])
      (iterate 2 (first | (refine plan_held rfl (by decide) (by rfl) (fun w1 hS => by (try (obtain ⟨_, _⟩ := bcell (hS rfl))); go_simp; rfl) ?_; simp only [Act.put, List.setIfInBounds_toArray, List.set_cons_zero, List.set_cons_succ]) | (refine plan_skip rfl (by decide) (by rfl) ?_; simp only [Act.put, List.setIfInBounds_toArray, List.set_cons_zero, List.set_cons_succ])))
      refine plan_done ?_
      have HV : Hid (V = (zPar, 10)) := Lib.hid (by rw [← HVV.out]; exact addP_3 HE1.out HE2.out HT.out (by rw [HQB.out, HBQ.out]; rfl))
      have kwc25 : Below w3.heap.size w3 wc25 := by exact belowA
      have bwc25 : Below w.heap.size w wc25 := bw3.trans (kwc25.mono bw3.size)
      have zwc25 : w.heap.size + 2 < wc25.heap.size := by have := kwc25.size; omega
      have Pwc25 : Hid (wc25.heap[w.heap.size]? = some (.cells #[.int .i64 h.src, .int .i64 h.crt, .int .i64 h.seq, .int .i64 h.off, .int .i64 h.tot, .int .i64 h.dk, .int .i64 h.dn, .int .i64 h.life, .int .i64 h.prio, .int .i64 h.flags, .slice a h.blocks.length c, .string (B h.payload), .slice ka kn.length kc, .string (B dt)] 81 (0, 0))) := Lib.hid ((kwc25.block _ (by omega)).trans Pw3.out)
      have Bwc25 : Hid (wc25.heap[w.heap.size + 1]? = some (.cells #[.int .i64 b.src, .int .i64 b.crt, .int .i64 b.seq, .int .i64 b.off, .int .i64 b.tot, .int .i64 b.dk, .int .i64 b.dn, .int .i64 b.life, .int .i64 b.prio, .int .i64 b.flags, .slice a2 b.blocks.length c2, .string (B b.payload)] 32 (0, 0))) := Lib.hid ((kwc25.block _ (by omega)).trans Bw3.out)
      have Rwc25 : Hid (wc25.heap[w.heap.size + 2]? = some (.cells #[.int .i64 0, .int .i64 0, .int .i64 0, .int .i64 0, .int .i64 0, .int .i64 0, .int .i64 0, .int .i64 0, .int .i64 0, .int .i64 0, .slice none 0 0, .string ⟨#[]⟩, .slice none 0 0, .string ⟨#[]⟩] 81 (0, 0))) := Lib.hid ((kwc25.block _ (by omega)).trans Rw3.out)
      clear cp cb cr fr kwc25 Pw3 Bw3 Rw3 yw3 xw3
      have ywc25 : w.heap.size < wc25.heap.size := by omega
      have xwc25 : w.heap.size + 1 < wc25.heap.size := by omega
      have cp := fun o => cellB Pwc25.out o
      have cb := fun o => cellB Bwc25.out o
      have cr := fun o => cellB Rwc25.out o
      have fr := fun o => frozenB Rwc25.out o
      as_aux_lemma =>
        clear cp cb cr fr
        rw [show w.heap.size + 1 + 1 = w.heap.size + 2 from rfl]
        go_wp2_with (refine wpList_store_block rfl 81 _ _ rfl (w.heap.size + 2) #[.int .i64 0, .int .i64 0, .int .i64 0, .int .i64 0, .int .i64 0, .int .i64 0, .int .i64 0, .int .i64 0, .int .i64 0, .int .i64 0, .slice none 0 0, .string ⟨#[]⟩, .slice none 0 0, .string ⟨#[]⟩] _ 81 rfl rfl Rwc25.out rfl (by kernel_rfl) (by simp [Value.oneCell']) ?_; intro wF hW hbW hsW hoW; have bF : Below w.heap.size w wF := bwc25.trans (hbW _ (by omega)); have zF : w.heap.size + 2 < wF.heap.size := (by rw [hsW]; exact zwc25); have cF := fun o => cellB hW o; clear hW hbW hsW hoW)
        refine bodyPost_ret (v := .tuple #[.agg #[.int .i64 0, .int .i64 0, .int .i64 0, .int .i64 0, .int .i64 0, .int .i64 0, .int .i64 0, .int .i64 0, .int .i64 0, .int .i64 0, .slice none 0 0, .string ⟨#[]⟩, .slice none 0 0, .string ⟨#[]⟩], .int .i64 10]) (by simp [results, Tryz.results30, go_sem, World.cell?_setCell_same', cF, zF]) rfl ?_
        rw [HV.out]
        exact ⟨_, _, rfl, .inl rfl, RBlks.nil _ _, RSps.nil _ _, rfrom_nil _ _ _, bF⟩
  | true =>
    cases Q2 with
    | false =>
      as_aux_lemma =>
        go_upto_region 5 with fail
        refine wp_region_plan (fun V => Below (w3).heap.size (w3) V) [0, 1, 2, 1, 2, 0, 0, 0, 0, 1, 0, 1, 0, 0, 0, 0, 0, 0, 1, 2, 0, 1, 3, 3, 0, 0] [0, 1, 3, 2, 4, 5, 6, 7, 8, 9, 10, 11, 12, 13, 14, 15, 16, 17, 18, 20, 21, 19, 22, 23, 24, 25] (by kernel_rfl) (by kernel_rfl) ?_ ?_
        case refine_1 => exact belowA
        (iterate 3 (first | (refine plan_held rfl (by decide) (by rfl) (fun w1 hS => by (try (obtain ⟨_, _⟩ := bcell (hS rfl))); go_simp; rfl) ?_; simp only [Act.put, List.setIfInBounds_toArray, List.set_cons_zero, List.set_cons_succ]) | (refine plan_skip rfl (by decide) (by rfl) ?_; simp only [Act.put, List.setIfInBounds_toArray, List.set_cons_zero, List.set_cons_succ])))
        (refine plan_keep rfl rfl (by rfl) (fun K hK => ?_); go_simp)
        refine (fields_any h _ _ (HH.out.below (C := w.heap.size) (btrans0 bw3 belowA) (Nat.le_refl _) (Below.size (btrans0 bw3 belowA)))).mono ?_
        rintro e wc23 ⟨rfl, hbc23⟩
        (refine hK _ _ (by exact belowA) ?_; clear hK K; (try simp only [Act.put, List.setIfInBounds_toArray, List.set_cons_zero, List.set_cons_succ]))
        (refine plan_keep rfl rfl (by rfl) (fun K hK => ?_); go_simp)
        refine (fields_any b _ _ (HB.out.below (C := w.heap.size) (btrans0 bw3 belowA) (Nat.le_refl _) (Below.size (btrans0 bw3 belowA)))).mono ?_
        rintro e wc25 ⟨rfl, hbc25⟩
        (refine hK _ _ (by exact belowA) ?_; clear hK K; (try simp only [Act.put, List.setIfInBounds_toArray, List.set_cons_zero, List.set_cons_succ]))
        (iterate 16 (first | (refine plan_held rfl (by decide) (by rfl) (fun w1 hS => by (try (obtain ⟨_, _⟩ := bcell (hS rfl))); go_simp; rfl) ?_; simp only [Act.put, List.setIfInBounds_toArray, List.set_cons_zero, List.set_cons_succ]) | (refine plan_skip rfl (by decide) (by rfl) ?_; simp only [Act.put, List.setIfInBounds_toArray, List.set_cons_zero, List.set_cons_succ])))
        (refine plan_skipK rfl (by decide) (by rfl) belowA ?_; simp only [Act.put, List.setIfInBounds_toArray, List.set_cons_zero, List.set_cons_succ])
        (refine plan_skipL rfl (by decide) (by rfl) ?_; simp only [Act.put, List.setIfInBounds_toArray, List.set_cons_zero, List.set_cons_succ])
        (refine plan_skipL rfl (by decide) (by rfl) ?_; simp only [Act.put, List.setIfInBounds_toArray, List.set_cons_zero, List.set_cons_succ])
        (iterate 2 (first | (refine plan_held rfl (by decide) (by rfl) (fun w1 hS => by (try (obtain ⟨_, _⟩ := bcell (hS rfl))); go_simp; rfl) ?_; simp only [Act.put, List.setIfInBounds_toArray, List.set_cons_zero, List.set_cons_succ]) | (refine plan_skip rfl (by decide) (by rfl) ?_; simp only [Act.put, List.setIfInBounds_toArray, List.set_cons_zero, List.set_cons_succ])))
        refine plan_done ?_
        have HV : Hid (V = (zPar, 10)) := Lib.hid (by rw [← HVV.out]; exact addP_3 HE1.out HE2.out HT.out (by rw [HQB.out, HBQ.out]; rfl))
        have kwc25 : Below w3.heap.size w3 wc25 := by exact belowA
        have bwc25 : Below w.heap.size w wc25 := bw3.trans (kwc25.mono bw3.size)
        have zwc25 : w.heap.size + 2 < wc25.heap.size := by have := kwc25.size; omega
        have Pwc25 : Hid (wc25.heap[w.heap.size]? = some (.cells #[.int .i64 h.src, .int .i64 h.crt, .int .i64 h.seq, .int .i64 h.off, .int .i64 h.tot, .int .i64 h.dk, .int .i64 h.dn, .int .i64 h.life, .int .i64 h.prio, .int .i64 h.flags, .slice a h.blocks.length c, .string (B h.payload), .slice ka kn.length kc, .string (B dt)] 81 (0, 0))) := Lib.hid ((kwc25.block _ (by omega)).trans Pw3.out)
        have Bwc25 : Hid (wc25.heap[w.heap.size + 1]? = some (.cells #[.int .i64 b.src, .int .i64 b.crt, .int .i64 b.seq, .int .i64 b.off, .int .i64 b.tot, .int .i64 b.dk, .int .i64 b.dn, .int .i64 b.life, .int .i64 b.prio, .int .i64 b.flags, .slice a2 b.blocks.length c2, .string (B b.payload)] 32 (0, 0))) := Lib.hid ((kwc25.block _ (by omega)).trans Bw3.out)
        have Rwc25 : Hid (wc25.heap[w.heap.size + 2]? = some (.cells #[.int .i64 0, .int .i64 0, .int .i64 0, .int .i64 0, .int .i64 0, .int .i64 0, .int .i64 0, .int .i64 0, .int .i64 0, .int .i64 0, .slice none 0 0, .string ⟨#[]⟩, .slice none 0 0, .string ⟨#[]⟩] 81 (0, 0))) := Lib.hid ((kwc25.block _ (by omega)).trans Rw3.out)
        clear cp cb cr fr kwc25 Pw3 Bw3 Rw3 yw3 xw3
        have ywc25 : w.heap.size < wc25.heap.size := by omega
        have xwc25 : w.heap.size + 1 < wc25.heap.size := by omega
        have cp := fun o => cellB Pwc25.out o
        have cb := fun o => cellB Bwc25.out o
        have cr := fun o => cellB Rwc25.out o
        have fr := fun o => frozenB Rwc25.out o
        as_aux_lemma =>
          clear cp cb cr fr
          rw [show w.heap.size + 1 + 1 = w.heap.size + 2 from rfl]
          go_wp2_with (refine wpList_store_block rfl 81 _ _ rfl (w.heap.size + 2) #[.int .i64 0, .int .i64 0, .int .i64 0, .int .i64 0, .int .i64 0, .int .i64 0, .int .i64 0, .int .i64 0, .int .i64 0, .int .i64 0, .slice none 0 0, .string ⟨#[]⟩, .slice none 0 0, .string ⟨#[]⟩] _ 81 rfl rfl Rwc25.out rfl (by kernel_rfl) (by simp [Value.oneCell']) ?_; intro wF hW hbW hsW hoW; have bF : Below w.heap.size w wF := bwc25.trans (hbW _ (by omega)); have zF : w.heap.size + 2 < wF.heap.size := (by rw [hsW]; exact zwc25); have cF := fun o => cellB hW o; clear hW hbW hsW hoW)
          refine bodyPost_ret (v := .tuple #[.agg #[.int .i64 0, .int .i64 0, .int .i64 0, .int .i64 0, .int .i64 0, .int .i64 0, .int .i64 0, .int .i64 0, .int .i64 0, .int .i64 0, .slice none 0 0, .string ⟨#[]⟩, .slice none 0 0, .string ⟨#[]⟩], .int .i64 10]) (by simp [results, Tryz.results30, go_sem, World.cell?_setCell_same', cF, zF]) rfl ?_
          rw [HV.out]
          exact ⟨_, _, rfl, .inl rfl, RBlks.nil _ _, RSps.nil _ _, rfrom_nil _ _ _, bF⟩
    | true =>
      cases Q3 with
      | false =>
        as_aux_lemma =>
          go_upto_region 5 with fail
          refine wp_region_plan (fun V => Below (w3).heap.size (w3) V) [0, 1, 2, 1, 2, 0, 0, 0, 0, 1, 0, 1, 0, 0, 0, 0, 0, 0, 1, 2, 0, 1, 3, 3, 0, 0] [0, 1, 3, 2, 4, 5, 6, 7, 8, 9, 10, 11, 12, 13, 14, 15, 16, 17, 18, 20, 21, 19, 22, 23, 24, 25] (by kernel_rfl) (by kernel_rfl) ?_ ?_
          case refine_1 => exact belowA
          (iterate 3 (first | (refine plan_held rfl (by decide) (by rfl) (fun w1 hS => by (try (obtain ⟨_, _⟩ := bcell (hS rfl))); go_simp; rfl) ?_; simp only [Act.put, List.setIfInBounds_toArray, List.set_cons_zero, List.set_cons_succ]) | (refine plan_skip rfl (by decide) (by rfl) ?_; simp only [Act.put, List.setIfInBounds_toArray, List.set_cons_zero, List.set_cons_succ])))
          (refine plan_keep rfl rfl (by rfl) (fun K hK => ?_); go_simp)
          refine (fields_any h _ _ (HH.out.below (C := w.heap.size) (btrans0 bw3 belowA) (Nat.le_refl _) (Below.size (btrans0 bw3 belowA)))).mono ?_
          rintro e wc23 ⟨rfl, hbc23⟩
          (refine hK _ _ (by exact belowA) ?_; clear hK K; (try simp only [Act.put, List.setIfInBounds_toArray, List.set_cons_zero, List.set_cons_succ]))
          (refine plan_keep rfl rfl (by rfl) (fun K hK => ?_); go_simp)
          refine (fields_any b _ _ (HB.out.below (C := w.heap.size) (btrans0 bw3 belowA) (Nat.le_refl _) (Below.size (btrans0 bw3 belowA)))).mono ?_
          rintro e wc25 ⟨rfl, hbc25⟩
          (refine hK _ _ (by exact belowA) ?_; clear hK K; (try simp only [Act.put, List.setIfInBounds_toArray, List.set_cons_zero, List.set_cons_succ]))
          (iterate 16 (first | (refine plan_held rfl (by decide) (by rfl) (fun w1 hS => by (try (obtain ⟨_, _⟩ := bcell (hS rfl))); go_simp; rfl) ?_; simp only [Act.put, List.setIfInBounds_toArray, List.set_cons_zero, List.set_cons_succ]) | (refine plan_skip rfl (by decide) (by rfl) ?_; simp only [Act.put, List.setIfInBounds_toArray, List.set_cons_zero, List.set_cons_succ])))
          (refine plan_keep rfl rfl (by rfl) (fun K hK => ?_); go_simp)
          refine (copied_any h.blocks _ _ (HH.out.below (C := w.heap.size) (btrans0 bw3 belowA) (Nat.le_refl _) (Below.size (btrans0 bw3 belowA))) HHF.out hhl).mono ?_
          rintro e wc40 ⟨r1, rfl, hr1, hf1, hbc40⟩
          obtain ⟨ra1, rc1, rfl⟩ : ∃ ra rc, r1 = .slice ra (copyB h.blocks).length rc := by obtain ⟨a, c, h, _⟩ := hr1; exact ⟨a, c, h⟩
          have HR1 := Lib.hid hr1
          clear hr1 hf1
          (refine hK _ _ (by exact belowA) ?_; clear hK K; (try simp only [Act.put, List.setIfInBounds_toArray, List.set_cons_zero, List.set_cons_succ]))
          (refine plan_late rfl rfl (by rfl) (fun K hK => ?_); go_simp)
          refine (copied_any b.blocks _ _ (HB.out.below (C := w.heap.size) (btrans0 bw3 belowA) (Nat.le_refl _) (Below.size (btrans0 bw3 belowA))) HBF.out hbl).mono ?_
          rintro e wc43 ⟨r2, rfl, hr2, hf2, hbc43⟩
          obtain ⟨ra2, rc2, rfl⟩ : ∃ ra rc, r2 = .slice ra (copyB b.blocks).length rc := by obtain ⟨a, c, h, _⟩ := hr2; exact ⟨a, c, h⟩
          have HR2 := Lib.hid hr2
          have HR1' := Lib.hid (HR1.out.up hbc43)
          clear hr2 hf2
          (refine hK _ _ ?_; clear hK K; (try simp only [Act.put, List.setIfInBounds_toArray, List.set_cons_zero, List.set_cons_succ]))
          (refine plan_late rfl rfl (by rfl) (fun K hK => ?_); go_simp)
          refine (eqB_any (copyB h.blocks) (copyB b.blocks) _ _ _ HR1'.out HR2.out).mono ?_
          rw [H3.out]
          rintro e wc44 ⟨rfl, hbc44⟩
          (refine hK _ _ ?_; clear hK K; (try simp only [Act.put, List.setIfInBounds_toArray, List.set_cons_zero, List.set_cons_succ]))
          (iterate 2 (first | (refine plan_held rfl (by decide) (by rfl) (fun w1 hS => by (try (obtain ⟨_, _⟩ := bcell (hS rfl))); go_simp; rfl) ?_; simp only [Act.put, List.setIfInBounds_toArray, List.set_cons_zero, List.set_cons_succ]) | (refine plan_skip rfl (by decide) (by rfl) ?_; simp only [Act.put, List.setIfInBounds_toArray, List.set_cons_zero, List.set_cons_succ])))
          refine plan_done ?_
          have HV : Hid (V = (zPar, 10)) := Lib.hid (by rw [← HVV.out]; exact addP_3 HE1.out HE2.out HT.out (by rw [HQB.out, HBQ.out]; rfl))
          have kwc44 : Below w3.heap.size w3 wc44 := by exact belowA
          have bwc44 : Below w.heap.size w wc44 := bw3.trans (kwc44.mono bw3.size)
          have zwc44 : w.heap.size + 2 < wc44.heap.size := by have := kwc44.size; omega
          have Pwc44 : Hid (wc44.heap[w.heap.size]? = some (.cells #[.int .i64 h.src, .int .i64 h.crt, .int .i64 h.seq, .int .i64 h.off, .int .i64 h.tot, .int .i64 h.dk, .int .i64 h.dn, .int .i64 h.life, .int .i64 h.prio, .int .i64 h.flags, .slice a h.blocks.length c, .string (B h.payload), .slice ka kn.length kc, .string (B dt)] 81 (0, 0))) := Lib.hid ((kwc44.block _ (by omega)).trans Pw3.out)
          have Bwc44 : Hid (wc44.heap[w.heap.size + 1]? = some (.cells #[.int .i64 b.src, .int .i64 b.crt, .int .i64 b.seq, .int .i64 b.off, .int .i64 b.tot, .int .i64 b.dk, .int .i64 b.dn, .int .i64 b.life, .int .i64 b.prio, .int .i64 b.flags, .slice a2 b.blocks.length c2, .string (B b.payload)] 32 (0, 0))) := Lib.hid ((kwc44.block _ (by omega)).trans Bw3.out)
          have Rwc44 : Hid (wc44.heap[w.heap.size + 2]? = some (.cells #[.int .i64 0, .int .i64 0, .int .i64 0, .int .i64 0, .int .i64 0, .int .i64 0, .int .i64 0, .int .i64 0, .int .i64 0, .int .i64 0, .slice none 0 0, .string ⟨#[]⟩, .slice none 0 0, .string ⟨#[]⟩] 81 (0, 0))) := Lib.hid ((kwc44.block _ (by omega)).trans Rw3.out)
          clear cp cb cr fr kwc44 Pw3 Bw3 Rw3 yw3 xw3
          have ywc44 : w.heap.size < wc44.heap.size := by omega
          have xwc44 : w.heap.size + 1 < wc44.heap.size := by omega
          have cp := fun o => cellB Pwc44.out o
          have cb := fun o => cellB Bwc44.out o
          have cr := fun o => cellB Rwc44.out o
          have fr := fun o => frozenB Rwc44.out o
          as_aux_lemma =>
            clear cp cb cr fr
            rw [show w.heap.size + 1 + 1 = w.heap.size + 2 from rfl]
            go_wp2_with (refine wpList_store_block rfl 81 _ _ rfl (w.heap.size + 2) #[.int .i64 0, .int .i64 0, .int .i64 0, .int .i64 0, .int .i64 0, .int .i64 0, .int .i64 0, .int .i64 0, .int .i64 0, .int .i64 0, .slice none 0 0, .string ⟨#[]⟩, .slice none 0 0, .string ⟨#[]⟩] _ 81 rfl rfl Rwc44.out rfl (by kernel_rfl) (by simp [Value.oneCell']) ?_; intro wF hW hbW hsW hoW; have bF : Below w.heap.size w wF := bwc44.trans (hbW _ (by omega)); have zF : w.heap.size + 2 < wF.heap.size := (by rw [hsW]; exact zwc44); have cF := fun o => cellB hW o; clear hW hbW hsW hoW)
            refine bodyPost_ret (v := .tuple #[.agg #[.int .i64 0, .int .i64 0, .int .i64 0, .int .i64 0, .int .i64 0, .int .i64 0, .int .i64 0, .int .i64 0, .int .i64 0, .int .i64 0, .slice none 0 0, .string ⟨#[]⟩, .slice none 0 0, .string ⟨#[]⟩], .int .i64 10]) (by simp [results, Tryz.results30, go_sem, World.cell?_setCell_same', cF, zF]) rfl ?_
            rw [HV.out]
            exact ⟨_, _, rfl, .inl rfl, RBlks.nil _ _, RSps.nil _ _, rfrom_nil _ _ _, bF⟩
      | true =>
      have hqt : QB = true := HBQ.out
      subst hqt
      as_aux_lemma =>
        go_upto_region 5 with fail
        refine wp_region_plan (fun V => Below (w3).heap.size (w3) V) [0, 1, 2, 1, 2, 0, 0, 0, 0, 1, 0, 1, 0, 0, 0, 0, 0, 0, 1, 2, 0, 1, 3, 3, 0, 0] [0, 1, 3, 2, 4, 5, 6, 7, 8, 9, 10, 11, 12, 13, 14, 15, 16, 17, 18, 20, 21, 19, 22, 23, 24, 25] (by kernel_rfl) (by kernel_rfl) ?_ ?_
        case refine_1 => exact belowA
        (iterate 3 (first | (refine plan_held rfl (by decide) (by rfl) (fun w1 hS => by (try (obtain ⟨_, _⟩ := bcell (hS rfl))); go_simp; rfl) ?_; simp only [Act.put, List.setIfInBounds_toArray, List.set_cons_zero, List.set_cons_succ]) | (refine plan_skip rfl (by decide) (by rfl) ?_; simp only [Act.put, List.setIfInBounds_toArray, List.set_cons_zero, List.set_cons_succ])))
        (refine plan_keep rfl rfl (by rfl) (fun K hK => ?_); go_simp)
        refine (fields_any h _ _ (HH.out.below (C := w.heap.size) (btrans0 bw3 belowA) (Nat.le_refl _) (Below.size (btrans0 bw3 belowA)))).mono ?_
        rintro e wc23 ⟨rfl, hbc23⟩
        (refine hK _ _ (by exact belowA) ?_; clear hK K; (try simp only [Act.put, List.setIfInBounds_toArray, List.set_cons_zero, List.set_cons_succ]))
        (refine plan_keep rfl rfl (by rfl) (fun K hK => ?_); go_simp)
        refine (fields_any b _ _ (HB.out.below (C := w.heap.size) (btrans0 bw3 belowA) (Nat.le_refl _) (Below.size (btrans0 bw3 belowA)))).mono ?_
        rintro e wc25 ⟨rfl, hbc25⟩
        (refine hK _ _ (by exact belowA) ?_; clear hK K; (try simp only [Act.put, List.setIfInBounds_toArray, List.set_cons_zero, List.set_cons_succ]))
        (iterate 16 (first | (refine plan_held rfl (by decide) (by rfl) (fun w1 hS => by (try (obtain ⟨_, _⟩ := bcell (hS rfl))); go_simp; rfl) ?_; simp only [Act.put, List.setIfInBounds_toArray, List.set_cons_zero, List.set_cons_succ]) | (refine plan_skip rfl (by decide) (by rfl) ?_; simp only [Act.put, List.setIfInBounds_toArray, List.set_cons_zero, List.set_cons_succ])))
        (refine plan_keep rfl rfl (by rfl) (fun K hK => ?_); go_simp)
        refine (copied_any h.blocks _ _ (HH.out.below (C := w.heap.size) (btrans0 bw3 belowA) (Nat.le_refl _) (Below.size (btrans0 bw3 belowA))) HHF.out hhl).mono ?_
        rintro e wc40 ⟨r1, rfl, hr1, hf1, hbc40⟩
        obtain ⟨ra1, rc1, rfl⟩ : ∃ ra rc, r1 = .slice ra (copyB h.blocks).length rc := by obtain ⟨a, c, h, _⟩ := hr1; exact ⟨a, c, h⟩
        have HR1 := Lib.hid hr1
        clear hr1 hf1
        (refine hK _ _ (by exact belowA) ?_; clear hK K; (try simp only [Act.put, List.setIfInBounds_toArray, List.set_cons_zero, List.set_cons_succ]))
        (refine plan_late rfl rfl (by rfl) (fun K hK => ?_); go_simp)
        refine (copied_any b.blocks _ _ (HB.out.below (C := w.heap.size) (btrans0 bw3 belowA) (Nat.le_refl _) (Below.size (btrans0 bw3 belowA))) HBF.out hbl).mono ?_
        rintro e wc43 ⟨r2, rfl, hr2, hf2, hbc43⟩
        obtain ⟨ra2, rc2, rfl⟩ : ∃ ra rc, r2 = .slice ra (copyB b.blocks).length rc := by obtain ⟨a, c, h, _⟩ := hr2; exact ⟨a, c, h⟩
        have HR2 := Lib.hid hr2
        have HR1' := Lib.hid (HR1.out.up hbc43)
        clear hr2 hf2
        (refine hK _ _ ?_; clear hK K; (try simp only [Act.put, List.setIfInBounds_toArray, List.set_cons_zero, List.set_cons_succ]))
        (refine plan_late rfl rfl (by rfl) (fun K hK => ?_); go_simp)
        refine (eqB_any (copyB h.blocks) (copyB b.blocks) _ _ _ HR1'.out HR2.out).mono ?_
        rw [H3.out]
        rintro e wc44 ⟨rfl, hbc44⟩
        (refine hK _ _ ?_; clear hK K; (try simp only [Act.put, List.setIfInBounds_toArray, List.set_cons_zero, List.set_cons_succ]))
        (iterate 2 (first | (refine plan_held rfl (by decide) (by rfl) (fun w1 hS => by (try (obtain ⟨_, _⟩ := bcell (hS rfl))); go_simp; rfl) ?_; simp only [Act.put, List.setIfInBounds_toArray, List.set_cons_zero, List.set_cons_succ]) | (refine plan_skip rfl (by decide) (by rfl) ?_; simp only [Act.put, List.setIfInBounds_toArray, List.set_cons_zero, List.set_cons_succ])))
        refine plan_done ?_
        have kwc44 : Below w3.heap.size w3 wc44 := by exact belowA
        have bwc44 : Below w.heap.size w wc44 := bw3.trans (kwc44.mono bw3.size)
        have zwc44 : w.heap.size + 2 < wc44.heap.size := by have := kwc44.size; omega
        have Pwc44 : Hid (wc44.heap[w.heap.size]? = some (.cells #[.int .i64 h.src, .int .i64 h.crt, .int .i64 h.seq, .int .i64 h.off, .int .i64 h.tot, .int .i64 h.dk, .int .i64 h.dn, .int .i64 h.life, .int .i64 h.prio, .int .i64 h.flags, .slice a h.blocks.length c, .string (B h.payload), .slice ka kn.length kc, .string (B dt)] 81 (0, 0))) := Lib.hid ((kwc44.block _ (by omega)).trans Pw3.out)
        have Bwc44 : Hid (wc44.heap[w.heap.size + 1]? = some (.cells #[.int .i64 b.src, .int .i64 b.crt, .int .i64 b.seq, .int .i64 b.off, .int .i64 b.tot, .int .i64 b.dk, .int .i64 b.dn, .int .i64 b.life, .int .i64 b.prio, .int .i64 b.flags, .slice a2 b.blocks.length c2, .string (B b.payload)] 32 (0, 0))) := Lib.hid ((kwc44.block _ (by omega)).trans Bw3.out)
        have Rwc44 : Hid (wc44.heap[w.heap.size + 2]? = some (.cells #[.int .i64 0, .int .i64 0, .int .i64 0, .int .i64 0, .int .i64 0, .int .i64 0, .int .i64 0, .int .i64 0, .int .i64 0, .int .i64 0, .slice none 0 0, .string ⟨#[]⟩, .slice none 0 0, .string ⟨#[]⟩] 81 (0, 0))) := Lib.hid ((kwc44.block _ (by omega)).trans Rw3.out)
        clear cp cb cr fr kwc44 Pw3 Bw3 Rw3 yw3 xw3
        have ywc44 : w.heap.size < wc44.heap.size := by omega
        have xwc44 : w.heap.size + 1 < wc44.heap.size := by omega
        have cp := fun o => cellB Pwc44.out o
        have cb := fun o => cellB Bwc44.out o
        have cr := fun o => cellB Rwc44.out o
        have fr := fun o => frozenB Rwc44.out o
        clear d1 d1' d2
        have htt : b.tot = dt.length := belB_tot HQB.out
        have HTT := Lib.hid htt
        obtain ⟨QA, hQA⟩ : ∃ q, agrB ⟨h, kn, dt⟩ b = q := ⟨_, rfl⟩
        have HQA := Lib.hid hQA
        clear hQA htt hQB
        go_wp2_with fail
        refine (agr_any ⟨h, kn, dt⟩ b _ _ _ _ (HH.out.below (C := w.heap.size) bwc44 (Nat.le_refl _) (by omega)) (HK.out.below (C := w.heap.size) bwc44 (Nat.le_refl _) (by omega)) (HB.out.below (C := w.heap.size) bwc44 (Nat.le_refl _) (by omega)) HF.out HE1.out HE2.out HTT.out HT.out).mono ?_
        rw [HQA.out]
        rintro e w5 ⟨rfl, hb5⟩
        have kw5 : Below wc44.heap.size wc44 w5 := hb5
        have bw5 : Below w.heap.size w w5 := bwc44.trans (kw5.mono bwc44.size)
        have zw5 : w.heap.size + 2 < w5.heap.size := by have := kw5.size; omega
        have Pw5 : Hid (w5.heap[w.heap.size]? = some (.cells #[.int .i64 h.src, .int .i64 h.crt, .int .i64 h.seq, .int .i64 h.off, .int .i64 h.tot, .int .i64 h.dk, .int .i64 h.dn, .int .i64 h.life, .int .i64 h.prio, .int .i64 h.flags, .slice a h.blocks.length c, .string (B h.payload), .slice ka kn.length kc, .string (B dt)] 81 (0, 0))) := Lib.hid ((kw5.block _ (by omega)).trans Pwc44.out)
        have Bw5 : Hid (w5.heap[w.heap.size + 1]? = some (.cells #[.int .i64 b.src, .int .i64 b.crt, .int .i64 b.seq, .int .i64 b.off, .int .i64 b.tot, .int .i64 b.dk, .int .i64 b.dn, .int .i64 b.life, .int .i64 b.prio, .int .i64 b.flags, .slice a2 b.blocks.length c2, .string (B b.payload)] 32 (0, 0))) := Lib.hid ((kw5.block _ (by omega)).trans Bwc44.out)
        have Rw5 : Hid (w5.heap[w.heap.size + 2]? = some (.cells #[.int .i64 0, .int .i64 0, .int .i64 0, .int .i64 0, .int .i64 0, .int .i64 0, .int .i64 0, .int .i64 0, .int .i64 0, .int .i64 0, .slice none 0 0, .string ⟨#[]⟩, .slice none 0 0, .string ⟨#[]⟩] 81 (0, 0))) := Lib.hid ((kw5.block _ (by omega)).trans Rwc44.out)
        clear cp cb cr fr kw5 Pwc44 Bwc44 Rwc44 ywc44 xwc44
        have yw5 : w.heap.size < w5.heap.size := by omega
        have xw5 : w.heap.size + 1 < w5.heap.size := by omega
        have cp := fun o => cellB Pw5.out o
        have cb := fun o => cellB Bw5.out o
        have cr := fun o => cellB Rw5.out o
        have fr := fun o => frozenB Rw5.out o
        clear hb5
        cases QA with
        | false =>
          have HV : Hid (V = (zPar, 24)) := Lib.hid (by rw [← HVV.out]; exact addP_4 HE1.out HE2.out HT.out HQB.out HQA.out)
          as_aux_lemma =>
            clear cp cb cr fr
            rw [show w.heap.size + 1 + 1 = w.heap.size + 2 from rfl]
            go_wp2_with (refine wpList_store_block rfl 81 _ _ rfl (w.heap.size + 2) #[.int .i64 0, .int .i64 0, .int .i64 0, .int .i64 0, .int .i64 0, .int .i64 0, .int .i64 0, .int .i64 0, .int .i64 0, .int .i64 0, .slice none 0 0, .string ⟨#[]⟩, .slice none 0 0, .string ⟨#[]⟩] _ 81 rfl rfl Rw5.out rfl (by kernel_rfl) (by simp [Value.oneCell']) ?_; intro wF hW hbW hsW hoW; have bF : Below w.heap.size w wF := bw5.trans (hbW _ (by omega)); have zF : w.heap.size + 2 < wF.heap.size := (by rw [hsW]; exact zw5); have cF := fun o => cellB hW o; clear hW hbW hsW hoW)
            refine bodyPost_ret (v := .tuple #[.agg #[.int .i64 0, .int .i64 0, .int .i64 0, .int .i64 0, .int .i64 0, .int .i64 0, .int .i64 0, .int .i64 0, .int .i64 0, .int .i64 0, .slice none 0 0, .string ⟨#[]⟩, .slice none 0 0, .string ⟨#[]⟩], .int .i64 24]) (by simp [results, Tryz.results30, go_sem, World.cell?_setCell_same', cF, zF]) rfl ?_
            rw [HV.out]
            exact ⟨_, _, rfl, .inl rfl, RBlks.nil _ _, RSps.nil _ _, rfrom_nil _ _ _, bF⟩
        | true =>
        have HV5 : Hid (V = if 1000 < (ins kn (spanB b)).length then (zPar, 4) else (⟨{ h with blocks := if b.off = 0 then b.blocks else h.blocks }, ins kn (spanB b), writeS dt b⟩, 0)) := Lib.hid (by rw [← HVV.out]; exact addP_5 HE1.out HE2.out HT.out HQB.out HQA.out)
        obtain ⟨L, hL⟩ : ∃ q, ins kn (spanB b) = q := ⟨_, rfl⟩
        rw [hL] at HCO HV5
        obtain ⟨D, hD⟩ : ∃ q, writeS dt b = q := ⟨_, rfl⟩
        have HDD := Lib.hid hD
        rw [hD] at HV5
        clear hL hD hE1 hE2
        as_aux_lemma =>
          go_upto_region 9 with fail
          refine wp_region_plan (fun V => Below (w5).heap.size (w5) V) [0, 1, 1, 2, 2, 3, 0, 0, 0, 0, 0] [0, 1, 2, 3, 4, 5, 6, 7, 8, 9, 10] (by kernel_rfl) (by kernel_rfl) ?_ ?_
          case refine_1 => exact belowA
          (iterate 3 (first | (refine plan_held rfl (by decide) (by rfl) (fun w1 hS => by (try (obtain ⟨_, _⟩ := bcell (hS rfl))); go_simp; rfl) ?_; simp only [Act.put, List.setIfInBounds_toArray, List.set_cons_zero, List.set_cons_succ]) | (refine plan_skip rfl (by decide) (by rfl) ?_; simp only [Act.put, List.setIfInBounds_toArray, List.set_cons_zero, List.set_cons_succ])))
          (refine plan_keep rfl rfl (by rfl) (fun K hK => ?_); go_simp)
          refine (pspan_any b _ _ (HB.out.below (C := w.heap.size) (btrans0 bw5 belowA) (Nat.le_refl _) (Below.size (btrans0 bw5 belowA))) HB0.out.1 HB0.out.2.1 HB0.out.2.2.1).mono ?_
          rintro e wc57 ⟨rfl, hbc57⟩
          (refine hK _ _ (by exact belowA) ?_; clear hK K; (try simp only [Act.put, List.setIfInBounds_toArray, List.set_cons_zero, List.set_cons_succ]))
          (refine plan_keep rfl rfl (by rfl) (fun K hK => ?_); go_simp)
          (refine hK _ _ (by exact belowA) ?_; clear hK K; (try simp only [Act.put, List.setIfInBounds_toArray, List.set_cons_zero, List.set_cons_succ]))
          (refine plan_late rfl rfl (by rfl) (fun K hK => ?_); go_simp)
          refine (sor_any kn [spanB b] _ _ _ (HK.out.below (C := w.heap.size) (btrans0 bw5 belowA) (Nat.le_refl _) (Below.size (btrans0 bw5 belowA))) (RSps.one (t := 154) (f := (0, 0)) (by exact heap_new) rfl)).mono ?_
          rw [HCO.out]
          rintro e wc59 ⟨r, rfl, hr, hf9, hbc59⟩
          obtain ⟨ra, rc, rfl⟩ : ∃ ra rc, r = .slice ra (limS L).1.length rc := by obtain ⟨a, c, h, _⟩ := hr; exact ⟨a, c, h⟩
          have R9 := Lib.hid hr
          have F9 : Hid (RFrom w5.heap.size (.slice ra (limS L).1.length rc)) := Lib.hid (hf9.le (by have := hbc57.size; have e5 : w5.drew.heap.size = w5.heap.size := rfl; simp at this ⊢; omega))
          clear hr hf9
          (refine hK _ _ ?_; clear hK K; (try simp only [Act.put, List.setIfInBounds_toArray, List.set_cons_zero, List.set_cons_succ]))
          (iterate 5 (first | (refine plan_held rfl (by decide) (by rfl) (fun w1 hS => by (try (obtain ⟨_, _⟩ := bcell (hS rfl))); go_simp; rfl) ?_; simp only [Act.put, List.setIfInBounds_toArray, List.set_cons_zero, List.set_cons_succ]) | (refine plan_skip rfl (by decide) (by rfl) ?_; simp only [Act.put, List.setIfInBounds_toArray, List.set_cons_zero, List.set_cons_succ])))
          refine plan_done ?_
          have kk6 : Below w5.heap.size w5 wc59 := by exact belowA
          have kwc59 : Below w5.heap.size w5 wc59 := kk6
          have bwc59 : Below w.heap.size w wc59 := bw5.trans (kwc59.mono bw5.size)
          have zwc59 : w.heap.size + 2 < wc59.heap.size := by have := kwc59.size; omega
          have Pwc59 : Hid (wc59.heap[w.heap.size]? = some (.cells #[.int .i64 h.src, .int .i64 h.crt, .int .i64 h.seq, .int .i64 h.off, .int .i64 h.tot, .int .i64 h.dk, .int .i64 h.dn, .int .i64 h.life, .int .i64 h.prio, .int .i64 h.flags, .slice a h.blocks.length c, .string (B h.payload), .slice ka kn.length kc, .string (B dt)] 81 (0, 0))) := Lib.hid ((kwc59.block _ (by omega)).trans Pw5.out)
          have Bwc59 : Hid (wc59.heap[w.heap.size + 1]? = some (.cells #[.int .i64 b.src, .int .i64 b.crt, .int .i64 b.seq, .int .i64 b.off, .int .i64 b.tot, .int .i64 b.dk, .int .i64 b.dn, .int .i64 b.life, .int .i64 b.prio, .int .i64 b.flags, .slice a2 b.blocks.length c2, .string (B b.payload)] 32 (0, 0))) := Lib.hid ((kwc59.block _ (by omega)).trans Bw5.out)
          have Rwc59 : Hid (wc59.heap[w.heap.size + 2]? = some (.cells #[.int .i64 0, .int .i64 0, .int .i64 0, .int .i64 0, .int .i64 0, .int .i64 0, .int .i64 0, .int .i64 0, .int .i64 0, .int .i64 0, .slice none 0 0, .string ⟨#[]⟩, .slice none 0 0, .string ⟨#[]⟩] 81 (0, 0))) := Lib.hid ((kwc59.block _ (by omega)).trans Rw5.out)
          clear cp cb cr fr kwc59 Pw5 Bw5 Rw5 yw5 xw5
          have ywc59 : w.heap.size < wc59.heap.size := by omega
          have xwc59 : w.heap.size + 1 < wc59.heap.size := by omega
          have cp := fun o => cellB Pwc59.out o
          have cb := fun o => cellB Bwc59.out o
          have cr := fun o => cellB Rwc59.out o
          have fr := fun o => frozenB Rwc59.out o
          clear kk6
          by_cases l1 : 1000 < L.length
          · have HV : Hid (V = (zPar, 4)) := Lib.hid (by rw [HV5.out, if_pos l1])
            have e6 : (limS L).2 = 4 := by unfold limS; rw [if_pos l1]
            rw [e6]
            clear R9 F9 l1
            as_aux_lemma =>
              clear cp cb cr fr
              rw [show w.heap.size + 1 + 1 = w.heap.size + 2 from rfl]
              go_wp2_with (refine wpList_store_block rfl 81 _ _ rfl (w.heap.size + 2) #[.int .i64 0, .int .i64 0, .int .i64 0, .int .i64 0, .int .i64 0, .int .i64 0, .int .i64 0, .int .i64 0, .int .i64 0, .int .i64 0, .slice none 0 0, .string ⟨#[]⟩, .slice none 0 0, .string ⟨#[]⟩] _ 81 rfl rfl Rwc59.out rfl (by kernel_rfl) (by simp [Value.oneCell']) ?_; intro wF hW hbW hsW hoW; have bF : Below w.heap.size w wF := bwc59.trans (hbW _ (by omega)); have zF : w.heap.size + 2 < wF.heap.size := (by rw [hsW]; exact zwc59); have cF := fun o => cellB hW o; clear hW hbW hsW hoW)
              refine bodyPost_ret (v := .tuple #[.agg #[.int .i64 0, .int .i64 0, .int .i64 0, .int .i64 0, .int .i64 0, .int .i64 0, .int .i64 0, .int .i64 0, .int .i64 0, .int .i64 0, .slice none 0 0, .string ⟨#[]⟩, .slice none 0 0, .string ⟨#[]⟩], .int .i64 4]) (by simp [results, Tryz.results30, go_sem, World.cell?_setCell_same', cF, zF]) rfl ?_
              rw [HV.out]
              exact ⟨_, _, rfl, .inl rfl, RBlks.nil _ _, RSps.nil _ _, rfrom_nil _ _ _, bF⟩
          have HV6 : Hid (V = (⟨{ h with blocks := if b.off = 0 then b.blocks else h.blocks }, L, D⟩, 0)) := Lib.hid (by rw [HV5.out, if_neg l1])
          have e6 : limS L = (L, 0) := if_neg l1
          rw [e6] at R9 F9 ⊢
          simp only at R9 F9 ⊢
          have hdl : dt.length ≤ 100000 := by omega
          clear l1 e6
          go_wp2_with fail
          refine (write_any dt b _ _ (HB.out.below (C := w.heap.size) bwc59 (Nat.le_refl _) (by omega)) hdl HB0.out.1 (by rw [← HTT.out]; exact HB0.out.2.2.2.2) HB0.out.2.2.2.1).mono ?_
          rw [HDD.out]
          rintro e w7 ⟨rfl, hb7⟩
          have kw7 : Below wc59.heap.size wc59 w7 := hb7
          have bw7 : Below w.heap.size w w7 := bwc59.trans (kw7.mono bwc59.size)
          have zw7 : w.heap.size + 2 < w7.heap.size := by have := kw7.size; omega
          have Pw7 : Hid (w7.heap[w.heap.size]? = some (.cells #[.int .i64 h.src, .int .i64 h.crt, .int .i64 h.seq, .int .i64 h.off, .int .i64 h.tot, .int .i64 h.dk, .int .i64 h.dn, .int .i64 h.life, .int .i64 h.prio, .int .i64 h.flags, .slice a h.blocks.length c, .string (B h.payload), .slice ka kn.length kc, .string (B dt)] 81 (0, 0))) := Lib.hid ((kw7.block _ (by omega)).trans Pwc59.out)
          have Bw7 : Hid (w7.heap[w.heap.size + 1]? = some (.cells #[.int .i64 b.src, .int .i64 b.crt, .int .i64 b.seq, .int .i64 b.off, .int .i64 b.tot, .int .i64 b.dk, .int .i64 b.dn, .int .i64 b.life, .int .i64 b.prio, .int .i64 b.flags, .slice a2 b.blocks.length c2, .string (B b.payload)] 32 (0, 0))) := Lib.hid ((kw7.block _ (by omega)).trans Bwc59.out)
          have Rw7 : Hid (w7.heap[w.heap.size + 2]? = some (.cells #[.int .i64 0, .int .i64 0, .int .i64 0, .int .i64 0, .int .i64 0, .int .i64 0, .int .i64 0, .int .i64 0, .int .i64 0, .int .i64 0, .slice none 0 0, .string ⟨#[]⟩, .slice none 0 0, .string ⟨#[]⟩] 81 (0, 0))) := Lib.hid ((kw7.block _ (by omega)).trans Rwc59.out)
          clear cp cb cr fr kw7 Pwc59 Bwc59 Rwc59 ywc59 xwc59
          have yw7 : w.heap.size < w7.heap.size := by omega
          have xw7 : w.heap.size + 1 < w7.heap.size := by omega
          have cp := fun o => cellB Pw7.out o
          have cb := fun o => cellB Bw7.out o
          have cr := fun o => cellB Rw7.out o
          have fr := fun o => frozenB Rw7.out o
          have R7 := Lib.hid (R9.out.below' hb7)
          clear hb7
          have fp := fun o => frozenB Pw7.out o
          as_aux_lemma =>
            go_upto_region 13 with fail
            obtain ⟨w8, hw8⟩ : ∃ q, q = (w7.setCell ⟨w.heap.size, 12, none⟩ (.slice ra L.length rc)).setCell ⟨w.heap.size, 13, none⟩ (.string (B D)) := ⟨_, rfl⟩
            rw [← hw8]
            have g8 : w8.heap[w.heap.size]? = some (.cells #[.int .i64 h.src, .int .i64 h.crt, .int .i64 h.seq, .int .i64 h.off, .int .i64 h.tot, .int .i64 h.dk, .int .i64 h.dn, .int .i64 h.life, .int .i64 h.prio, .int .i64 h.flags, .slice a h.blocks.length c, .string (B h.payload), .slice ra L.length rc, .string (B D)] 81 (0, 0)) := by
              rw [hw8]
              have := setB (setB Pw7.out 12 (.slice ra L.length rc)) 13 (.string (B D))
              simpa using this
            have o8 : ∀ q, q ≠ w.heap.size → w8.heap[q]? = w7.heap[q]? := fun q hq => by
              rw [hw8]
              exact (heap_setCell_other _ _ _ _ (by exact hq)).trans (heap_setCell_other _ _ _ _ (by exact hq))
            have b8 : Below w.heap.size w w8 := by
              rw [hw8]
              exact bset (bset bw7 (Nat.le_refl _)) (Nat.le_refl _)
            have s8 : w8.heap.size = w7.heap.size := by rw [hw8]; simp
            have q8 := (o8 _ (by omega)).trans Bw7.out
            have r8 := (o8 _ (by omega)).trans Rw7.out
            have F8 := Lib.hid F9.out
            have n5 : w.heap.size + 2 < w5.heap.size := zw5
            have K8 : Hid (RSps w8 w8.heap.size (.slice ra L.length rc) L) := Lib.hid (RSps.keepFrom (L := w5.heap.size) R7.out F8.out (fun b hb => o8 b (by omega)) (by omega))
            have y8 : w.heap.size < w8.heap.size := by omega
            have x8 : w.heap.size + 1 < w8.heap.size := by omega
            have z8 : w.heap.size + 2 < w8.heap.size := by omega
            have P8 := Lib.hid g8
            have B8 := Lib.hid q8
            have R8 := Lib.hid r8
            clear hw8 o8 cp cb cr fr fp g8 q8 r8 R9 R7 s8
            have cp := fun o => cellB P8.out o
            have fp := fun o => frozenB P8.out o
            have cb := fun o => cellB B8.out o
            have cr := fun o => cellB R8.out o
            have fr := fun o => frozenB R8.out o
            by_cases off : b.off = 0
            · have off' : (b.off == 0) = true := by rw [beq_iff_eq]; exact off
              have HV8 : Hid (V = (⟨⟨h.src, h.crt, h.seq, h.off, h.tot, h.dk, h.dn, h.life, h.prio, h.flags, b.blocks, h.payload⟩, L, D⟩, 0)) := Lib.hid (by rw [HV6.out, if_pos off])
              clear off
              as_aux_lemma =>
                go_upto_region 15 with fail
                clear off'
                obtain ⟨w9, hw9⟩ : ∃ q, q = w8.setCell ⟨w.heap.size, 10, none⟩ (.slice a2 b.blocks.length c2) := ⟨_, rfl⟩
                rw [← hw9]
                have g9 : w9.heap[w.heap.size]? = some (.cells #[.int .i64 h.src, .int .i64 h.crt, .int .i64 h.seq, .int .i64 h.off, .int .i64 h.tot, .int .i64 h.dk, .int .i64 h.dn, .int .i64 h.life, .int .i64 h.prio, .int .i64 h.flags, .slice a2 b.blocks.length c2, .string (B h.payload), .slice ra L.length rc, .string (B D)] 81 (0, 0)) := by
                  rw [hw9]
                  have := setB P8.out 10 (.slice a2 b.blocks.length c2)
                  simpa using this
                have o9 : ∀ q, q ≠ w.heap.size → w9.heap[q]? = w8.heap[q]? := fun q hq => by
                  rw [hw9]
                  exact heap_setCell_other _ _ _ _ (by exact hq)
                have b9 : Below w.heap.size w w9 := by
                  rw [hw9]
                  exact bset b8 (Nat.le_refl _)
                have s9 : w9.heap.size = w8.heap.size := by rw [hw9]; simp
                have R9 := Lib.hid ((o9 _ (by omega)).trans R8.out)
                have K9 : Hid (RSps w9 w9.heap.size (.slice ra L.length rc) L) := Lib.hid (RSps.keepFrom (L := w5.heap.size) K8.out F8.out (fun b hb => o9 b (by omega)) (by omega))
                have z9 : w.heap.size + 2 < w9.heap.size := by omega
                have P9 := Lib.hid g9
                clear s9 hw9 o9 cp cb cr fr fp g9
                have cp := fun o => cellB P9.out o
                rw [show w.heap.size + 1 + 1 = w.heap.size + 2 from rfl]
                go_wp2_with (refine wpList_store_block rfl 81 _ _ rfl (w.heap.size + 2) #[.int .i64 h.src, .int .i64 h.crt, .int .i64 h.seq, .int .i64 h.off, .int .i64 h.tot, .int .i64 h.dk, .int .i64 h.dn, .int .i64 h.life, .int .i64 h.prio, .int .i64 h.flags, .slice a2 b.blocks.length c2, .string (B h.payload), .slice ra L.length rc, .string (B D)] _ 81 rfl rfl R9.out rfl (by kernel_rfl) (by simp [Value.oneCell']) ?_; intro wF hW hbW hsW hoW; have bF : Below w.heap.size w wF := b9.trans (hbW _ (by omega)); have zF : w.heap.size + 2 < wF.heap.size := (by rw [hsW]; exact z9); have KF : Hid (RSps wF wF.heap.size (.slice ra L.length rc) L) := Lib.hid (RSps.keepFrom (L := w5.heap.size) K9.out F8.out (fun bb hb => hoW bb (by omega)) (by rw [hsW]; exact Nat.le_refl _)); have cF := fun o => cellB hW o; clear hW hbW hsW hoW cp)
                refine bodyPost_ret (v := .tuple #[.agg #[.int .i64 h.src, .int .i64 h.crt, .int .i64 h.seq, .int .i64 h.off, .int .i64 h.tot, .int .i64 h.dk, .int .i64 h.dn, .int .i64 h.life, .int .i64 h.prio, .int .i64 h.flags, .slice a2 b.blocks.length c2, .string (B h.payload), .slice ra L.length rc, .string (B D)], .int .i64 0]) (by simp [results, Tryz.results30, go_sem, World.cell?_setCell_same', cF, zF]) rfl ?_
                refine ⟨_, _, by rw [HV8.out]; rfl, .inr (.inr rfl), ?_, ?_, RFrom.le (M := w5.heap.size) F8.out (by omega), belowA⟩
                · rw [HV8.out]
                  exact HBN.out.below (C := w.heap.size) (by exact belowA) hN (Nat.le_refl _)
                · rw [HV8.out]
                  exact KF.out
            · have off' : (b.off == 0) = false := by rw [beq_eq_false_iff_ne]; exact off
              have HV8 : Hid (V = (⟨⟨h.src, h.crt, h.seq, h.off, h.tot, h.dk, h.dn, h.life, h.prio, h.flags, h.blocks, h.payload⟩, L, D⟩, 0)) := Lib.hid (by rw [HV6.out, if_neg off])
              clear off
              as_aux_lemma =>
                go_upto_region 15 with fail
                clear off'
                obtain ⟨w9, hw9⟩ : ∃ q, q = w8 := ⟨_, rfl⟩
                rw [← hw9]
                have b9 : Below w.heap.size w w9 := by rw [hw9]; exact b8
                have R9 : Hid (w9.heap[w.heap.size + 2]? = some (.cells #[.int .i64 0, .int .i64 0, .int .i64 0, .int .i64 0, .int .i64 0, .int .i64 0, .int .i64 0, .int .i64 0, .int .i64 0, .int .i64 0, .slice none 0 0, .string ⟨#[]⟩, .slice none 0 0, .string ⟨#[]⟩] 81 (0, 0))) := Lib.hid (by rw [hw9]; exact R8.out)
                have K9 : Hid (RSps w9 w9.heap.size (.slice ra L.length rc) L) := Lib.hid (by rw [hw9]; exact K8.out)
                have P9 : Hid (w9.heap[w.heap.size]? = some (.cells #[.int .i64 h.src, .int .i64 h.crt, .int .i64 h.seq, .int .i64 h.off, .int .i64 h.tot, .int .i64 h.dk, .int .i64 h.dn, .int .i64 h.life, .int .i64 h.prio, .int .i64 h.flags, .slice a h.blocks.length c, .string (B h.payload), .slice ra L.length rc, .string (B D)] 81 (0, 0))) := Lib.hid (by rw [hw9]; exact P8.out)
                have z9 : w.heap.size + 2 < w9.heap.size := by rw [hw9]; exact z8
                clear hw9 cp cb cr fr fp
                have cp := fun o => cellB P9.out o
                rw [show w.heap.size + 1 + 1 = w.heap.size + 2 from rfl]
                go_wp2_with (refine wpList_store_block rfl 81 _ _ rfl (w.heap.size + 2) #[.int .i64 h.src, .int .i64 h.crt, .int .i64 h.seq, .int .i64 h.off, .int .i64 h.tot, .int .i64 h.dk, .int .i64 h.dn, .int .i64 h.life, .int .i64 h.prio, .int .i64 h.flags, .slice a h.blocks.length c, .string (B h.payload), .slice ra L.length rc, .string (B D)] _ 81 rfl rfl R9.out rfl (by kernel_rfl) (by simp [Value.oneCell']) ?_; intro wF hW hbW hsW hoW; have bF : Below w.heap.size w wF := b9.trans (hbW _ (by omega)); have zF : w.heap.size + 2 < wF.heap.size := (by rw [hsW]; exact z9); have KF : Hid (RSps wF wF.heap.size (.slice ra L.length rc) L) := Lib.hid (RSps.keepFrom (L := w5.heap.size) K9.out F8.out (fun bb hb => hoW bb (by omega)) (by rw [hsW]; exact Nat.le_refl _)); have cF := fun o => cellB hW o; clear hW hbW hsW hoW cp)
                refine bodyPost_ret (v := .tuple #[.agg #[.int .i64 h.src, .int .i64 h.crt, .int .i64 h.seq, .int .i64 h.off, .int .i64 h.tot, .int .i64 h.dk, .int .i64 h.dn, .int .i64 h.life, .int .i64 h.prio, .int .i64 h.flags, .slice a h.blocks.length c, .string (B h.payload), .slice ra L.length rc, .string (B D)], .int .i64 0]) (by simp [results, Tryz.results30, go_sem, World.cell?_setCell_same', cF, zF]) rfl ?_
                refine ⟨_, _, by rw [HV8.out]; rfl, .inr (.inl rfl), ?_, ?_, RFrom.le (M := w5.heap.size) F8.out (by omega), belowA⟩
                · rw [HV8.out]
                  exact HHN.out.below (C := w.heap.size) (by exact belowA) hN (Nat.le_refl _)
                · rw [HV8.out]
                  exact KF.out
end Go.Proofs.YtmknchdciblfjaaGreat
