/- Joined by port.py: XSn -/
import Derived.BigQuiet
import Derived.BigRegion
import Derived.Deep.DeepCutAuto
import Derived.Deep.CutBlock
import Derived.Laws.MakeOwn
import Derived.Test.YtmknchdciblfjaaGreatSm
import Derived.Test.YtmknchdciblfjaaGreatRT
import Derived.Test.YtmknchdciblfjaaGreatJt
import Derived.Test.YtmknchdciblfjaaGreatJa
import Derived.Test.YtmknchdciblfjaaGreatJb
import Derived.Test.YtmknchdciblfjaaGreatJc
import Derived.Test.YtmknchdciblfjaaGreatJe
import Derived.Test.YtmknchdciblfjaaGreatJh
import Derived.Test.YtmknchdciblfjaaGreatJm
import Derived.Test.YtmknchdciblfjaaGreatJo
import Derived.Test.YtmknchdciblfjaaGreatJs
import Derived.Test.YtmknchdciblfjaaGreatJp
import Derived.Test.YtmknchdciblfjaaGreatJqz
import Derived.Test.YtmknchdciblfjaaGreatKaz
import Derived.Test.YtmknchdciblfjaaGreatJw
import Derived.Test.YtmknchdciblfjaaGreatSb
import Derived.Test.YtmknchdciblfjaaGreatSz
import Derived.Test.YtmknchdciblfjaaGreatSh
import Derived.Test.YtmknchdciblfjaaGreatSi
import Derived.Test.YtmknchdciblfjaaGreatSkz
set_option linter.unusedVariables false
set_option linter.unusedSimpArgs false
/-! XSn -/
namespace Go.Proofs.YtmknchdciblfjaaGreat
open Go Go.RowKit Iv
attribute [local go_sem] Oper.semAt_some
attribute [local go_sem] B_size
attribute [local go_sem] bunC
abbrev nwZ : Array Value := #[.int .i64 0, .int .i64 0, .int .i64 0, .int .i64 0, .int .i64 0, .int .i64 0, .int .i64 0, .int .i64 0, .int .i64 0, .int .i64 0, .slice none 0 0, .string ⟨#[]⟩, .slice none 0 0, .string ⟨#[]⟩]
abbrev nwC (b : Bun) (a : Option Addr) (c gk : Nat) (D : List UInt8) : Array Value := #[.int .i64 b.src, .int .i64 b.crt, .int .i64 b.seq, .int .i64 b.off, .int .i64 b.tot, .int .i64 b.dk, .int .i64 b.dn, .int .i64 b.life, .int .i64 b.prio, .int .i64 b.flags, .slice a b.blocks.length c, .string (B b.payload), .slice (some ⟨gk, 0, none⟩) 1 1, .string (B D)]
theorem alloc_facts {A B : World} {o : Obj} (h : A.alloc o = B) : ∃ g, A.heap.size = g ∧ B.heap[g]? = some o ∧ Below A.heap.size A B := by
  subst h
  exact ⟨_, rfl, heap_new, balloc0 (Below.refl _ _)⟩
theorem tree_br2 {P : Program} {ops : Array Oper} {Q : Exit → Act → World → Prop} {S : World → Prop} {kd : List Nat} {i j : Nat} {t u : PT} {a : Act} {w : World} (h1 : wpOp P ops Q i (fun a' w' => S w' ∧ wpTree P ops Q S kd t a' w') a w) (h2 : wpOp P ops Q j (fun a' w' => S w' ∧ wpTree P ops Q S kd u a' w') a w) : wpTree P ops Q S kd (.br2 i j t u) a w := ⟨h1, h2⟩
theorem tree_br3 {P : Program} {ops : Array Oper} {Q : Exit → Act → World → Prop} {S : World → Prop} {kd : List Nat} {i j k : Nat} {t u v : PT} {a : Act} {w : World} (h1 : wpOp P ops Q i (fun a' w' => S w' ∧ wpTree P ops Q S kd t a' w') a w) (h2 : wpOp P ops Q j (fun a' w' => S w' ∧ wpTree P ops Q S kd u a' w') a w) (h3 : wpOp P ops Q k (fun a' w' => S w' ∧ wpTree P ops Q S kd v a' w') a w) : wpTree P ops Q S kd (.br3 i j k t u v) a w := ⟨h1, h2, h3⟩
theorem run_mkBytes (m : Int) (n : Nat) (hm : m = n) (w : World) (hn : n ≤ 100000) : Sem.run Tryz.prog (Instr.makeSlice 23 (.int .i64 m) (.int .i64 m)) w = .ok (.slice (some ⟨w.heap.size, 0, none⟩) n n) (w.alloc (.cells (Array.replicate n (.int .u8 0)) 5)) := by
  subst hm
  obtain ⟨i0, hin, hz0, hz1, hz2⟩ := info_parts infoU8
  have h := run_make (P := Tryz.prog) w 23 5 i0 _ Tryz.underlying23 hin hz0 .i64 .i64 n n (by omega) (Int.le_refl _) (by rw [hz2]; omega) (by omega)
  have e : madeCells (Value.int .u8 0).cells (n * i0.size) = (Array.replicate n (.int .u8 0)) := by
    apply Array.toList_inj.1
    rw [hz1, Nat.mul_one]
    show (madeCells #[.int .u8 0] n).toList = _
    rw [toList_madeCells_one]
    simp
  simp only [Int.toNat_natCast] at h
  rw [e] at h
  exact h
theorem rsps_one_keep {w W : World} {N M gk : Nat} {sp : Sp} (h : RSps w N (.slice (some ⟨gk, 0, none⟩) 1 1) [sp]) (k : W.heap[gk]? = w.heap[gk]?) (hM : N ≤ M) : RSps W M (.slice (some ⟨gk, 0, none⟩) 1 1) [sp] := by
  obtain ⟨a, c, e1, e2, e3, e4, e5⟩ := h
  injection e1 with ea _ ec
  subst ea ec
  refine ⟨_, _, rfl, e2, e3, e4, fun hp => ?_⟩
  obtain ⟨b, o, e, hb, hc⟩ := e5 hp
  injection e with e
  injection e with e1 e2 _
  subst e1 e2
  exact ⟨_, _, rfl, by omega, fun j v hv => (World.cell?_of_block k).trans (hc j v hv)⟩
theorem new_end {w w2 cur Wf : World} {g gk : Nat} {sp : Sp} {o1 o2 o3 : Obj} (BX : Below w2.heap.size w2 cur) (bw2 : Below w.heap.size w w2) (hk : cur.heap[gk]? = some (.cells (spC sp).toArray 154 (0, 0))) (hne : g ≠ gk) (hg : w2.heap.size ≤ g) (hgk : w2.heap.size ≤ gk) (h1 : w2.heap[w.heap.size]? = some o1) (h2 : w2.heap[w.heap.size + 1]? = some o2) (hz : w.heap.size + 1 < w2.heap.size)
    (hWf : Wf.heap[g]? = some o3) (hb : Below w2.heap.size cur Wf) (ho : ∀ q, q ≠ g → Wf.heap[q]? = cur.heap[q]?) :
    w.heap.size + 1 < g ∧ Wf.heap[g]? = some o3 ∧ RSps Wf Wf.heap.size (.slice (some ⟨gk, 0, none⟩) 1 1) [sp] ∧ gk ≠ g ∧ w.heap.size + 1 < gk ∧ Wf.heap[w.heap.size]? = some o1 ∧ Wf.heap[w.heap.size + 1]? = some o2 ∧ Below w.heap.size w Wf := by
  have hB4 : Below w2.heap.size w2 Wf := BX.trans hb
  exact ⟨by omega, hWf, RSps.one ((ho gk (Ne.symm hne)).trans hk) rfl, Ne.symm hne, by omega, (hB4.block _ (by omega)).trans h1, (hB4.block _ (by omega)).trans h2, bw2.trans (hB4.mono bw2.size)⟩
set_option maxRecDepth 100000 in
set_option maxHeartbeats 32000000 in
theorem new_any (b : Bun) (u : Value) (N : Nat) (w : World) (hN : N ≤ w.heap.size) (h : RBlks w N u b.blocks) (hf : Fits b) :
    Calls Tryz.prog 29 #[.agg (bunC b u).toArray] w (ParPost N (newP b) w) := by
  obtain ⟨a, c, rfl, _⟩ := id h
  have HR := Lib.hid (h.wide hN)
  have HRN := Lib.hid h
  have HF := Lib.hid hf
  obtain ⟨E, hE⟩ : ∃ q, chkE b = q := ⟨_, rfl⟩
  have HE := Lib.hid hE
  by_cases z : E = 0
  case neg =>
    have hN : newP b = (zPar, 1) := if_pos (by rw [hE]; exact z)
    rw [hN]
    have z' : (E != 0) = true := by rw [bne_iff_ne]; exact z
    clear hE z h hf hN
    go_enter Tryz.func29, Tryz.ntmps29
    simp only [bunC]
    go_wp2_with fail
    refine (check_any b _ _ (HR.out.below (C := w.heap.size) (by exact belowA) (Nat.le_refl _) (by simp; omega)) HF.out).mono ?_
    rw [HE.out]
    rintro e w1 ⟨rfl, hb1⟩
    have bw1 : Below w.heap.size w w1 := btrans0 (by exact belowA) hb1
    have zw1 : w.heap.size + 1 < w1.heap.size := by have := hb1.size; (try simp at this); omega
    have Bw1 : Hid (w1.heap[w.heap.size]? = some (.cells #[.int .i64 b.src, .int .i64 b.crt, .int .i64 b.seq, .int .i64 b.off, .int .i64 b.tot, .int .i64 b.dk, .int .i64 b.dn, .int .i64 b.life, .int .i64 b.prio, .int .i64 b.flags, .slice a b.blocks.length c, .string (B b.payload)] 32 (0, 0))) := Lib.hid ((hb1.block _ (by simp; omega)).trans ((Below.heap_alloc _ _ _ (by simp)).trans heap_new))
    have Rw1 : Hid (w1.heap[w.heap.size + 1]? = some (.cells #[.int .i64 0, .int .i64 0, .int .i64 0, .int .i64 0, .int .i64 0, .int .i64 0, .int .i64 0, .int .i64 0, .int .i64 0, .int .i64 0, .slice none 0 0, .string ⟨#[]⟩, .slice none 0 0, .string ⟨#[]⟩] 81 (0, 0))) := Lib.hid ((hb1.block _ (by simp)).trans (heap_new' (by simp)))
    have yw1 : w.heap.size < w1.heap.size := by omega
    have cb := fun o => cellB Bw1.out o
    have cr := fun o => cellB Rw1.out o
    have fr := fun o => frozenB Rw1.out o
    clear hb1
    go_wp2_with fail
    refine bodyPost_ret (v := .tuple #[.agg #[.int .i64 0, .int .i64 0, .int .i64 0, .int .i64 0, .int .i64 0, .int .i64 0, .int .i64 0, .int .i64 0, .int .i64 0, .int .i64 0, .slice none 0 0, .string ⟨#[]⟩, .slice none 0 0, .string ⟨#[]⟩], .int .i64 1]) (by simp [results, Tryz.results29, go_sem, World.cell?_setCell_same', cr, zw1]) rfl ?_
    exact ⟨_, _, rfl, RBlksD.nil _ _, RSps.nil _ _, rfrom_nil _ _ _, belowA⟩
  subst z
  have hv := valid_facts hE
  by_cases t : 0 < b.tot
  case neg =>
    have hN : newP b = (zPar, 19) := by unfold newP; rw [if_neg (by rw [hE]; simp), if_pos t]
    rw [hN]
    have t' : decide (b.tot > 0) = false := decide_eq_false (by omega)
    clear hE h hf hN hv t
    go_enter Tryz.func29, Tryz.ntmps29
    simp only [bunC]
    go_wp2_with fail
    refine (check_any b _ _ (HR.out.below (C := w.heap.size) (by exact belowA) (Nat.le_refl _) (by simp; omega)) HF.out).mono ?_
    rw [HE.out]
    rintro e w1 ⟨rfl, hb1⟩
    have bw1 : Below w.heap.size w w1 := btrans0 (by exact belowA) hb1
    have zw1 : w.heap.size + 1 < w1.heap.size := by have := hb1.size; (try simp at this); omega
    have Bw1 : Hid (w1.heap[w.heap.size]? = some (.cells #[.int .i64 b.src, .int .i64 b.crt, .int .i64 b.seq, .int .i64 b.off, .int .i64 b.tot, .int .i64 b.dk, .int .i64 b.dn, .int .i64 b.life, .int .i64 b.prio, .int .i64 b.flags, .slice a b.blocks.length c, .string (B b.payload)] 32 (0, 0))) := Lib.hid ((hb1.block _ (by simp; omega)).trans ((Below.heap_alloc _ _ _ (by simp)).trans heap_new))
    have Rw1 : Hid (w1.heap[w.heap.size + 1]? = some (.cells #[.int .i64 0, .int .i64 0, .int .i64 0, .int .i64 0, .int .i64 0, .int .i64 0, .int .i64 0, .int .i64 0, .int .i64 0, .int .i64 0, .slice none 0 0, .string ⟨#[]⟩, .slice none 0 0, .string ⟨#[]⟩] 81 (0, 0))) := Lib.hid ((hb1.block _ (by simp)).trans (heap_new' (by simp)))
    have yw1 : w.heap.size < w1.heap.size := by omega
    have cb := fun o => cellB Bw1.out o
    have cr := fun o => cellB Rw1.out o
    have fr := fun o => frozenB Rw1.out o
    clear hb1
    go_wp2_with fail
    refine (isfrag_any b _ _ (HR.out.below (C := w.heap.size) bw1 (Nat.le_refl _) (by omega))).mono ?_
    rw [t']
    rintro e w2 ⟨rfl, hb2⟩
    have bw2 : Below w.heap.size w w2 := btrans0 bw1 hb2
    have zw2 : w.heap.size + 1 < w2.heap.size := by have := hb2.size; (try simp at this); omega
    have Bw2 : Hid (w2.heap[w.heap.size]? = some (.cells #[.int .i64 b.src, .int .i64 b.crt, .int .i64 b.seq, .int .i64 b.off, .int .i64 b.tot, .int .i64 b.dk, .int .i64 b.dn, .int .i64 b.life, .int .i64 b.prio, .int .i64 b.flags, .slice a b.blocks.length c, .string (B b.payload)] 32 (0, 0))) := Lib.hid ((hb2.block _ (by omega)).trans Bw1.out)
    have Rw2 : Hid (w2.heap[w.heap.size + 1]? = some (.cells #[.int .i64 0, .int .i64 0, .int .i64 0, .int .i64 0, .int .i64 0, .int .i64 0, .int .i64 0, .int .i64 0, .int .i64 0, .int .i64 0, .slice none 0 0, .string ⟨#[]⟩, .slice none 0 0, .string ⟨#[]⟩] 81 (0, 0))) := Lib.hid ((hb2.block _ (by omega)).trans Rw1.out)
    have yw2 : w.heap.size < w2.heap.size := by omega
    clear cb cr fr
    have cb := fun o => cellB Bw2.out o
    have cr := fun o => cellB Rw2.out o
    have fr := fun o => frozenB Rw2.out o
    clear hb2
    go_wp2_with fail
    refine bodyPost_ret (v := .tuple #[.agg #[.int .i64 0, .int .i64 0, .int .i64 0, .int .i64 0, .int .i64 0, .int .i64 0, .int .i64 0, .int .i64 0, .int .i64 0, .int .i64 0, .slice none 0 0, .string ⟨#[]⟩, .slice none 0 0, .string ⟨#[]⟩], .int .i64 19]) (by simp [results, Tryz.results29, go_sem, World.cell?_setCell_same', cr, zw2]) rfl ?_
    exact ⟨_, _, rfl, RBlksD.nil _ _, RSps.nil _ _, rfrom_nil _ _ _, belowA⟩
  have t' : decide (b.tot > 0) = true := decide_eq_true (by omega)
  obtain ⟨v1, v2, v3, v4, v5, v6, v7, v8, v9, v10⟩ := hv
  obtain ⟨v11, v12⟩ := v10 t
  obtain ⟨m, hm⟩ := Int.eq_ofNat_of_zero_le v3
  have hmm := fun W => run_mkBytes b.tot m hm W (by omega)
  obtain ⟨D, hD⟩ : ∃ q, newD b = q := ⟨_, rfl⟩
  have HD : Hid (writeS (List.replicate m 0) b = D) := Lib.hid (by rw [← hD]; unfold newD; rw [hm]; rfl)
  obtain ⟨SP, hSP⟩ : ∃ q, spanB b = q := ⟨_, rfl⟩
  have HSP := Lib.hid hSP
  have HN : Hid (newP b = (⟨headB b, [SP], D⟩, 0)) := Lib.hid (by unfold newP; rw [if_neg (by rw [hE]; simp), if_neg (by omega), hSP, hD])
  have HF0 : Hid (0 ≤ b.off ∧ b.off ≤ 100000 ∧ b.payload.length ≤ 100000 ∧ (List.replicate m (0 : UInt8)).length ≤ 100000 ∧ b.off + b.payload.length ≤ (List.replicate m (0 : UInt8)).length ∧ 0 < b.payload.length) := Lib.hid (by refine ⟨v1, by omega, by omega, by simp; omega, by simp; omega, by omega⟩)
  have HVB := Lib.hid (valid_blocks hE)
  have hbl : b.blocks.length ≤ 1000 := by omega
  clear hE h hf hm hD hSP v1 v2 v3 v4 v5 v6 v7 v8 v9 v11 v12 t
  rw [HN.out]
  go_enter Tryz.func29, Tryz.ntmps29
  simp only [bunC]
  go_wp2_with fail
  refine (check_any b _ _ (HR.out.below (C := w.heap.size) (by exact belowA) (Nat.le_refl _) (by simp; omega)) HF.out).mono ?_
  rw [HE.out]
  rintro e w1 ⟨rfl, hb1⟩
  have bw1 : Below w.heap.size w w1 := btrans0 (by exact belowA) hb1
  have zw1 : w.heap.size + 1 < w1.heap.size := by have := hb1.size; (try simp at this); omega
  have Bw1 : Hid (w1.heap[w.heap.size]? = some (.cells #[.int .i64 b.src, .int .i64 b.crt, .int .i64 b.seq, .int .i64 b.off, .int .i64 b.tot, .int .i64 b.dk, .int .i64 b.dn, .int .i64 b.life, .int .i64 b.prio, .int .i64 b.flags, .slice a b.blocks.length c, .string (B b.payload)] 32 (0, 0))) := Lib.hid ((hb1.block _ (by simp; omega)).trans ((Below.heap_alloc _ _ _ (by simp)).trans heap_new))
  have Rw1 : Hid (w1.heap[w.heap.size + 1]? = some (.cells #[.int .i64 0, .int .i64 0, .int .i64 0, .int .i64 0, .int .i64 0, .int .i64 0, .int .i64 0, .int .i64 0, .int .i64 0, .int .i64 0, .slice none 0 0, .string ⟨#[]⟩, .slice none 0 0, .string ⟨#[]⟩] 81 (0, 0))) := Lib.hid ((hb1.block _ (by simp)).trans (heap_new' (by simp)))
  have yw1 : w.heap.size < w1.heap.size := by omega
  have cb := fun o => cellB Bw1.out o
  have cr := fun o => cellB Rw1.out o
  have fr := fun o => frozenB Rw1.out o
  clear hb1
  go_wp2_with fail
  refine (isfrag_any b _ _ (HR.out.below (C := w.heap.size) bw1 (Nat.le_refl _) (by omega))).mono ?_
  rw [t']
  rintro e w2 ⟨rfl, hb2⟩
  have bw2 : Below w.heap.size w w2 := btrans0 bw1 hb2
  have zw2 : w.heap.size + 1 < w2.heap.size := by have := hb2.size; (try simp at this); omega
  have Bw2 : Hid (w2.heap[w.heap.size]? = some (.cells #[.int .i64 b.src, .int .i64 b.crt, .int .i64 b.seq, .int .i64 b.off, .int .i64 b.tot, .int .i64 b.dk, .int .i64 b.dn, .int .i64 b.life, .int .i64 b.prio, .int .i64 b.flags, .slice a b.blocks.length c, .string (B b.payload)] 32 (0, 0))) := Lib.hid ((hb2.block _ (by omega)).trans Bw1.out)
  have Rw2 : Hid (w2.heap[w.heap.size + 1]? = some (.cells #[.int .i64 0, .int .i64 0, .int .i64 0, .int .i64 0, .int .i64 0, .int .i64 0, .int .i64 0, .int .i64 0, .int .i64 0, .int .i64 0, .slice none 0 0, .string ⟨#[]⟩, .slice none 0 0, .string ⟨#[]⟩] 81 (0, 0))) := Lib.hid ((hb2.block _ (by omega)).trans Rw1.out)
  have yw2 : w.heap.size < w2.heap.size := by omega
  clear cb cr fr
  have cb := fun o => cellB Bw2.out o
  have cr := fun o => cellB Rw2.out o
  have fr := fun o => frozenB Rw2.out o
  clear hb2
  have HR2 := Lib.hid (HR.out.up bw2)
  go_upto_region 5 with fail
  go_cut [4] (fun s4 wx => ∃ g gk : Nat, s4 = .pointer (some ⟨g, 0, none⟩) ∧ w.heap.size + 1 < g ∧ wx.heap[g]? = some (.cells #[.int .i64 b.src, .int .i64 b.crt, .int .i64 b.seq, .int .i64 b.off, .int .i64 b.tot, .int .i64 b.dk, .int .i64 b.dn, .int .i64 b.life, .int .i64 b.prio, .int .i64 b.flags, .slice a b.blocks.length c, .string (B b.payload), .slice (some ⟨gk, 0, none⟩) 1 1, .string (B D)] 81 (0, 0)) ∧ RSps wx wx.heap.size (.slice (some ⟨gk, 0, none⟩) 1 1) [SP] ∧ gk ≠ g ∧ w.heap.size + 1 < gk ∧ wx.heap[w.heap.size]? = some (.cells #[.int .i64 b.src, .int .i64 b.crt, .int .i64 b.seq, .int .i64 b.off, .int .i64 b.tot, .int .i64 b.dk, .int .i64 b.dn, .int .i64 b.life, .int .i64 b.prio, .int .i64 b.flags, .slice a b.blocks.length c, .string (B b.payload)] 32 (0, 0)) ∧ wx.heap[w.heap.size + 1]? = some (.cells #[.int .i64 0, .int .i64 0, .int .i64 0, .int .i64 0, .int .i64 0, .int .i64 0, .int .i64 0, .int .i64 0, .int .i64 0, .int .i64 0, .slice none 0 0, .string ⟨#[]⟩, .slice none 0 0, .string ⟨#[]⟩] 81 (0, 0)) ∧ Below w.heap.size w wx)
  case first =>
    refine wp_region_tree (fun V => Below w2.heap.size w2 V) [1, 1, 2, 2, 0, 0, 1, 2, 2, 1, 2, 0, 2, 3] (.go 0 (.go 1 (.go 4 (.go 5 (.go 6 (.go 9 (.br3 2 7 12 (.br3 3 7 12 (.br2 7 12 (.br2 8 12 (.br2 10 12 (.go 11 (.go 12 (.go 13 (.fin)))) (.go 10 (.go 11 (.go 13 (.fin))))) (.go 8 (.go 10 (.go 11 (.go 13 (.fin)))))) (.go 7 (.go 8 (.go 10 (.go 11 (.go 13 (.fin))))))) (.br3 3 8 12 (.br2 8 12 (.br2 10 12 (.go 11 (.go 12 (.go 13 (.fin)))) (.go 10 (.go 11 (.go 13 (.fin))))) (.go 8 (.go 10 (.go 11 (.go 13 (.fin)))))) (.br3 3 10 12 (.br2 10 12 (.go 11 (.go 12 (.go 13 (.fin)))) (.go 10 (.go 11 (.go 13 (.fin))))) (.br2 3 12 (.go 11 (.go 12 (.go 13 (.fin)))) (.go 3 (.go 11 (.go 13 (.fin))))) (.br2 3 10 (.go 10 (.go 11 (.go 13 (.fin)))) (.go 3 (.go 11 (.go 13 (.fin)))))) (.br2 3 8 (.go 8 (.go 10 (.go 11 (.go 13 (.fin))))) (.br2 3 10 (.go 10 (.go 11 (.go 13 (.fin)))) (.go 3 (.go 11 (.go 13 (.fin))))))) (.br2 3 7 (.go 7 (.go 8 (.go 10 (.go 11 (.go 13 (.fin)))))) (.br2 3 8 (.go 8 (.go 10 (.go 11 (.go 13 (.fin))))) (.br2 3 10 (.go 10 (.go 11 (.go 13 (.fin)))) (.go 3 (.go 11 (.go 13 (.fin)))))))) (.br3 2 8 12 (.br3 3 8 12 (.br2 8 12 (.br2 10 12 (.go 11 (.go 12 (.go 13 (.fin)))) (.go 10 (.go 11 (.go 13 (.fin))))) (.go 8 (.go 10 (.go 11 (.go 13 (.fin)))))) (.br3 3 10 12 (.br2 10 12 (.go 11 (.go 12 (.go 13 (.fin)))) (.go 10 (.go 11 (.go 13 (.fin))))) (.br2 3 12 (.go 11 (.go 12 (.go 13 (.fin)))) (.go 3 (.go 11 (.go 13 (.fin))))) (.br2 3 10 (.go 10 (.go 11 (.go 13 (.fin)))) (.go 3 (.go 11 (.go 13 (.fin)))))) (.br2 3 8 (.go 8 (.go 10 (.go 11 (.go 13 (.fin))))) (.br2 3 10 (.go 10 (.go 11 (.go 13 (.fin)))) (.go 3 (.go 11 (.go 13 (.fin))))))) (.br2 2 12 (.br3 3 10 12 (.br2 10 12 (.go 11 (.go 12 (.go 13 (.fin)))) (.go 10 (.go 11 (.go 13 (.fin))))) (.br2 3 12 (.go 11 (.go 12 (.go 13 (.fin)))) (.go 3 (.go 11 (.go 13 (.fin))))) (.br2 3 10 (.go 10 (.go 11 (.go 13 (.fin)))) (.go 3 (.go 11 (.go 13 (.fin)))))) (.go 2 (.br2 3 10 (.go 10 (.go 11 (.go 13 (.fin)))) (.go 3 (.go 11 (.go 13 (.fin))))))) (.br2 2 8 (.br2 3 8 (.go 8 (.go 10 (.go 11 (.go 13 (.fin))))) (.br2 3 10 (.go 10 (.go 11 (.go 13 (.fin)))) (.go 3 (.go 11 (.go 13 (.fin)))))) (.go 2 (.br2 3 10 (.go 10 (.go 11 (.go 13 (.fin)))) (.go 3 (.go 11 (.go 13 (.fin)))))))) (.br2 2 7 (.br2 3 7 (.go 7 (.go 8 (.go 10 (.go 11 (.go 13 (.fin)))))) (.br2 3 8 (.go 8 (.go 10 (.go 11 (.go 13 (.fin))))) (.br2 3 10 (.go 10 (.go 11 (.go 13 (.fin)))) (.go 3 (.go 11 (.go 13 (.fin))))))) (.br2 2 8 (.br2 3 8 (.go 8 (.go 10 (.go 11 (.go 13 (.fin))))) (.br2 3 10 (.go 10 (.go 11 (.go 13 (.fin)))) (.go 3 (.go 11 (.go 13 (.fin)))))) (.go 2 (.br2 3 10 (.go 10 (.go 11 (.go 13 (.fin)))) (.go 3 (.go 11 (.go 13 (.fin))))))))))))))) (by kernel_rfl) (by kernel_rfl) ?_ ?_
    case refine_1 => exact belowA
    obtain ⟨V, hV0⟩ : ∃ q, w2.drew = q := ⟨_, rfl⟩
    have BX : Below w2.heap.size w2 V := by rw [← hV0]; exact bdrew (Below.refl _ _)
    rw [hV0]
    clear hV0
    repeat' (first
      | (refine tree_br3 ?_ ?_ ?_)
      | (refine tree_br2 ?_ ?_)
      | (refine tree_held rfl (by decide) (by rfl) (fun w1 hS => by (try (obtain ⟨_, _⟩ := bcell (hS rfl))); go_simp; rfl) ?_; (try simp only [Act.put, List.setIfInBounds_toArray, List.set_cons_zero, List.set_cons_succ]))
      | ((first | refine tree_op rfl (by rfl) (fun K hK => ?_) | refine tree_keep rfl rfl (by rfl) (fun K hK => ?_))
         go_simp
         (first
          | (obtain ⟨V, hV⟩ : ∃ q, V.alloc (.cells #[.int .i64 SP.1, .int .i64 SP.2] 154) = q := ⟨_, rfl⟩
             rw [hV]
             have zsz := BX.size
             (try have lg := (Array.getElem?_eq_some_iff.1 NG.out).1)
             obtain ⟨gk, hg_, nv, hb⟩ := alloc_facts hV
             (try replace NG := Lib.hid ((hb.block _ (Array.getElem?_eq_some_iff.1 NG.out).1).trans NG.out))
             (try replace NM := Lib.hid ((hb.block _ (Array.getElem?_eq_some_iff.1 NM.out).1).trans NM.out))
             have zgk : w2.heap.size ≤ gk := by omega
             (try have nkg : g ≠ gk := by omega)
             rw [hg_]
             have NK := Lib.hid nv
             replace BX : Below w2.heap.size w2 V := btrans0 BX hb
             clear hg_ hV nv hb zsz
             (try clear lg))
          | (obtain ⟨V, hV⟩ : ∃ q, V.alloc (.cells (Array.replicate m (.int .u8 0)) 5) = q := ⟨_, rfl⟩
             rw [hV]
             have zsz := BX.size
             (try have lk := (Array.getElem?_eq_some_iff.1 NK.out).1)
             (try have lg := (Array.getElem?_eq_some_iff.1 NG.out).1)
             obtain ⟨gm, hg_, nv, hb⟩ := alloc_facts hV
             (try replace NG := Lib.hid ((hb.block _ (Array.getElem?_eq_some_iff.1 NG.out).1).trans NG.out))
             (try replace NK := Lib.hid ((hb.block _ (Array.getElem?_eq_some_iff.1 NK.out).1).trans NK.out))
             have zgm : w2.heap.size ≤ gm := by omega
             rw [hg_]
             have NM := Lib.hid nv
             replace BX : Below w2.heap.size w2 V := btrans0 BX hb
             clear hg_ hV nv hb zsz
             (try clear lk)
             (try clear lg))
          | (obtain ⟨V, hV⟩ : ∃ q, V.alloc (.cells nwZ 81) = q := ⟨_, rfl⟩
             rw [hV]
             have zsz := BX.size
             (try have lk := (Array.getElem?_eq_some_iff.1 NK.out).1)
             obtain ⟨g, hg_, nv, hb⟩ := alloc_facts hV
             (try replace NK := Lib.hid ((hb.block _ (Array.getElem?_eq_some_iff.1 NK.out).1).trans NK.out))
             (try replace NM := Lib.hid ((hb.block _ (Array.getElem?_eq_some_iff.1 NM.out).1).trans NM.out))
             have zg : w2.heap.size ≤ g := by omega
             (try have nkg : g ≠ gk := by omega)
             rw [hg_]
             have NG := Lib.hid nv
             replace BX : Below w2.heap.size w2 V := btrans0 BX hb
             clear hg_ hV nv hb zsz
             (try clear lk))
          | (go_at_call 80
             refine (pspan_any b _ _ (HR2.out.up (BX)) HF0.out.1 HF0.out.2.1 HF0.out.2.2.1).mono ?_
             rw [HSP.out]
             rintro e V ⟨rfl, hb⟩
             (try replace NG := Lib.hid ((hb.block _ (Array.getElem?_eq_some_iff.1 NG.out).1).trans NG.out))
             (try replace NK := Lib.hid ((hb.block _ (Array.getElem?_eq_some_iff.1 NK.out).1).trans NK.out))
             (try replace NM := Lib.hid ((hb.block _ (Array.getElem?_eq_some_iff.1 NM.out).1).trans NM.out))
             replace BX : Below w2.heap.size w2 V := btrans0 BX hb
             clear hb)
          | (go_at_call 81
             refine (write_any (List.replicate m 0) b _ _ (HR2.out.up (BX)) HF0.out.2.2.2.1 HF0.out.1 HF0.out.2.2.2.2.1 HF0.out.2.2.2.2.2).mono ?_
             rw [HD.out]
             rintro e V ⟨rfl, hb⟩
             (try replace NG := Lib.hid ((hb.block _ (Array.getElem?_eq_some_iff.1 NG.out).1).trans NG.out))
             (try replace NK := Lib.hid ((hb.block _ (Array.getElem?_eq_some_iff.1 NK.out).1).trans NK.out))
             (try replace NM := Lib.hid ((hb.block _ (Array.getElem?_eq_some_iff.1 NM.out).1).trans NM.out))
             replace BX : Below w2.heap.size w2 V := btrans0 BX hb
             clear hb)
          | ((try rw [conv_bytes _ 23 9 5 (some ⟨gm, 0, none⟩) m m (List.replicate m 0) Tryz.underlying23 Tryz.underlying5 Tryz.underlying9 (by simp) (fun ad had j hj => by cases had; rw [addN, Nat.zero_add, cellB NM.out]; simp at hj; simp [hj]) (fun h => by cases h)])
             (try go_simp)))
         refine hK _ _ BX ?_
         clear hK K
         (try simp only [Act.put, List.setIfInBounds_toArray, List.set_cons_zero, List.set_cons_succ]))
      | (as_aux_lemma =>
           refine tree_late rfl rfl (by rfl) (fun K hK => ?_)
           refine wp_store_block 81 _ _ rfl g (nwC b a c gk D) nwZ 81 rfl rfl NG.out rfl (by kernel_rfl) (by simp [nwC, Value.oneCell']) ?_
           intro Wf hWf hbWf hsWf hoWf
           refine hK _ _ ?_
           clear hK K
           (try simp only [Act.put, List.setIfInBounds_toArray, List.set_cons_zero, List.set_cons_succ])
           refine tree_fin ?_
           go_wp2_with fail
           go_meet
           exact ⟨g, gk, rfl, new_end BX bw2 NK.out nkg (by omega) (by omega) Bw2.out Rw2.out (by omega) hWf (hbWf _ (by omega)) hoWf⟩))
  case rest =>
    obtain ⟨g, gk, rfl, zgg, hg4, hk4, hne4, hlk4, hx4, hz4, b4⟩ := hcut
    have G4 := Lib.hid hg4
    have K4 := Lib.hid hk4
    have X4 := Lib.hid hx4
    have Z4 := Lib.hid hz4
    have zg4 : g < wc.heap.size := (Array.getElem?_eq_some_iff.1 hg4).1
    have cb := fun o => cellB hx4 o
    clear hg4 hk4 hx4 hz4
    go_wp2_with fail
    refine (parent_any b.src b.crt b.seq b.off b.tot _).mono ?_
    unfold idV
    rintro e w6 ⟨rfl, hb6⟩
    clear cb
    have b6 : Below w.heap.size w w6 := btrans0 b4 hb6
    have zg6 : g < w6.heap.size := by have := hb6.size; omega
    have g6 : w6.heap[g]? = _ := (hb6.block _ zg4).trans G4.out
    have x6 : w6.heap[w.heap.size]? = _ := (hb6.block _ (by omega)).trans X4.out
    have K6 : Hid (RSps w6 w6.heap.size (.slice (some ⟨gk, 0, none⟩) 1 1) [SP]) := Lib.hid (K4.out.below' hb6)
    have Z6 : Hid (w6.heap[w.heap.size + 1]? = some (.cells #[.int .i64 0, .int .i64 0, .int .i64 0, .int .i64 0, .int .i64 0, .int .i64 0, .int .i64 0, .int .i64 0, .int .i64 0, .int .i64 0, .slice none 0 0, .string ⟨#[]⟩, .slice none 0 0, .string ⟨#[]⟩] 81 (0, 0))) := Lib.hid ((hb6.block _ (by omega)).trans Z4.out)
    have cg := fun o => cellB g6 o
    have fg := fun o => frozenB g6 o
    have G6 := Lib.hid g6
    have X6 := Lib.hid x6
    clear g6 x6 hb6
    go_upto_region 8 with fail
    obtain ⟨w7, hw7⟩ : ∃ q, q = (((((w6.setCell ⟨g, 0, none⟩ (.int .i64 b.src)).setCell ⟨g, 1, none⟩ (.int .i64 b.crt)).setCell ⟨g, 2, none⟩ (.int .i64 b.seq)).setCell ⟨g, 3, none⟩ (.int .i64 0)).setCell ⟨g, 4, none⟩ (.int .i64 0)).setCell ⟨g, 11, none⟩ (.string ⟨#[]⟩) := ⟨_, rfl⟩
    rw [← hw7]
    have g7 : w7.heap[g]? = some (.cells #[.int .i64 b.src, .int .i64 b.crt, .int .i64 b.seq, .int .i64 0, .int .i64 0, .int .i64 b.dk, .int .i64 b.dn, .int .i64 b.life, .int .i64 b.prio, .int .i64 b.flags, .slice a b.blocks.length c, .string ⟨#[]⟩, .slice (some ⟨gk, 0, none⟩) 1 1, .string (B D)] 81 (0, 0)) := by
      rw [hw7]
      have := setB (setB (setB (setB (setB (setB G6.out 0 (.int .i64 b.src)) 1 (.int .i64 b.crt)) 2 (.int .i64 b.seq)) 3 (.int .i64 0)) 4 (.int .i64 0)) 11 (.string ⟨#[]⟩)
      simpa using this
    have o7 : ∀ q, q ≠ g → w7.heap[q]? = w6.heap[q]? := fun q hq => by
      rw [hw7]
      iterate 6 (refine (heap_setCell_other _ _ _ _ (by exact hq)).trans ?_)
      rfl
    have b7 : Below w.heap.size w w7 := by
      rw [hw7]
      iterate 6 (refine bset ?_ (by show w.heap.size ≤ g; omega))
      exact b6
    have s7 : w7.heap.size = w6.heap.size := by rw [hw7]; simp
    have x7 := (o7 _ (by omega)).trans X6.out
    have z7 := (o7 _ (by omega)).trans Z6.out
    have k7 : RSps w7 w7.heap.size (.slice (some ⟨gk, 0, none⟩) 1 1) [SP] := rsps_one_keep K6.out (o7 _ hne4) (by omega)
    have z7g : g < w7.heap.size := by omega
    have zw7 : w.heap.size + 1 < w7.heap.size := by omega
    have G7 := Lib.hid g7
    have X7 := Lib.hid x7
    have Z7 := Lib.hid z7
    have K7 := Lib.hid k7
    clear hw7 G6 X6 Z6 K6 o7 cg fg g7 k7 G4 K4 X4 Z4 x7 z7
    have cb := fun o => cellB X7.out o
    by_cases hof : 0 < b.off
    · have dof : decide (b.off > 0) = true := decide_eq_true hof
      have HH : Hid (headB b = ⟨b.src, b.crt, b.seq, 0, 0, b.dk, b.dn, b.life, b.prio, b.flags, copyB b.blocks, []⟩) := Lib.hid (by unfold headB; rw [if_pos hof])
      clear hof
      go_wp2_with fail
      refine (copied_any b.blocks _ _ (HR.out.below (C := w.heap.size) b7 (Nat.le_refl _) (by omega)) HVB.out hbl).mono ?_
      rintro e w8 ⟨r, rfl, hr8, hf8, hb8⟩
      have F8 := Lib.hid hf8
      obtain ⟨ra, rc, rfl⟩ : ∃ ra rc, r = .slice ra (copyB b.blocks).length rc := by obtain ⟨a, c, h, _⟩ := hr8; exact ⟨a, c, h⟩
      have g8 := (hb8.block _ z7g).trans G7.out
      have z8 := (hb8.block _ (by omega)).trans Z7.out
      have R8 := Lib.hid hr8
      have K8 := Lib.hid (K7.out.below' hb8)
      have b8 : Below w.heap.size w w8 := btrans0 b7 hb8
      have zg8 : g < w8.heap.size := by have := hb8.size; omega
      have zw8 : w.heap.size + 1 < w8.heap.size := by omega
      have cg := fun o => cellB g8 o
      have fg := fun o => frozenB g8 o
      have cz := fun o => cellB z8 o
      have fz := fun o => frozenB z8 o
      clear cb hr8 hb8
      go_wp2
      refine bodyPost_ret (v := .tuple #[.agg #[.int .i64 b.src, .int .i64 b.crt, .int .i64 b.seq, .int .i64 0, .int .i64 0, .int .i64 b.dk, .int .i64 b.dn, .int .i64 b.life, .int .i64 b.prio, .int .i64 b.flags, .slice ra (copyB b.blocks).length rc, .string ⟨#[]⟩, .slice (some ⟨gk, 0, none⟩) 1 1, .string (B D)], .int .i64 0]) (by simp [results, Tryz.results29, go_sem, World.cell?_setCell_same', cz, zw8]) rfl ?_
      refine ⟨_, _, by rw [HH.out]; rfl, ?_, ?_, fun aa nn cc hh => by (injection hh with hh _ _; injection hh with hh; subst hh; show w.heap.size ≤ gk; omega), belowA⟩
      · rw [HH.out]
        refine RBlksD.new_ R8.out F8.out (fun bb oo h1 h2 => World.cell?_of_block ?_) (show w.heap.size ≤ w7.heap.size by omega) (by simp)
        iterate 15 (refine (heap_setCell_other _ _ _ _ (by first | (show bb ≠ g; omega) | (show bb ≠ w.heap.size + 1; omega))).trans ?_)
        rfl
      · refine rsps_one_keep K8.out ?_ (by simp)
        iterate 15 (refine (heap_setCell_other _ _ _ _ (by first | exact hne4 | (show gk ≠ w.heap.size + 1; omega))).trans ?_)
        rfl
    · have dof : decide (b.off > 0) = false := decide_eq_false hof
      have HH : Hid (headB b = ⟨b.src, b.crt, b.seq, 0, 0, b.dk, b.dn, b.life, b.prio, b.flags, b.blocks, []⟩) := Lib.hid (by unfold headB; rw [if_neg hof])
      clear hof
      have cg := fun o => cellB G7.out o
      have fg := fun o => frozenB G7.out o
      have cz := fun o => cellB Z7.out o
      have fz := fun o => frozenB Z7.out o
      go_wp2
      refine bodyPost_ret (v := .tuple #[.agg #[.int .i64 b.src, .int .i64 b.crt, .int .i64 b.seq, .int .i64 0, .int .i64 0, .int .i64 b.dk, .int .i64 b.dn, .int .i64 b.life, .int .i64 b.prio, .int .i64 b.flags, .slice a b.blocks.length c, .string ⟨#[]⟩, .slice (some ⟨gk, 0, none⟩) 1 1, .string (B D)], .int .i64 0]) (by simp [results, Tryz.results29, go_sem, World.cell?_setCell_same', cz, zw7]) rfl ?_
      refine ⟨_, _, by rw [HH.out]; rfl, ?_, ?_, fun aa nn cc hh => by (injection hh with hh _ _; injection hh with hh; subst hh; show w.heap.size ≤ gk; omega), belowA⟩
      · rw [HH.out]
        exact RBlksD.old HRN.out (C := w.heap.size) (by exact belowA) hN w
      · refine rsps_one_keep K7.out ?_ (by simp)
        iterate 14 (refine (heap_setCell_other _ _ _ _ (by show gk ≠ w.heap.size + 1; omega)).trans ?_)
        rfl
end Go.Proofs.YtmknchdciblfjaaGreat
