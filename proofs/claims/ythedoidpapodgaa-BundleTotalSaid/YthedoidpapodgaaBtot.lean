/-
  Proved: mailboatlaw13.BundleTotal returns true for every input, and leaves its arguments as they were. No condition.
-/
import Derived.Test.YthedoidpapodgaaRows
import Derived.Test.YthedoidpapodgaaJa
import Derived.Test.YthedoidpapodgaaJn
import Derived.Test.YthedoidpapodgaaTk
import Derived.Test.YthedoidpapodgaaTi
import Derived.Test.YthedoidpapodgaaTg
import Derived.Test.YthedoidpapodgaaTd
import Derived.Test.YthedoidpapodgaaTl
import Derived.Test.YthedoidpapodgaaTn
import Derived.Test.YthedoidpapodgaaTm
import Derived.Test.YthedoidpapodgaaJm
import Derived.Test.YthedoidpapodgaaRT
import Derived.Test.YthedoidpapodgaaSx
import Derived.BigRegion
import Derived.Deep.DeepCutAuto
import Derived.Deep.CutBlock
set_option linter.unusedVariables false
set_option linter.unusedSimpArgs false
namespace Go.Proofs.Ythedoidpapodgaa.bundleTotal
open Go Go.ChangeShapes Go.WideShapes Go.ChangeAt Go.RowKit Go.Joins Go.Proofs.Ythedoidpapodgaa
attribute [local go_sem] B_getElem B_size B_app B_extract B_get B_toList

theorem own : ownKnob Try.prog.godebug = none := by kernel_rfl

attribute [local go_sem] bunC idV idC
attribute [local go_sem ↓] eqIdI neIdI
set_option maxRecDepth 100000 in
set_option maxHeartbeats 200000000 in
theorem walk (a : Bun) (u : Value) (b : Bun) (v : Value) (c : Bun) (t : Value) (w : World) (hr : RBlks w w.heap.size u a.blocks) (hf : Fits a) (kr : RBlks w w.heap.size v b.blocks) (kf : Fits b) (lr : RBlks w w.heap.size t c.blocks) (lf : Fits c) :
    Calls Try.prog 9 #[.agg (bunC a u).toArray, .agg (bunC b v).toArray, .agg (bunC c t).toArray] w (Says w) := by
  obtain ⟨ua, uc, rfl, _⟩ := id hr
  have HR := Lib.hid hr
  have HF := Lib.hid hf
  obtain ⟨va, vc, rfl, _⟩ := id kr
  have KR := Lib.hid kr
  have KF := Lib.hid kf
  obtain ⟨xa, xc, rfl, _⟩ := id lr
  have LR := Lib.hid lr
  have LF := Lib.hid lf
  clear hr hf kr kf lr lf
  have HAA : Hid (cmpL [a.src, a.crt, a.seq, a.off, a.tot] [a.src, a.crt, a.seq, a.off, a.tot] = 0) := Lib.hid (cmpL_self _)
  obtain ⟨p1, hp1⟩ : ∃ q, cmpL (ids a) (ids b) = q := ⟨_, rfl⟩
  obtain ⟨p2, hp2⟩ : ∃ q, cmpL (ids b) (ids c) = q := ⟨_, rfl⟩
  obtain ⟨p3, hp3⟩ : ∃ q, cmpL (ids a) (ids c) = q := ⟨_, rfl⟩
  obtain ⟨eq, heq⟩ : ∃ q, eqI5 a.src a.crt a.seq a.off a.tot b.src b.crt b.seq b.off b.tot = q := ⟨_, rfl⟩
  have hE := eqI5_zero (s := a.src) (c := a.crt) (q := a.seq) (o := a.off) (t := a.tot) (s' := b.src) (c' := b.crt) (q' := b.seq) (o' := b.off) (t' := b.tot)
  rw [heq, show cmpL [a.src, a.crt, a.seq, a.off, a.tot] [b.src, b.crt, b.seq, b.off, b.tot] = p1 from hp1] at hE
  have hpr := cmpL_range (ids a) (ids b)
  have hps := cmpL_range (ids b) (ids c)
  have hpt : p1 = -1 → p2 = -1 → p3 = -1 := fun h1 h2 => by rw [← hp3]; exact cmpL_trans _ _ _ (hp1.trans h1) (hp2.trans h2)
  rw [hp1] at hpr
  rw [hp2] at hps
  have HAB : Hid (cmpL [a.src, a.crt, a.seq, a.off, a.tot] [b.src, b.crt, b.seq, b.off, b.tot] = p1) := Lib.hid hp1
  have HBA : Hid (cmpL [b.src, b.crt, b.seq, b.off, b.tot] [a.src, a.crt, a.seq, a.off, a.tot] = -p1) := Lib.hid (by rw [← hp1]; exact cmpL_neg _ _)
  have HBC : Hid (cmpL [b.src, b.crt, b.seq, b.off, b.tot] [c.src, c.crt, c.seq, c.off, c.tot] = p2) := Lib.hid hp2
  have HAC : Hid (cmpL [a.src, a.crt, a.seq, a.off, a.tot] [c.src, c.crt, c.seq, c.off, c.tot] = p3) := Lib.hid hp3
  have HPR := Lib.hid hpr
  have HPS := Lib.hid hps
  have HPT := Lib.hid hpt
  have HEQ := Lib.hid heq
  have HEP := Lib.hid hE
  clear hp1 hp2 hp3 hpr hpt hps heq hE
  go_enter Try.func9, Try.ntmps9
  simp only [bunC]
  go_wp2_with fail
  refine (bgreat_any a _ _ (HR.out.below' (balloc0 (balloc0 (balloc0 (Below.refl _ _))))) HF.out).mono ?_
  rintro e w1 ⟨g, rfl, hb1⟩
  have hB1 : Below w.heap.size w w1 := btrans0 (balloc0 (balloc0 (balloc0 (Below.refl _ _)))) hb1
  have y1 := hb1.size
  (try simp at y1)
  have za1 : w.heap.size < w1.heap.size := by omega
  have Aa : w1.heap[w.heap.size]? = some (.cells (bunC a (.slice ua a.blocks.length uc)).toArray 28 (0, 0)) := (hb1.block _ (by first | exact za0 | (simp; done) | (simp; omega) | omega)).trans (by repeat (first | exact HAa.out | exact heap_new | exact heap_new' (by first | rfl | (simp; done)) | refine (Below.heap_alloc _ _ _ (by first | omega | (simp; done) | (simp; omega))).trans ?_))
  have caa := fun o => cellB Aa o
  have HAa := Lib.hid Aa
  (try simp only [bunC] at caa)
  clear Aa
  have zb1 : w.heap.size + 1 < w1.heap.size := by omega
  have Ab : w1.heap[w.heap.size + 1]? = some (.cells (bunC b (.slice va b.blocks.length vc)).toArray 28 (0, 0)) := (hb1.block _ (by first | exact zb0 | (simp; done) | (simp; omega) | omega)).trans (by repeat (first | exact HAb.out | exact heap_new | exact heap_new' (by first | rfl | (simp; done)) | refine (Below.heap_alloc _ _ _ (by first | omega | (simp; done) | (simp; omega))).trans ?_))
  have cab := fun o => cellB Ab o
  have HAb := Lib.hid Ab
  (try simp only [bunC] at cab)
  clear Ab
  have zc1 : w.heap.size + 1 + 1 < w1.heap.size := by omega
  have Ac : w1.heap[w.heap.size + 1 + 1]? = some (.cells (bunC c (.slice xa c.blocks.length xc)).toArray 28 (0, 0)) := (hb1.block _ (by first | exact zc0 | (simp; done) | (simp; omega) | omega)).trans (by repeat (first | exact HAc.out | exact heap_new | exact heap_new' (by first | rfl | (simp; done)) | refine (Below.heap_alloc _ _ _ (by first | omega | (simp; done) | (simp; omega))).trans ?_))
  have cac := fun o => cellB Ac o
  have HAc := Lib.hid Ac
  (try simp only [bunC] at cac)
  clear Ac
  clear hb1
  cases g
  case true =>
    go_wp2_with fail
    refine (awake_any _).mono ?_
    rintro e w99 ⟨rfl, hb99⟩
    go_wp2
    go_ret
    exact ⟨rfl, (by repeat' (first | with_reducible (first | refine bset ?_ ?_ | exact Below.refl _ _ | assumption | refine bdrewN ?_ _ | refine bdrew ?_ | refine balloc0 ?_ | refine balloc ?_ ?_ | (apply btrans0; rotate_left; assumption) | (apply btrans; rotate_left; assumption)) | exact Below.refl _ _ | assumption | (apply btrans0; rotate_left; assumption) | (apply btrans; rotate_left; assumption) | (simp; done) | omega | (simp; omega)))⟩
  go_wp2_with fail
  refine (bgreat_any b _ _ (KR.out.below' (hB1)) KF.out).mono ?_
  rintro e w2 ⟨g, rfl, hb2⟩
  have hB2 : Below w.heap.size w w2 := btrans0 (hB1) hb2
  have y2 := hb2.size
  (try simp at y2)
  have za2 : w.heap.size < w2.heap.size := by omega
  have Aa : w2.heap[w.heap.size]? = some (.cells (bunC a (.slice ua a.blocks.length uc)).toArray 28 (0, 0)) := (hb2.block _ (by first | exact za1 | (simp; done) | (simp; omega) | omega)).trans (by repeat (first | exact HAa.out | exact heap_new | exact heap_new' (by first | rfl | (simp; done)) | refine (Below.heap_alloc _ _ _ (by first | omega | (simp; done) | (simp; omega))).trans ?_))
  clear caa HAa
  have caa := fun o => cellB Aa o
  have HAa := Lib.hid Aa
  (try simp only [bunC] at caa)
  clear Aa
  have zb2 : w.heap.size + 1 < w2.heap.size := by omega
  have Ab : w2.heap[w.heap.size + 1]? = some (.cells (bunC b (.slice va b.blocks.length vc)).toArray 28 (0, 0)) := (hb2.block _ (by first | exact zb1 | (simp; done) | (simp; omega) | omega)).trans (by repeat (first | exact HAb.out | exact heap_new | exact heap_new' (by first | rfl | (simp; done)) | refine (Below.heap_alloc _ _ _ (by first | omega | (simp; done) | (simp; omega))).trans ?_))
  clear cab HAb
  have cab := fun o => cellB Ab o
  have HAb := Lib.hid Ab
  (try simp only [bunC] at cab)
  clear Ab
  have zc2 : w.heap.size + 1 + 1 < w2.heap.size := by omega
  have Ac : w2.heap[w.heap.size + 1 + 1]? = some (.cells (bunC c (.slice xa c.blocks.length xc)).toArray 28 (0, 0)) := (hb2.block _ (by first | exact zc1 | (simp; done) | (simp; omega) | omega)).trans (by repeat (first | exact HAc.out | exact heap_new | exact heap_new' (by first | rfl | (simp; done)) | refine (Below.heap_alloc _ _ _ (by first | omega | (simp; done) | (simp; omega))).trans ?_))
  clear cac HAc
  have cac := fun o => cellB Ac o
  have HAc := Lib.hid Ac
  (try simp only [bunC] at cac)
  clear Ac
  clear hb2
  cases g
  case true =>
    go_wp2_with fail
    refine (awake_any _).mono ?_
    rintro e w99 ⟨rfl, hb99⟩
    go_wp2
    go_ret
    exact ⟨rfl, (by repeat' (first | with_reducible (first | refine bset ?_ ?_ | exact Below.refl _ _ | assumption | refine bdrewN ?_ _ | refine bdrew ?_ | refine balloc0 ?_ | refine balloc ?_ ?_ | (apply btrans0; rotate_left; assumption) | (apply btrans; rotate_left; assumption)) | exact Below.refl _ _ | assumption | (apply btrans0; rotate_left; assumption) | (apply btrans; rotate_left; assumption) | (simp; done) | omega | (simp; omega)))⟩
  go_wp2_with fail
  refine (bgreat_any c _ _ (LR.out.below' (hB2)) LF.out).mono ?_
  rintro e w3 ⟨g, rfl, hb3⟩
  have hB3 : Below w.heap.size w w3 := btrans0 (hB2) hb3
  have y3 := hb3.size
  (try simp at y3)
  have za3 : w.heap.size < w3.heap.size := by omega
  have Aa : w3.heap[w.heap.size]? = some (.cells (bunC a (.slice ua a.blocks.length uc)).toArray 28 (0, 0)) := (hb3.block _ (by first | exact za2 | (simp; done) | (simp; omega) | omega)).trans (by repeat (first | exact HAa.out | exact heap_new | exact heap_new' (by first | rfl | (simp; done)) | refine (Below.heap_alloc _ _ _ (by first | omega | (simp; done) | (simp; omega))).trans ?_))
  clear caa HAa
  have caa := fun o => cellB Aa o
  have HAa := Lib.hid Aa
  (try simp only [bunC] at caa)
  clear Aa
  have zb3 : w.heap.size + 1 < w3.heap.size := by omega
  have Ab : w3.heap[w.heap.size + 1]? = some (.cells (bunC b (.slice va b.blocks.length vc)).toArray 28 (0, 0)) := (hb3.block _ (by first | exact zb2 | (simp; done) | (simp; omega) | omega)).trans (by repeat (first | exact HAb.out | exact heap_new | exact heap_new' (by first | rfl | (simp; done)) | refine (Below.heap_alloc _ _ _ (by first | omega | (simp; done) | (simp; omega))).trans ?_))
  clear cab HAb
  have cab := fun o => cellB Ab o
  have HAb := Lib.hid Ab
  (try simp only [bunC] at cab)
  clear Ab
  have zc3 : w.heap.size + 1 + 1 < w3.heap.size := by omega
  have Ac : w3.heap[w.heap.size + 1 + 1]? = some (.cells (bunC c (.slice xa c.blocks.length xc)).toArray 28 (0, 0)) := (hb3.block _ (by first | exact zc2 | (simp; done) | (simp; omega) | omega)).trans (by repeat (first | exact HAc.out | exact heap_new | exact heap_new' (by first | rfl | (simp; done)) | refine (Below.heap_alloc _ _ _ (by first | omega | (simp; done) | (simp; omega))).trans ?_))
  clear cac HAc
  have cac := fun o => cellB Ac o
  have HAc := Lib.hid Ac
  (try simp only [bunC] at cac)
  clear Ac
  clear hb3
  cases g
  case true =>
    go_wp2_with fail
    refine (awake_any _).mono ?_
    rintro e w99 ⟨rfl, hb99⟩
    go_wp2
    go_ret
    exact ⟨rfl, (by repeat' (first | with_reducible (first | refine bset ?_ ?_ | exact Below.refl _ _ | assumption | refine bdrewN ?_ _ | refine bdrew ?_ | refine balloc0 ?_ | refine balloc ?_ ?_ | (apply btrans0; rotate_left; assumption) | (apply btrans; rotate_left; assumption)) | exact Below.refl _ _ | assumption | (apply btrans0; rotate_left; assumption) | (apply btrans; rotate_left; assumption) | (simp; done) | omega | (simp; omega)))⟩
  go_upto_region 3 with fail
  go_cut [7, 8, 9] (fun s7 s8 s9 wx => ∃ p q r : Nat, s7 = .pointer (some ⟨p, 0, none⟩) ∧ s8 = .pointer (some ⟨q, 0, none⟩) ∧ s9 = .pointer (some ⟨r, 0, none⟩) ∧ Hid (wx.heap[p]? = some (.cells (idC a) 23 (0, 0))) ∧ Hid (wx.heap[q]? = some (.cells (idC b) 23 (0, 0))) ∧ Hid (wx.heap[r]? = some (.cells (idC c) 23 (0, 0))) ∧ Below w3.heap.size w3 wx)
  case first =>
    refine wp_region_tree (fun V => Below w3.heap.size w3 V) [0, 1, 0, 1, 0, 1, 2, 2, 2, 2, 2, 3] (.go 0 (.go 1 (.go 2 (.go 3 (.go 4 (.go 5 (.br3 6 7 8 (.br2 7 8 (.go 8 (.go 9 (.go 10 (.go 11 .fin)))) (.go 7 (.go 9 (.go 10 (.go 11 .fin))))) (.br2 6 8 (.go 8 (.go 9 (.go 10 (.go 11 .fin)))) (.go 6 (.go 9 (.go 10 (.go 11 .fin))))) (.br2 6 7 (.go 7 (.go 9 (.go 10 (.go 11 .fin)))) (.go 6 (.go 9 (.go 10 (.go 11 .fin)))))))))))) (by kernel_rfl) (by kernel_rfl) ?_ ?_
    case refine_1 => exact bdrew (Below.refl _ _)
    (iterate 6 (refine tree_held rfl (by decide) (by rfl) (fun w1 hS => by (try (obtain ⟨_, _⟩ := bcell (hS rfl))); go_simp; rfl) ?_; (try simp only [Act.put, List.setIfInBounds_toArray, List.set_cons_zero, List.set_cons_succ])))
    refine ⟨?_, ?_, ?_⟩
    · refine tree_op rfl (by rfl) (fun K hK => ?_)
      go_simp
      refine hK _ _ (by repeat' (first | with_reducible (first | refine bset ?_ ?_ | exact Below.refl _ _ | assumption | refine bdrewN ?_ _ | refine bdrew ?_ | refine balloc0 ?_ | refine balloc ?_ ?_ | (apply btrans0; rotate_left; assumption) | (apply btrans; rotate_left; assumption)) | exact Below.refl _ _ | assumption | (apply btrans0; rotate_left; assumption) | (apply btrans; rotate_left; assumption) | (simp; done) | omega | (simp; omega))) ?_
      clear hK K
      (try simp only [Act.put, List.setIfInBounds_toArray, List.set_cons_zero, List.set_cons_succ])
      refine ⟨?_, ?_⟩
      · refine tree_op rfl (by rfl) (fun K hK => ?_)
        go_simp
        refine hK _ _ (by repeat' (first | with_reducible (first | refine bset ?_ ?_ | exact Below.refl _ _ | assumption | refine bdrewN ?_ _ | refine bdrew ?_ | refine balloc0 ?_ | refine balloc ?_ ?_ | (apply btrans0; rotate_left; assumption) | (apply btrans; rotate_left; assumption)) | exact Below.refl _ _ | assumption | (apply btrans0; rotate_left; assumption) | (apply btrans; rotate_left; assumption) | (simp; done) | omega | (simp; omega))) ?_
        clear hK K
        (try simp only [Act.put, List.setIfInBounds_toArray, List.set_cons_zero, List.set_cons_succ])
        refine tree_keep rfl rfl (by rfl) (fun K hK => ?_)
        go_simp
        refine hK _ _ (by repeat' (first | with_reducible (first | refine bset ?_ ?_ | exact Below.refl _ _ | assumption | refine bdrewN ?_ _ | refine bdrew ?_ | refine balloc0 ?_ | refine balloc ?_ ?_ | (apply btrans0; rotate_left; assumption) | (apply btrans; rotate_left; assumption)) | exact Below.refl _ _ | assumption | (apply btrans0; rotate_left; assumption) | (apply btrans; rotate_left; assumption) | (simp; done) | omega | (simp; omega))) ?_
        clear hK K
        (try simp only [Act.put, List.setIfInBounds_toArray, List.set_cons_zero, List.set_cons_succ])
        as_aux_lemma =>
          refine tree_keep rfl rfl (by rfl) (fun K hK => ?_)
          refine wp_store_block 23 _ _ rfl (w3.heap.size) #[.int .i64 a.src, .int .i64 a.crt, .int .i64 a.seq, .int .i64 a.off, .int .i64 a.tot] #[.int .i64 0, .int .i64 0, .int .i64 0, .int .i64 0, .int .i64 0] 23 rfl rfl (by exact (Below.heap_alloc _ _ _ (by first | omega | (simp <;> omega))).trans ((Below.heap_alloc _ _ _ (by first | omega | (simp <;> omega))).trans heap_new)) rfl (by kernel_rfl) (by simp [Value.oneCell']) ?_
          intro W0 hW0 hbW0 hsW0 hoW0
          have hBW0 : Below w3.heap.size w3 W0 := (by refine Below.trans ?_ (hbW0 _ (by omega)); exact (by repeat' (first | with_reducible (first | refine bset ?_ ?_ | exact Below.refl _ _ | assumption | refine bdrewN ?_ _ | refine bdrew ?_ | refine balloc0 ?_ | refine balloc ?_ ?_ | (apply btrans0; rotate_left; assumption) | (apply btrans; rotate_left; assumption)) | exact Below.refl _ _ | assumption | (apply btrans0; rotate_left; assumption) | (apply btrans; rotate_left; assumption) | (simp; done) | omega | (simp; omega))))
          refine hK _ _ hBW0 ?_
          clear hK K
          (try simp only [Act.put, List.setIfInBounds_toArray, List.set_cons_zero, List.set_cons_succ])
          refine tree_keep rfl rfl (by rfl) (fun K hK => ?_)
          refine wp_store_block 23 _ _ rfl (w3.heap.size + 1) #[.int .i64 b.src, .int .i64 b.crt, .int .i64 b.seq, .int .i64 b.off, .int .i64 b.tot] #[.int .i64 0, .int .i64 0, .int .i64 0, .int .i64 0, .int .i64 0] 23 rfl rfl (by refine (hoW0 _ (by omega)).trans ?_; exact (Below.heap_alloc _ _ _ (by first | omega | (simp <;> omega))).trans (heap_new' (by simp))) rfl (by kernel_rfl) (by simp [Value.oneCell']) ?_
          intro W1 hW1 hbW1 hsW1 hoW1
          have hBW1 : Below w3.heap.size w3 W1 := hBW0.trans (hbW1 _ (by omega))
          refine hK _ _ hBW1 ?_
          clear hK K
          (try simp only [Act.put, List.setIfInBounds_toArray, List.set_cons_zero, List.set_cons_succ])
          refine tree_late rfl rfl (by rfl) (fun K hK => ?_)
          refine wp_store_block 23 _ _ rfl (w3.heap.size + 1 + 1) #[.int .i64 c.src, .int .i64 c.crt, .int .i64 c.seq, .int .i64 c.off, .int .i64 c.tot] #[.int .i64 0, .int .i64 0, .int .i64 0, .int .i64 0, .int .i64 0] 23 rfl rfl (by refine (hoW1 _ (by omega)).trans ?_; refine (hoW0 _ (by omega)).trans ?_; exact heap_new' (by simp)) rfl (by kernel_rfl) (by simp [Value.oneCell']) ?_
          intro W2 hW2 hbW2 hsW2 hoW2
          have hBW2 : Below w3.heap.size w3 W2 := hBW1.trans (hbW2 _ (by omega))
          refine hK _ _ ?_
          clear hK K
          (try simp only [Act.put, List.setIfInBounds_toArray, List.set_cons_zero, List.set_cons_succ])
          refine tree_fin ?_
          go_wp2_with fail
          go_meet
          exact ⟨w3.heap.size, w3.heap.size + 1, w3.heap.size + 1 + 1, rfl, rfl, rfl, Lib.hid ((hoW2 _ (by omega)).trans ((hoW1 _ (by omega)).trans hW0)), Lib.hid ((hoW2 _ (by omega)).trans hW1), Lib.hid hW2, hBW2⟩
      · refine tree_op rfl (by rfl) (fun K hK => ?_)
        go_simp
        refine hK _ _ (by repeat' (first | with_reducible (first | refine bset ?_ ?_ | exact Below.refl _ _ | assumption | refine bdrewN ?_ _ | refine bdrew ?_ | refine balloc0 ?_ | refine balloc ?_ ?_ | (apply btrans0; rotate_left; assumption) | (apply btrans; rotate_left; assumption)) | exact Below.refl _ _ | assumption | (apply btrans0; rotate_left; assumption) | (apply btrans; rotate_left; assumption) | (simp; done) | omega | (simp; omega))) ?_
        clear hK K
        (try simp only [Act.put, List.setIfInBounds_toArray, List.set_cons_zero, List.set_cons_succ])
        refine tree_keep rfl rfl (by rfl) (fun K hK => ?_)
        go_simp
        refine hK _ _ (by repeat' (first | with_reducible (first | refine bset ?_ ?_ | exact Below.refl _ _ | assumption | refine bdrewN ?_ _ | refine bdrew ?_ | refine balloc0 ?_ | refine balloc ?_ ?_ | (apply btrans0; rotate_left; assumption) | (apply btrans; rotate_left; assumption)) | exact Below.refl _ _ | assumption | (apply btrans0; rotate_left; assumption) | (apply btrans; rotate_left; assumption) | (simp; done) | omega | (simp; omega))) ?_
        clear hK K
        (try simp only [Act.put, List.setIfInBounds_toArray, List.set_cons_zero, List.set_cons_succ])
        as_aux_lemma =>
          refine tree_keep rfl rfl (by rfl) (fun K hK => ?_)
          refine wp_store_block 23 _ _ rfl (w3.heap.size) #[.int .i64 a.src, .int .i64 a.crt, .int .i64 a.seq, .int .i64 a.off, .int .i64 a.tot] #[.int .i64 0, .int .i64 0, .int .i64 0, .int .i64 0, .int .i64 0] 23 rfl rfl (by exact (Below.heap_alloc _ _ _ (by first | omega | (simp <;> omega))).trans ((Below.heap_alloc _ _ _ (by first | omega | (simp <;> omega))).trans heap_new)) rfl (by kernel_rfl) (by simp [Value.oneCell']) ?_
          intro W0 hW0 hbW0 hsW0 hoW0
          have hBW0 : Below w3.heap.size w3 W0 := (by refine Below.trans ?_ (hbW0 _ (by omega)); exact (by repeat' (first | with_reducible (first | refine bset ?_ ?_ | exact Below.refl _ _ | assumption | refine bdrewN ?_ _ | refine bdrew ?_ | refine balloc0 ?_ | refine balloc ?_ ?_ | (apply btrans0; rotate_left; assumption) | (apply btrans; rotate_left; assumption)) | exact Below.refl _ _ | assumption | (apply btrans0; rotate_left; assumption) | (apply btrans; rotate_left; assumption) | (simp; done) | omega | (simp; omega))))
          refine hK _ _ hBW0 ?_
          clear hK K
          (try simp only [Act.put, List.setIfInBounds_toArray, List.set_cons_zero, List.set_cons_succ])
          refine tree_keep rfl rfl (by rfl) (fun K hK => ?_)
          refine wp_store_block 23 _ _ rfl (w3.heap.size + 1 + 1) #[.int .i64 b.src, .int .i64 b.crt, .int .i64 b.seq, .int .i64 b.off, .int .i64 b.tot] #[.int .i64 0, .int .i64 0, .int .i64 0, .int .i64 0, .int .i64 0] 23 rfl rfl (by refine (hoW0 _ (by omega)).trans ?_; exact heap_new' (by simp)) rfl (by kernel_rfl) (by simp [Value.oneCell']) ?_
          intro W1 hW1 hbW1 hsW1 hoW1
          have hBW1 : Below w3.heap.size w3 W1 := hBW0.trans (hbW1 _ (by omega))
          refine hK _ _ hBW1 ?_
          clear hK K
          (try simp only [Act.put, List.setIfInBounds_toArray, List.set_cons_zero, List.set_cons_succ])
          refine tree_late rfl rfl (by rfl) (fun K hK => ?_)
          refine wp_store_block 23 _ _ rfl (w3.heap.size + 1) #[.int .i64 c.src, .int .i64 c.crt, .int .i64 c.seq, .int .i64 c.off, .int .i64 c.tot] #[.int .i64 0, .int .i64 0, .int .i64 0, .int .i64 0, .int .i64 0] 23 rfl rfl (by refine (hoW1 _ (by omega)).trans ?_; refine (hoW0 _ (by omega)).trans ?_; exact (Below.heap_alloc _ _ _ (by first | omega | (simp <;> omega))).trans (heap_new' (by simp))) rfl (by kernel_rfl) (by simp [Value.oneCell']) ?_
          intro W2 hW2 hbW2 hsW2 hoW2
          have hBW2 : Below w3.heap.size w3 W2 := hBW1.trans (hbW2 _ (by omega))
          refine hK _ _ ?_
          clear hK K
          (try simp only [Act.put, List.setIfInBounds_toArray, List.set_cons_zero, List.set_cons_succ])
          refine tree_fin ?_
          go_wp2_with fail
          go_meet
          exact ⟨w3.heap.size, w3.heap.size + 1 + 1, w3.heap.size + 1, rfl, rfl, rfl, Lib.hid ((hoW2 _ (by omega)).trans ((hoW1 _ (by omega)).trans hW0)), Lib.hid ((hoW2 _ (by omega)).trans hW1), Lib.hid hW2, hBW2⟩
    · refine tree_op rfl (by rfl) (fun K hK => ?_)
      go_simp
      refine hK _ _ (by repeat' (first | with_reducible (first | refine bset ?_ ?_ | exact Below.refl _ _ | assumption | refine bdrewN ?_ _ | refine bdrew ?_ | refine balloc0 ?_ | refine balloc ?_ ?_ | (apply btrans0; rotate_left; assumption) | (apply btrans; rotate_left; assumption)) | exact Below.refl _ _ | assumption | (apply btrans0; rotate_left; assumption) | (apply btrans; rotate_left; assumption) | (simp; done) | omega | (simp; omega))) ?_
      clear hK K
      (try simp only [Act.put, List.setIfInBounds_toArray, List.set_cons_zero, List.set_cons_succ])
      refine ⟨?_, ?_⟩
      · refine tree_op rfl (by rfl) (fun K hK => ?_)
        go_simp
        refine hK _ _ (by repeat' (first | with_reducible (first | refine bset ?_ ?_ | exact Below.refl _ _ | assumption | refine bdrewN ?_ _ | refine bdrew ?_ | refine balloc0 ?_ | refine balloc ?_ ?_ | (apply btrans0; rotate_left; assumption) | (apply btrans; rotate_left; assumption)) | exact Below.refl _ _ | assumption | (apply btrans0; rotate_left; assumption) | (apply btrans; rotate_left; assumption) | (simp; done) | omega | (simp; omega))) ?_
        clear hK K
        (try simp only [Act.put, List.setIfInBounds_toArray, List.set_cons_zero, List.set_cons_succ])
        refine tree_keep rfl rfl (by rfl) (fun K hK => ?_)
        go_simp
        refine hK _ _ (by repeat' (first | with_reducible (first | refine bset ?_ ?_ | exact Below.refl _ _ | assumption | refine bdrewN ?_ _ | refine bdrew ?_ | refine balloc0 ?_ | refine balloc ?_ ?_ | (apply btrans0; rotate_left; assumption) | (apply btrans; rotate_left; assumption)) | exact Below.refl _ _ | assumption | (apply btrans0; rotate_left; assumption) | (apply btrans; rotate_left; assumption) | (simp; done) | omega | (simp; omega))) ?_
        clear hK K
        (try simp only [Act.put, List.setIfInBounds_toArray, List.set_cons_zero, List.set_cons_succ])
        as_aux_lemma =>
          refine tree_keep rfl rfl (by rfl) (fun K hK => ?_)
          refine wp_store_block 23 _ _ rfl (w3.heap.size + 1) #[.int .i64 a.src, .int .i64 a.crt, .int .i64 a.seq, .int .i64 a.off, .int .i64 a.tot] #[.int .i64 0, .int .i64 0, .int .i64 0, .int .i64 0, .int .i64 0] 23 rfl rfl (by exact (Below.heap_alloc _ _ _ (by first | omega | (simp <;> omega))).trans (heap_new' (by simp))) rfl (by kernel_rfl) (by simp [Value.oneCell']) ?_
          intro W0 hW0 hbW0 hsW0 hoW0
          have hBW0 : Below w3.heap.size w3 W0 := (by refine Below.trans ?_ (hbW0 _ (by omega)); exact (by repeat' (first | with_reducible (first | refine bset ?_ ?_ | exact Below.refl _ _ | assumption | refine bdrewN ?_ _ | refine bdrew ?_ | refine balloc0 ?_ | refine balloc ?_ ?_ | (apply btrans0; rotate_left; assumption) | (apply btrans; rotate_left; assumption)) | exact Below.refl _ _ | assumption | (apply btrans0; rotate_left; assumption) | (apply btrans; rotate_left; assumption) | (simp; done) | omega | (simp; omega))))
          refine hK _ _ hBW0 ?_
          clear hK K
          (try simp only [Act.put, List.setIfInBounds_toArray, List.set_cons_zero, List.set_cons_succ])
          refine tree_keep rfl rfl (by rfl) (fun K hK => ?_)
          refine wp_store_block 23 _ _ rfl (w3.heap.size) #[.int .i64 b.src, .int .i64 b.crt, .int .i64 b.seq, .int .i64 b.off, .int .i64 b.tot] #[.int .i64 0, .int .i64 0, .int .i64 0, .int .i64 0, .int .i64 0] 23 rfl rfl (by refine (hoW0 _ (by omega)).trans ?_; exact (Below.heap_alloc _ _ _ (by first | omega | (simp <;> omega))).trans ((Below.heap_alloc _ _ _ (by first | omega | (simp <;> omega))).trans heap_new)) rfl (by kernel_rfl) (by simp [Value.oneCell']) ?_
          intro W1 hW1 hbW1 hsW1 hoW1
          have hBW1 : Below w3.heap.size w3 W1 := hBW0.trans (hbW1 _ (by omega))
          refine hK _ _ hBW1 ?_
          clear hK K
          (try simp only [Act.put, List.setIfInBounds_toArray, List.set_cons_zero, List.set_cons_succ])
          refine tree_late rfl rfl (by rfl) (fun K hK => ?_)
          refine wp_store_block 23 _ _ rfl (w3.heap.size + 1 + 1) #[.int .i64 c.src, .int .i64 c.crt, .int .i64 c.seq, .int .i64 c.off, .int .i64 c.tot] #[.int .i64 0, .int .i64 0, .int .i64 0, .int .i64 0, .int .i64 0] 23 rfl rfl (by refine (hoW1 _ (by omega)).trans ?_; refine (hoW0 _ (by omega)).trans ?_; exact heap_new' (by simp)) rfl (by kernel_rfl) (by simp [Value.oneCell']) ?_
          intro W2 hW2 hbW2 hsW2 hoW2
          have hBW2 : Below w3.heap.size w3 W2 := hBW1.trans (hbW2 _ (by omega))
          refine hK _ _ ?_
          clear hK K
          (try simp only [Act.put, List.setIfInBounds_toArray, List.set_cons_zero, List.set_cons_succ])
          refine tree_fin ?_
          go_wp2_with fail
          go_meet
          exact ⟨w3.heap.size + 1, w3.heap.size, w3.heap.size + 1 + 1, rfl, rfl, rfl, Lib.hid ((hoW2 _ (by omega)).trans ((hoW1 _ (by omega)).trans hW0)), Lib.hid ((hoW2 _ (by omega)).trans hW1), Lib.hid hW2, hBW2⟩
      · refine tree_op rfl (by rfl) (fun K hK => ?_)
        go_simp
        refine hK _ _ (by repeat' (first | with_reducible (first | refine bset ?_ ?_ | exact Below.refl _ _ | assumption | refine bdrewN ?_ _ | refine bdrew ?_ | refine balloc0 ?_ | refine balloc ?_ ?_ | (apply btrans0; rotate_left; assumption) | (apply btrans; rotate_left; assumption)) | exact Below.refl _ _ | assumption | (apply btrans0; rotate_left; assumption) | (apply btrans; rotate_left; assumption) | (simp; done) | omega | (simp; omega))) ?_
        clear hK K
        (try simp only [Act.put, List.setIfInBounds_toArray, List.set_cons_zero, List.set_cons_succ])
        refine tree_keep rfl rfl (by rfl) (fun K hK => ?_)
        go_simp
        refine hK _ _ (by repeat' (first | with_reducible (first | refine bset ?_ ?_ | exact Below.refl _ _ | assumption | refine bdrewN ?_ _ | refine bdrew ?_ | refine balloc0 ?_ | refine balloc ?_ ?_ | (apply btrans0; rotate_left; assumption) | (apply btrans; rotate_left; assumption)) | exact Below.refl _ _ | assumption | (apply btrans0; rotate_left; assumption) | (apply btrans; rotate_left; assumption) | (simp; done) | omega | (simp; omega))) ?_
        clear hK K
        (try simp only [Act.put, List.setIfInBounds_toArray, List.set_cons_zero, List.set_cons_succ])
        as_aux_lemma =>
          refine tree_keep rfl rfl (by rfl) (fun K hK => ?_)
          refine wp_store_block 23 _ _ rfl (w3.heap.size + 1 + 1) #[.int .i64 a.src, .int .i64 a.crt, .int .i64 a.seq, .int .i64 a.off, .int .i64 a.tot] #[.int .i64 0, .int .i64 0, .int .i64 0, .int .i64 0, .int .i64 0] 23 rfl rfl (by exact heap_new' (by simp)) rfl (by kernel_rfl) (by simp [Value.oneCell']) ?_
          intro W0 hW0 hbW0 hsW0 hoW0
          have hBW0 : Below w3.heap.size w3 W0 := (by refine Below.trans ?_ (hbW0 _ (by omega)); exact (by repeat' (first | with_reducible (first | refine bset ?_ ?_ | exact Below.refl _ _ | assumption | refine bdrewN ?_ _ | refine bdrew ?_ | refine balloc0 ?_ | refine balloc ?_ ?_ | (apply btrans0; rotate_left; assumption) | (apply btrans; rotate_left; assumption)) | exact Below.refl _ _ | assumption | (apply btrans0; rotate_left; assumption) | (apply btrans; rotate_left; assumption) | (simp; done) | omega | (simp; omega))))
          refine hK _ _ hBW0 ?_
          clear hK K
          (try simp only [Act.put, List.setIfInBounds_toArray, List.set_cons_zero, List.set_cons_succ])
          refine tree_keep rfl rfl (by rfl) (fun K hK => ?_)
          refine wp_store_block 23 _ _ rfl (w3.heap.size) #[.int .i64 b.src, .int .i64 b.crt, .int .i64 b.seq, .int .i64 b.off, .int .i64 b.tot] #[.int .i64 0, .int .i64 0, .int .i64 0, .int .i64 0, .int .i64 0] 23 rfl rfl (by refine (hoW0 _ (by omega)).trans ?_; exact (Below.heap_alloc _ _ _ (by first | omega | (simp <;> omega))).trans ((Below.heap_alloc _ _ _ (by first | omega | (simp <;> omega))).trans heap_new)) rfl (by kernel_rfl) (by simp [Value.oneCell']) ?_
          intro W1 hW1 hbW1 hsW1 hoW1
          have hBW1 : Below w3.heap.size w3 W1 := hBW0.trans (hbW1 _ (by omega))
          refine hK _ _ hBW1 ?_
          clear hK K
          (try simp only [Act.put, List.setIfInBounds_toArray, List.set_cons_zero, List.set_cons_succ])
          refine tree_late rfl rfl (by rfl) (fun K hK => ?_)
          refine wp_store_block 23 _ _ rfl (w3.heap.size + 1) #[.int .i64 c.src, .int .i64 c.crt, .int .i64 c.seq, .int .i64 c.off, .int .i64 c.tot] #[.int .i64 0, .int .i64 0, .int .i64 0, .int .i64 0, .int .i64 0] 23 rfl rfl (by refine (hoW1 _ (by omega)).trans ?_; refine (hoW0 _ (by omega)).trans ?_; exact (Below.heap_alloc _ _ _ (by first | omega | (simp <;> omega))).trans (heap_new' (by simp))) rfl (by kernel_rfl) (by simp [Value.oneCell']) ?_
          intro W2 hW2 hbW2 hsW2 hoW2
          have hBW2 : Below w3.heap.size w3 W2 := hBW1.trans (hbW2 _ (by omega))
          refine hK _ _ ?_
          clear hK K
          (try simp only [Act.put, List.setIfInBounds_toArray, List.set_cons_zero, List.set_cons_succ])
          refine tree_fin ?_
          go_wp2_with fail
          go_meet
          exact ⟨w3.heap.size + 1 + 1, w3.heap.size, w3.heap.size + 1, rfl, rfl, rfl, Lib.hid ((hoW2 _ (by omega)).trans ((hoW1 _ (by omega)).trans hW0)), Lib.hid ((hoW2 _ (by omega)).trans hW1), Lib.hid hW2, hBW2⟩
    · refine tree_op rfl (by rfl) (fun K hK => ?_)
      go_simp
      refine hK _ _ (by repeat' (first | with_reducible (first | refine bset ?_ ?_ | exact Below.refl _ _ | assumption | refine bdrewN ?_ _ | refine bdrew ?_ | refine balloc0 ?_ | refine balloc ?_ ?_ | (apply btrans0; rotate_left; assumption) | (apply btrans; rotate_left; assumption)) | exact Below.refl _ _ | assumption | (apply btrans0; rotate_left; assumption) | (apply btrans; rotate_left; assumption) | (simp; done) | omega | (simp; omega))) ?_
      clear hK K
      (try simp only [Act.put, List.setIfInBounds_toArray, List.set_cons_zero, List.set_cons_succ])
      refine ⟨?_, ?_⟩
      · refine tree_op rfl (by rfl) (fun K hK => ?_)
        go_simp
        refine hK _ _ (by repeat' (first | with_reducible (first | refine bset ?_ ?_ | exact Below.refl _ _ | assumption | refine bdrewN ?_ _ | refine bdrew ?_ | refine balloc0 ?_ | refine balloc ?_ ?_ | (apply btrans0; rotate_left; assumption) | (apply btrans; rotate_left; assumption)) | exact Below.refl _ _ | assumption | (apply btrans0; rotate_left; assumption) | (apply btrans; rotate_left; assumption) | (simp; done) | omega | (simp; omega))) ?_
        clear hK K
        (try simp only [Act.put, List.setIfInBounds_toArray, List.set_cons_zero, List.set_cons_succ])
        refine tree_keep rfl rfl (by rfl) (fun K hK => ?_)
        go_simp
        refine hK _ _ (by repeat' (first | with_reducible (first | refine bset ?_ ?_ | exact Below.refl _ _ | assumption | refine bdrewN ?_ _ | refine bdrew ?_ | refine balloc0 ?_ | refine balloc ?_ ?_ | (apply btrans0; rotate_left; assumption) | (apply btrans; rotate_left; assumption)) | exact Below.refl _ _ | assumption | (apply btrans0; rotate_left; assumption) | (apply btrans; rotate_left; assumption) | (simp; done) | omega | (simp; omega))) ?_
        clear hK K
        (try simp only [Act.put, List.setIfInBounds_toArray, List.set_cons_zero, List.set_cons_succ])
        as_aux_lemma =>
          refine tree_keep rfl rfl (by rfl) (fun K hK => ?_)
          refine wp_store_block 23 _ _ rfl (w3.heap.size + 1) #[.int .i64 a.src, .int .i64 a.crt, .int .i64 a.seq, .int .i64 a.off, .int .i64 a.tot] #[.int .i64 0, .int .i64 0, .int .i64 0, .int .i64 0, .int .i64 0] 23 rfl rfl (by exact (Below.heap_alloc _ _ _ (by first | omega | (simp <;> omega))).trans (heap_new' (by simp))) rfl (by kernel_rfl) (by simp [Value.oneCell']) ?_
          intro W0 hW0 hbW0 hsW0 hoW0
          have hBW0 : Below w3.heap.size w3 W0 := (by refine Below.trans ?_ (hbW0 _ (by omega)); exact (by repeat' (first | with_reducible (first | refine bset ?_ ?_ | exact Below.refl _ _ | assumption | refine bdrewN ?_ _ | refine bdrew ?_ | refine balloc0 ?_ | refine balloc ?_ ?_ | (apply btrans0; rotate_left; assumption) | (apply btrans; rotate_left; assumption)) | exact Below.refl _ _ | assumption | (apply btrans0; rotate_left; assumption) | (apply btrans; rotate_left; assumption) | (simp; done) | omega | (simp; omega))))
          refine hK _ _ hBW0 ?_
          clear hK K
          (try simp only [Act.put, List.setIfInBounds_toArray, List.set_cons_zero, List.set_cons_succ])
          refine tree_keep rfl rfl (by rfl) (fun K hK => ?_)
          refine wp_store_block 23 _ _ rfl (w3.heap.size + 1 + 1) #[.int .i64 b.src, .int .i64 b.crt, .int .i64 b.seq, .int .i64 b.off, .int .i64 b.tot] #[.int .i64 0, .int .i64 0, .int .i64 0, .int .i64 0, .int .i64 0] 23 rfl rfl (by refine (hoW0 _ (by omega)).trans ?_; exact heap_new' (by simp)) rfl (by kernel_rfl) (by simp [Value.oneCell']) ?_
          intro W1 hW1 hbW1 hsW1 hoW1
          have hBW1 : Below w3.heap.size w3 W1 := hBW0.trans (hbW1 _ (by omega))
          refine hK _ _ hBW1 ?_
          clear hK K
          (try simp only [Act.put, List.setIfInBounds_toArray, List.set_cons_zero, List.set_cons_succ])
          refine tree_late rfl rfl (by rfl) (fun K hK => ?_)
          refine wp_store_block 23 _ _ rfl (w3.heap.size) #[.int .i64 c.src, .int .i64 c.crt, .int .i64 c.seq, .int .i64 c.off, .int .i64 c.tot] #[.int .i64 0, .int .i64 0, .int .i64 0, .int .i64 0, .int .i64 0] 23 rfl rfl (by refine (hoW1 _ (by omega)).trans ?_; refine (hoW0 _ (by omega)).trans ?_; exact (Below.heap_alloc _ _ _ (by first | omega | (simp <;> omega))).trans ((Below.heap_alloc _ _ _ (by first | omega | (simp <;> omega))).trans heap_new)) rfl (by kernel_rfl) (by simp [Value.oneCell']) ?_
          intro W2 hW2 hbW2 hsW2 hoW2
          have hBW2 : Below w3.heap.size w3 W2 := hBW1.trans (hbW2 _ (by omega))
          refine hK _ _ ?_
          clear hK K
          (try simp only [Act.put, List.setIfInBounds_toArray, List.set_cons_zero, List.set_cons_succ])
          refine tree_fin ?_
          go_wp2_with fail
          go_meet
          exact ⟨w3.heap.size + 1, w3.heap.size + 1 + 1, w3.heap.size, rfl, rfl, rfl, Lib.hid ((hoW2 _ (by omega)).trans ((hoW1 _ (by omega)).trans hW0)), Lib.hid ((hoW2 _ (by omega)).trans hW1), Lib.hid hW2, hBW2⟩
      · refine tree_op rfl (by rfl) (fun K hK => ?_)
        go_simp
        refine hK _ _ (by repeat' (first | with_reducible (first | refine bset ?_ ?_ | exact Below.refl _ _ | assumption | refine bdrewN ?_ _ | refine bdrew ?_ | refine balloc0 ?_ | refine balloc ?_ ?_ | (apply btrans0; rotate_left; assumption) | (apply btrans; rotate_left; assumption)) | exact Below.refl _ _ | assumption | (apply btrans0; rotate_left; assumption) | (apply btrans; rotate_left; assumption) | (simp; done) | omega | (simp; omega))) ?_
        clear hK K
        (try simp only [Act.put, List.setIfInBounds_toArray, List.set_cons_zero, List.set_cons_succ])
        refine tree_keep rfl rfl (by rfl) (fun K hK => ?_)
        go_simp
        refine hK _ _ (by repeat' (first | with_reducible (first | refine bset ?_ ?_ | exact Below.refl _ _ | assumption | refine bdrewN ?_ _ | refine bdrew ?_ | refine balloc0 ?_ | refine balloc ?_ ?_ | (apply btrans0; rotate_left; assumption) | (apply btrans; rotate_left; assumption)) | exact Below.refl _ _ | assumption | (apply btrans0; rotate_left; assumption) | (apply btrans; rotate_left; assumption) | (simp; done) | omega | (simp; omega))) ?_
        clear hK K
        (try simp only [Act.put, List.setIfInBounds_toArray, List.set_cons_zero, List.set_cons_succ])
        as_aux_lemma =>
          refine tree_keep rfl rfl (by rfl) (fun K hK => ?_)
          refine wp_store_block 23 _ _ rfl (w3.heap.size + 1 + 1) #[.int .i64 a.src, .int .i64 a.crt, .int .i64 a.seq, .int .i64 a.off, .int .i64 a.tot] #[.int .i64 0, .int .i64 0, .int .i64 0, .int .i64 0, .int .i64 0] 23 rfl rfl (by exact heap_new' (by simp)) rfl (by kernel_rfl) (by simp [Value.oneCell']) ?_
          intro W0 hW0 hbW0 hsW0 hoW0
          have hBW0 : Below w3.heap.size w3 W0 := (by refine Below.trans ?_ (hbW0 _ (by omega)); exact (by repeat' (first | with_reducible (first | refine bset ?_ ?_ | exact Below.refl _ _ | assumption | refine bdrewN ?_ _ | refine bdrew ?_ | refine balloc0 ?_ | refine balloc ?_ ?_ | (apply btrans0; rotate_left; assumption) | (apply btrans; rotate_left; assumption)) | exact Below.refl _ _ | assumption | (apply btrans0; rotate_left; assumption) | (apply btrans; rotate_left; assumption) | (simp; done) | omega | (simp; omega))))
          refine hK _ _ hBW0 ?_
          clear hK K
          (try simp only [Act.put, List.setIfInBounds_toArray, List.set_cons_zero, List.set_cons_succ])
          refine tree_keep rfl rfl (by rfl) (fun K hK => ?_)
          refine wp_store_block 23 _ _ rfl (w3.heap.size + 1) #[.int .i64 b.src, .int .i64 b.crt, .int .i64 b.seq, .int .i64 b.off, .int .i64 b.tot] #[.int .i64 0, .int .i64 0, .int .i64 0, .int .i64 0, .int .i64 0] 23 rfl rfl (by refine (hoW0 _ (by omega)).trans ?_; exact (Below.heap_alloc _ _ _ (by first | omega | (simp <;> omega))).trans (heap_new' (by simp))) rfl (by kernel_rfl) (by simp [Value.oneCell']) ?_
          intro W1 hW1 hbW1 hsW1 hoW1
          have hBW1 : Below w3.heap.size w3 W1 := hBW0.trans (hbW1 _ (by omega))
          refine hK _ _ hBW1 ?_
          clear hK K
          (try simp only [Act.put, List.setIfInBounds_toArray, List.set_cons_zero, List.set_cons_succ])
          refine tree_late rfl rfl (by rfl) (fun K hK => ?_)
          refine wp_store_block 23 _ _ rfl (w3.heap.size) #[.int .i64 c.src, .int .i64 c.crt, .int .i64 c.seq, .int .i64 c.off, .int .i64 c.tot] #[.int .i64 0, .int .i64 0, .int .i64 0, .int .i64 0, .int .i64 0] 23 rfl rfl (by refine (hoW1 _ (by omega)).trans ?_; refine (hoW0 _ (by omega)).trans ?_; exact (Below.heap_alloc _ _ _ (by first | omega | (simp <;> omega))).trans ((Below.heap_alloc _ _ _ (by first | omega | (simp <;> omega))).trans heap_new)) rfl (by kernel_rfl) (by simp [Value.oneCell']) ?_
          intro W2 hW2 hbW2 hsW2 hoW2
          have hBW2 : Below w3.heap.size w3 W2 := hBW1.trans (hbW2 _ (by omega))
          refine hK _ _ ?_
          clear hK K
          (try simp only [Act.put, List.setIfInBounds_toArray, List.set_cons_zero, List.set_cons_succ])
          refine tree_fin ?_
          go_wp2_with fail
          go_meet
          exact ⟨w3.heap.size + 1 + 1, w3.heap.size + 1, w3.heap.size, rfl, rfl, rfl, Lib.hid ((hoW2 _ (by omega)).trans ((hoW1 _ (by omega)).trans hW0)), Lib.hid ((hoW2 _ (by omega)).trans hW1), Lib.hid hW2, hBW2⟩
  case rest =>
    obtain ⟨p, q, r, rfl, rfl, rfl, HPw, HQw, HSw, hBx⟩ := hcut
    obtain ⟨w4, rfl⟩ : ∃ q, q = wc := ⟨_, rfl⟩
    have b4 := hBx
    have hB4 : Below w.heap.size w w4 := btrans0 hB3 b4
    have y4 := b4.size
    have HAa4 := Lib.hid ((b4.block _ za3).trans HAa.out)
    have HAb4 := Lib.hid ((b4.block _ zb3).trans HAb.out)
    have HAc4 := Lib.hid ((b4.block _ zc3).trans HAc.out)
    have HP4 := HPw
    have HQ4 := HQw
    have HS4 := HSw
    have zp : p < w4.heap.size := by
      rcases Nat.lt_or_ge p w4.heap.size with z | z
      · exact z
      · have := HP4.out; rw [Array.getElem?_eq_none z] at this; cases this
    have zq : q < w4.heap.size := by
      rcases Nat.lt_or_ge q w4.heap.size with z | z
      · exact z
      · have := HQ4.out; rw [Array.getElem?_eq_none z] at this; cases this
    have zr : r < w4.heap.size := by
      rcases Nat.lt_or_ge r w4.heap.size with z | z
      · exact z
      · have := HS4.out; rw [Array.getElem?_eq_none z] at this; cases this
    clear caa cab cac hBx
    have ca := fun o => cellB HAa4.out o
    (try simp only [bunC] at ca)
    have cb := fun o => cellB HAb4.out o
    (try simp only [bunC] at cb)
    have cc := fun o => cellB HAc4.out o
    (try simp only [bunC] at cc)
    have cp := fun o => cellB HP4.out o
    simp only [idC] at cp
    have cq := fun o => cellB HQ4.out o
    simp only [idC] at cq
    have cr := fun o => cellB HS4.out o
    simp only [idC] at cr
    go_upto_region 4 with fail
    go_cut [7, 8, 9, 73] (fun s7 s8 s9 s73 wx => s7 = .pointer (some ⟨p, 0, none⟩) ∧ s8 = .pointer (some ⟨q, 0, none⟩) ∧ s9 = .pointer (some ⟨r, 0, none⟩) ∧ s73 = .bool false ∧ Below w4.heap.size w4 wx)
    case first =>
      have d0 : decide ((0 : Int) < 0) = false := by decide
      rcases HPR.out with e1 | e1 | e1
      · have d1 : decide (p1 < 0) = true := by rw [e1]; decide
        have d2 : decide (-p1 < 0) = false := by rw [e1]; decide
        have hq := HEQ.out
        rw [HEP.out, e1] at hq
        rw [show decide ((-1 : Int) = 0) = false by decide] at hq
        by_cases e2 : p2 = -1
        · have d3 : decide (p2 < 0) = true := by rw [e2]; decide
          have d4 : decide (p3 < 0) = true := by rw [HPT.out e1 e2]; decide
          clear e1 e2
          as_aux_lemma =>
            refine wp_region_plan (fun V => Below (w4).heap.size (w4) V) [1, 1, 2, 0, 1, 1, 0, 1, 1, 2, 0, 1, 1, 2, 0, 0, 0, 0, 1, 1, 2, 0, 1, 1, 2, 0, 0, 0, 1, 1, 2, 0, 1, 1, 2, 0, 0, 1, 1, 3, 0, 0, 0] [0, 1, 2, 3, 4, 5, 6, 7, 8, 9, 10, 11, 12, 13, 14, 15, 16, 17, 18, 19, 20, 21, 22, 23, 24, 25, 26, 27, 28, 29, 30, 31, 32, 33, 34, 35, 36, 37, 38, 39, 40, 41, 42] (by kernel_rfl) (by kernel_rfl) ?_ ?_
            case refine_1 => exact (by repeat' (first | with_reducible (first | refine bset ?_ ?_ | exact Below.refl _ _ | assumption | refine bdrewN ?_ _ | refine bdrew ?_ | refine balloc0 ?_ | refine balloc ?_ ?_ | (apply btrans0; rotate_left; assumption) | (apply btrans; rotate_left; assumption)) | exact Below.refl _ _ | assumption | (apply btrans0; rotate_left; assumption) | (apply btrans; rotate_left; assumption) | (simp; done) | omega | (simp; omega)))
            (iterate 2 (first | (refine plan_held rfl (by decide) (by rfl) (fun w1 hS => by (try (obtain ⟨_, _⟩ := bcell (hS rfl))); go_simp; rfl) ?_; simp only [Act.put, List.setIfInBounds_toArray, List.set_cons_zero, List.set_cons_succ]) | (refine plan_skip rfl (by decide) (by rfl) ?_; simp only [Act.put, List.setIfInBounds_toArray, List.set_cons_zero, List.set_cons_succ])))
            (refine plan_keep rfl rfl (by rfl) (fun K hK => ?_); go_simp)
            refine (less_any a.src a.crt a.seq a.off a.tot a.src a.crt a.seq a.off a.tot _).mono ?_
            rw [HAA.out]
            rw [d0]
            rintro e wc33 ⟨rfl, hbc33⟩
            (refine hK _ _ (by exact (by repeat' (first | with_reducible (first | refine bset ?_ ?_ | exact Below.refl _ _ | assumption | refine bdrewN ?_ _ | refine bdrew ?_ | refine balloc0 ?_ | refine balloc ?_ ?_ | (apply btrans0; rotate_left; assumption) | (apply btrans; rotate_left; assumption)) | exact Below.refl _ _ | assumption | (apply btrans0; rotate_left; assumption) | (apply btrans; rotate_left; assumption) | (simp; done) | omega | (simp; omega)))) ?_; clear hK K; (try simp only [Act.put, List.setIfInBounds_toArray, List.set_cons_zero, List.set_cons_succ]))
            (iterate 6 (first | (refine plan_held rfl (by decide) (by rfl) (fun w1 hS => by (try (obtain ⟨_, _⟩ := bcell (hS rfl))); go_simp; rfl) ?_; simp only [Act.put, List.setIfInBounds_toArray, List.set_cons_zero, List.set_cons_succ]) | (refine plan_skip rfl (by decide) (by rfl) ?_; simp only [Act.put, List.setIfInBounds_toArray, List.set_cons_zero, List.set_cons_succ])))
            (refine plan_keep rfl rfl (by rfl) (fun K hK => ?_); go_simp)
            refine (less_any a.src a.crt a.seq a.off a.tot b.src b.crt b.seq b.off b.tot _).mono ?_
            rw [HAB.out]
            rw [d1]
            rintro e wc40 ⟨rfl, hbc40⟩
            (refine hK _ _ (by exact (by repeat' (first | with_reducible (first | refine bset ?_ ?_ | exact Below.refl _ _ | assumption | refine bdrewN ?_ _ | refine bdrew ?_ | refine balloc0 ?_ | refine balloc ?_ ?_ | (apply btrans0; rotate_left; assumption) | (apply btrans; rotate_left; assumption)) | exact Below.refl _ _ | assumption | (apply btrans0; rotate_left; assumption) | (apply btrans; rotate_left; assumption) | (simp; done) | omega | (simp; omega)))) ?_; clear hK K; (try simp only [Act.put, List.setIfInBounds_toArray, List.set_cons_zero, List.set_cons_succ]))
            (iterate 3 (first | (refine plan_held rfl (by decide) (by rfl) (fun w1 hS => by (try (obtain ⟨_, _⟩ := bcell (hS rfl))); go_simp; rfl) ?_; simp only [Act.put, List.setIfInBounds_toArray, List.set_cons_zero, List.set_cons_succ]) | (refine plan_skip rfl (by decide) (by rfl) ?_; simp only [Act.put, List.setIfInBounds_toArray, List.set_cons_zero, List.set_cons_succ])))
            (refine plan_skipK rfl (by decide) (by rfl) (by repeat' (first | with_reducible (first | refine bset ?_ ?_ | exact Below.refl _ _ | assumption | refine bdrewN ?_ _ | refine bdrew ?_ | refine balloc0 ?_ | refine balloc ?_ ?_ | (apply btrans0; rotate_left; assumption) | (apply btrans; rotate_left; assumption)) | exact Below.refl _ _ | assumption | (apply btrans0; rotate_left; assumption) | (apply btrans; rotate_left; assumption) | (simp; done) | omega | (simp; omega))) ?_; simp only [Act.put, List.setIfInBounds_toArray, List.set_cons_zero, List.set_cons_succ])
            (iterate 6 (first | (refine plan_held rfl (by decide) (by rfl) (fun w1 hS => by (try (obtain ⟨_, _⟩ := bcell (hS rfl))); go_simp; rfl) ?_; simp only [Act.put, List.setIfInBounds_toArray, List.set_cons_zero, List.set_cons_succ]) | (refine plan_skip rfl (by decide) (by rfl) ?_; simp only [Act.put, List.setIfInBounds_toArray, List.set_cons_zero, List.set_cons_succ])))
            (refine plan_keep rfl rfl (by rfl) (fun K hK => ?_); go_simp)
            refine (less_any a.src a.crt a.seq a.off a.tot b.src b.crt b.seq b.off b.tot _).mono ?_
            rw [HAB.out]
            rw [d1]
            rintro e wc51 ⟨rfl, hbc51⟩
            (refine hK _ _ (by exact (by repeat' (first | with_reducible (first | refine bset ?_ ?_ | exact Below.refl _ _ | assumption | refine bdrewN ?_ _ | refine bdrew ?_ | refine balloc0 ?_ | refine balloc ?_ ?_ | (apply btrans0; rotate_left; assumption) | (apply btrans; rotate_left; assumption)) | exact Below.refl _ _ | assumption | (apply btrans0; rotate_left; assumption) | (apply btrans; rotate_left; assumption) | (simp; done) | omega | (simp; omega)))) ?_; clear hK K; (try simp only [Act.put, List.setIfInBounds_toArray, List.set_cons_zero, List.set_cons_succ]))
            (iterate 3 (first | (refine plan_held rfl (by decide) (by rfl) (fun w1 hS => by (try (obtain ⟨_, _⟩ := bcell (hS rfl))); go_simp; rfl) ?_; simp only [Act.put, List.setIfInBounds_toArray, List.set_cons_zero, List.set_cons_succ]) | (refine plan_skip rfl (by decide) (by rfl) ?_; simp only [Act.put, List.setIfInBounds_toArray, List.set_cons_zero, List.set_cons_succ])))
            (refine plan_keep rfl rfl (by rfl) (fun K hK => ?_); go_simp)
            refine (less_any b.src b.crt b.seq b.off b.tot a.src a.crt a.seq a.off a.tot _).mono ?_
            rw [HBA.out]
            rw [d2]
            rintro e wc55 ⟨rfl, hbc55⟩
            (refine hK _ _ (by exact (by repeat' (first | with_reducible (first | refine bset ?_ ?_ | exact Below.refl _ _ | assumption | refine bdrewN ?_ _ | refine bdrew ?_ | refine balloc0 ?_ | refine balloc ?_ ?_ | (apply btrans0; rotate_left; assumption) | (apply btrans; rotate_left; assumption)) | exact Below.refl _ _ | assumption | (apply btrans0; rotate_left; assumption) | (apply btrans; rotate_left; assumption) | (simp; done) | omega | (simp; omega)))) ?_; clear hK K; (try simp only [Act.put, List.setIfInBounds_toArray, List.set_cons_zero, List.set_cons_succ]))
            (iterate 5 (first | (refine plan_held rfl (by decide) (by rfl) (fun w1 hS => by (try (obtain ⟨_, _⟩ := bcell (hS rfl))); go_simp; rfl) ?_; simp only [Act.put, List.setIfInBounds_toArray, List.set_cons_zero, List.set_cons_succ]) | (refine plan_skip rfl (by decide) (by rfl) ?_; simp only [Act.put, List.setIfInBounds_toArray, List.set_cons_zero, List.set_cons_succ])))
            (refine plan_keep rfl rfl (by rfl) (fun K hK => ?_); go_simp)
            refine (less_any a.src a.crt a.seq a.off a.tot b.src b.crt b.seq b.off b.tot _).mono ?_
            rw [HAB.out]
            rw [d1]
            rintro e wc61 ⟨rfl, hbc61⟩
            (refine hK _ _ (by exact (by repeat' (first | with_reducible (first | refine bset ?_ ?_ | exact Below.refl _ _ | assumption | refine bdrewN ?_ _ | refine bdrew ?_ | refine balloc0 ?_ | refine balloc ?_ ?_ | (apply btrans0; rotate_left; assumption) | (apply btrans; rotate_left; assumption)) | exact Below.refl _ _ | assumption | (apply btrans0; rotate_left; assumption) | (apply btrans; rotate_left; assumption) | (simp; done) | omega | (simp; omega)))) ?_; clear hK K; (try simp only [Act.put, List.setIfInBounds_toArray, List.set_cons_zero, List.set_cons_succ]))
            (iterate 3 (first | (refine plan_held rfl (by decide) (by rfl) (fun w1 hS => by (try (obtain ⟨_, _⟩ := bcell (hS rfl))); go_simp; rfl) ?_; simp only [Act.put, List.setIfInBounds_toArray, List.set_cons_zero, List.set_cons_succ]) | (refine plan_skip rfl (by decide) (by rfl) ?_; simp only [Act.put, List.setIfInBounds_toArray, List.set_cons_zero, List.set_cons_succ])))
            (refine plan_keep rfl rfl (by rfl) (fun K hK => ?_); go_simp)
            refine (less_any b.src b.crt b.seq b.off b.tot c.src c.crt c.seq c.off c.tot _).mono ?_
            rw [HBC.out]
            rw [d3]
            rintro e wc65 ⟨rfl, hbc65⟩
            (refine hK _ _ (by exact (by repeat' (first | with_reducible (first | refine bset ?_ ?_ | exact Below.refl _ _ | assumption | refine bdrewN ?_ _ | refine bdrew ?_ | refine balloc0 ?_ | refine balloc ?_ ?_ | (apply btrans0; rotate_left; assumption) | (apply btrans; rotate_left; assumption)) | exact Below.refl _ _ | assumption | (apply btrans0; rotate_left; assumption) | (apply btrans; rotate_left; assumption) | (simp; done) | omega | (simp; omega)))) ?_; clear hK K; (try simp only [Act.put, List.setIfInBounds_toArray, List.set_cons_zero, List.set_cons_succ]))
            (iterate 4 (first | (refine plan_held rfl (by decide) (by rfl) (fun w1 hS => by (try (obtain ⟨_, _⟩ := bcell (hS rfl))); go_simp; rfl) ?_; simp only [Act.put, List.setIfInBounds_toArray, List.set_cons_zero, List.set_cons_succ]) | (refine plan_skip rfl (by decide) (by rfl) ?_; simp only [Act.put, List.setIfInBounds_toArray, List.set_cons_zero, List.set_cons_succ])))
            (refine plan_late rfl rfl (by rfl) (fun K hK => ?_); go_simp)
            refine (less_any a.src a.crt a.seq a.off a.tot c.src c.crt c.seq c.off c.tot _).mono ?_
            rw [HAC.out]
            rw [d4]
            rintro e wc70 ⟨rfl, hbc70⟩
            (refine hK _ _ ?_; clear hK K; (try simp only [Act.put, List.setIfInBounds_toArray, List.set_cons_zero, List.set_cons_succ]))
            (iterate 3 (first | (refine plan_held rfl (by decide) (by rfl) (fun w1 hS => by (try (obtain ⟨_, _⟩ := bcell (hS rfl))); go_simp; rfl) ?_; simp only [Act.put, List.setIfInBounds_toArray, List.set_cons_zero, List.set_cons_succ]) | (refine plan_skip rfl (by decide) (by rfl) ?_; simp only [Act.put, List.setIfInBounds_toArray, List.set_cons_zero, List.set_cons_succ])))
            refine plan_done ?_
            go_wp2_with fail
            go_meet
            exact ⟨rfl, rfl, rfl, rfl, (by repeat' (first | with_reducible (first | refine bset ?_ ?_ | exact Below.refl _ _ | assumption | refine bdrewN ?_ _ | refine bdrew ?_ | refine balloc0 ?_ | refine balloc ?_ ?_ | (apply btrans0; rotate_left; assumption) | (apply btrans; rotate_left; assumption)) | exact Below.refl _ _ | assumption | (apply btrans0; rotate_left; assumption) | (apply btrans; rotate_left; assumption) | (simp; done) | omega | (simp; omega)))⟩
        · have d3 : decide (p2 < 0) = false := by have := HPS.out; rw [decide_eq_false_iff_not]; omega
          clear e1 e2
          as_aux_lemma =>
            refine wp_region_plan (fun V => Below (w4).heap.size (w4) V) [1, 1, 2, 0, 1, 1, 0, 1, 1, 2, 0, 1, 1, 2, 0, 0, 0, 0, 1, 1, 2, 0, 1, 1, 2, 0, 0, 0, 1, 1, 2, 0, 1, 1, 2, 0, 0, 1, 1, 3, 0, 0, 0] [0, 1, 2, 3, 4, 5, 6, 7, 8, 9, 10, 11, 12, 13, 14, 15, 16, 17, 18, 19, 20, 21, 22, 23, 24, 25, 26, 27, 28, 29, 30, 31, 32, 33, 34, 35, 36, 37, 38, 39, 40, 41, 42] (by kernel_rfl) (by kernel_rfl) ?_ ?_
            case refine_1 => exact (by repeat' (first | with_reducible (first | refine bset ?_ ?_ | exact Below.refl _ _ | assumption | refine bdrewN ?_ _ | refine bdrew ?_ | refine balloc0 ?_ | refine balloc ?_ ?_ | (apply btrans0; rotate_left; assumption) | (apply btrans; rotate_left; assumption)) | exact Below.refl _ _ | assumption | (apply btrans0; rotate_left; assumption) | (apply btrans; rotate_left; assumption) | (simp; done) | omega | (simp; omega)))
            (iterate 2 (first | (refine plan_held rfl (by decide) (by rfl) (fun w1 hS => by (try (obtain ⟨_, _⟩ := bcell (hS rfl))); go_simp; rfl) ?_; simp only [Act.put, List.setIfInBounds_toArray, List.set_cons_zero, List.set_cons_succ]) | (refine plan_skip rfl (by decide) (by rfl) ?_; simp only [Act.put, List.setIfInBounds_toArray, List.set_cons_zero, List.set_cons_succ])))
            (refine plan_keep rfl rfl (by rfl) (fun K hK => ?_); go_simp)
            refine (less_any a.src a.crt a.seq a.off a.tot a.src a.crt a.seq a.off a.tot _).mono ?_
            rw [HAA.out]
            rw [d0]
            rintro e wc33 ⟨rfl, hbc33⟩
            (refine hK _ _ (by exact (by repeat' (first | with_reducible (first | refine bset ?_ ?_ | exact Below.refl _ _ | assumption | refine bdrewN ?_ _ | refine bdrew ?_ | refine balloc0 ?_ | refine balloc ?_ ?_ | (apply btrans0; rotate_left; assumption) | (apply btrans; rotate_left; assumption)) | exact Below.refl _ _ | assumption | (apply btrans0; rotate_left; assumption) | (apply btrans; rotate_left; assumption) | (simp; done) | omega | (simp; omega)))) ?_; clear hK K; (try simp only [Act.put, List.setIfInBounds_toArray, List.set_cons_zero, List.set_cons_succ]))
            (iterate 6 (first | (refine plan_held rfl (by decide) (by rfl) (fun w1 hS => by (try (obtain ⟨_, _⟩ := bcell (hS rfl))); go_simp; rfl) ?_; simp only [Act.put, List.setIfInBounds_toArray, List.set_cons_zero, List.set_cons_succ]) | (refine plan_skip rfl (by decide) (by rfl) ?_; simp only [Act.put, List.setIfInBounds_toArray, List.set_cons_zero, List.set_cons_succ])))
            (refine plan_keep rfl rfl (by rfl) (fun K hK => ?_); go_simp)
            refine (less_any a.src a.crt a.seq a.off a.tot b.src b.crt b.seq b.off b.tot _).mono ?_
            rw [HAB.out]
            rw [d1]
            rintro e wc40 ⟨rfl, hbc40⟩
            (refine hK _ _ (by exact (by repeat' (first | with_reducible (first | refine bset ?_ ?_ | exact Below.refl _ _ | assumption | refine bdrewN ?_ _ | refine bdrew ?_ | refine balloc0 ?_ | refine balloc ?_ ?_ | (apply btrans0; rotate_left; assumption) | (apply btrans; rotate_left; assumption)) | exact Below.refl _ _ | assumption | (apply btrans0; rotate_left; assumption) | (apply btrans; rotate_left; assumption) | (simp; done) | omega | (simp; omega)))) ?_; clear hK K; (try simp only [Act.put, List.setIfInBounds_toArray, List.set_cons_zero, List.set_cons_succ]))
            (iterate 3 (first | (refine plan_held rfl (by decide) (by rfl) (fun w1 hS => by (try (obtain ⟨_, _⟩ := bcell (hS rfl))); go_simp; rfl) ?_; simp only [Act.put, List.setIfInBounds_toArray, List.set_cons_zero, List.set_cons_succ]) | (refine plan_skip rfl (by decide) (by rfl) ?_; simp only [Act.put, List.setIfInBounds_toArray, List.set_cons_zero, List.set_cons_succ])))
            (refine plan_skipK rfl (by decide) (by rfl) (by repeat' (first | with_reducible (first | refine bset ?_ ?_ | exact Below.refl _ _ | assumption | refine bdrewN ?_ _ | refine bdrew ?_ | refine balloc0 ?_ | refine balloc ?_ ?_ | (apply btrans0; rotate_left; assumption) | (apply btrans; rotate_left; assumption)) | exact Below.refl _ _ | assumption | (apply btrans0; rotate_left; assumption) | (apply btrans; rotate_left; assumption) | (simp; done) | omega | (simp; omega))) ?_; simp only [Act.put, List.setIfInBounds_toArray, List.set_cons_zero, List.set_cons_succ])
            (iterate 6 (first | (refine plan_held rfl (by decide) (by rfl) (fun w1 hS => by (try (obtain ⟨_, _⟩ := bcell (hS rfl))); go_simp; rfl) ?_; simp only [Act.put, List.setIfInBounds_toArray, List.set_cons_zero, List.set_cons_succ]) | (refine plan_skip rfl (by decide) (by rfl) ?_; simp only [Act.put, List.setIfInBounds_toArray, List.set_cons_zero, List.set_cons_succ])))
            (refine plan_keep rfl rfl (by rfl) (fun K hK => ?_); go_simp)
            refine (less_any a.src a.crt a.seq a.off a.tot b.src b.crt b.seq b.off b.tot _).mono ?_
            rw [HAB.out]
            rw [d1]
            rintro e wc51 ⟨rfl, hbc51⟩
            (refine hK _ _ (by exact (by repeat' (first | with_reducible (first | refine bset ?_ ?_ | exact Below.refl _ _ | assumption | refine bdrewN ?_ _ | refine bdrew ?_ | refine balloc0 ?_ | refine balloc ?_ ?_ | (apply btrans0; rotate_left; assumption) | (apply btrans; rotate_left; assumption)) | exact Below.refl _ _ | assumption | (apply btrans0; rotate_left; assumption) | (apply btrans; rotate_left; assumption) | (simp; done) | omega | (simp; omega)))) ?_; clear hK K; (try simp only [Act.put, List.setIfInBounds_toArray, List.set_cons_zero, List.set_cons_succ]))
            (iterate 3 (first | (refine plan_held rfl (by decide) (by rfl) (fun w1 hS => by (try (obtain ⟨_, _⟩ := bcell (hS rfl))); go_simp; rfl) ?_; simp only [Act.put, List.setIfInBounds_toArray, List.set_cons_zero, List.set_cons_succ]) | (refine plan_skip rfl (by decide) (by rfl) ?_; simp only [Act.put, List.setIfInBounds_toArray, List.set_cons_zero, List.set_cons_succ])))
            (refine plan_keep rfl rfl (by rfl) (fun K hK => ?_); go_simp)
            refine (less_any b.src b.crt b.seq b.off b.tot a.src a.crt a.seq a.off a.tot _).mono ?_
            rw [HBA.out]
            rw [d2]
            rintro e wc55 ⟨rfl, hbc55⟩
            (refine hK _ _ (by exact (by repeat' (first | with_reducible (first | refine bset ?_ ?_ | exact Below.refl _ _ | assumption | refine bdrewN ?_ _ | refine bdrew ?_ | refine balloc0 ?_ | refine balloc ?_ ?_ | (apply btrans0; rotate_left; assumption) | (apply btrans; rotate_left; assumption)) | exact Below.refl _ _ | assumption | (apply btrans0; rotate_left; assumption) | (apply btrans; rotate_left; assumption) | (simp; done) | omega | (simp; omega)))) ?_; clear hK K; (try simp only [Act.put, List.setIfInBounds_toArray, List.set_cons_zero, List.set_cons_succ]))
            (iterate 5 (first | (refine plan_held rfl (by decide) (by rfl) (fun w1 hS => by (try (obtain ⟨_, _⟩ := bcell (hS rfl))); go_simp; rfl) ?_; simp only [Act.put, List.setIfInBounds_toArray, List.set_cons_zero, List.set_cons_succ]) | (refine plan_skip rfl (by decide) (by rfl) ?_; simp only [Act.put, List.setIfInBounds_toArray, List.set_cons_zero, List.set_cons_succ])))
            (refine plan_keep rfl rfl (by rfl) (fun K hK => ?_); go_simp)
            refine (less_any a.src a.crt a.seq a.off a.tot b.src b.crt b.seq b.off b.tot _).mono ?_
            rw [HAB.out]
            rw [d1]
            rintro e wc61 ⟨rfl, hbc61⟩
            (refine hK _ _ (by exact (by repeat' (first | with_reducible (first | refine bset ?_ ?_ | exact Below.refl _ _ | assumption | refine bdrewN ?_ _ | refine bdrew ?_ | refine balloc0 ?_ | refine balloc ?_ ?_ | (apply btrans0; rotate_left; assumption) | (apply btrans; rotate_left; assumption)) | exact Below.refl _ _ | assumption | (apply btrans0; rotate_left; assumption) | (apply btrans; rotate_left; assumption) | (simp; done) | omega | (simp; omega)))) ?_; clear hK K; (try simp only [Act.put, List.setIfInBounds_toArray, List.set_cons_zero, List.set_cons_succ]))
            (iterate 3 (first | (refine plan_held rfl (by decide) (by rfl) (fun w1 hS => by (try (obtain ⟨_, _⟩ := bcell (hS rfl))); go_simp; rfl) ?_; simp only [Act.put, List.setIfInBounds_toArray, List.set_cons_zero, List.set_cons_succ]) | (refine plan_skip rfl (by decide) (by rfl) ?_; simp only [Act.put, List.setIfInBounds_toArray, List.set_cons_zero, List.set_cons_succ])))
            (refine plan_keep rfl rfl (by rfl) (fun K hK => ?_); go_simp)
            refine (less_any b.src b.crt b.seq b.off b.tot c.src c.crt c.seq c.off c.tot _).mono ?_
            rw [HBC.out]
            rw [d3]
            rintro e wc65 ⟨rfl, hbc65⟩
            (refine hK _ _ (by exact (by repeat' (first | with_reducible (first | refine bset ?_ ?_ | exact Below.refl _ _ | assumption | refine bdrewN ?_ _ | refine bdrew ?_ | refine balloc0 ?_ | refine balloc ?_ ?_ | (apply btrans0; rotate_left; assumption) | (apply btrans; rotate_left; assumption)) | exact Below.refl _ _ | assumption | (apply btrans0; rotate_left; assumption) | (apply btrans; rotate_left; assumption) | (simp; done) | omega | (simp; omega)))) ?_; clear hK K; (try simp only [Act.put, List.setIfInBounds_toArray, List.set_cons_zero, List.set_cons_succ]))
            (iterate 4 (first | (refine plan_held rfl (by decide) (by rfl) (fun w1 hS => by (try (obtain ⟨_, _⟩ := bcell (hS rfl))); go_simp; rfl) ?_; simp only [Act.put, List.setIfInBounds_toArray, List.set_cons_zero, List.set_cons_succ]) | (refine plan_skip rfl (by decide) (by rfl) ?_; simp only [Act.put, List.setIfInBounds_toArray, List.set_cons_zero, List.set_cons_succ])))
            (refine plan_skipL rfl (by decide) (by rfl) ?_; simp only [Act.put, List.setIfInBounds_toArray, List.set_cons_zero, List.set_cons_succ])
            (iterate 3 (first | (refine plan_held rfl (by decide) (by rfl) (fun w1 hS => by (try (obtain ⟨_, _⟩ := bcell (hS rfl))); go_simp; rfl) ?_; simp only [Act.put, List.setIfInBounds_toArray, List.set_cons_zero, List.set_cons_succ]) | (refine plan_skip rfl (by decide) (by rfl) ?_; simp only [Act.put, List.setIfInBounds_toArray, List.set_cons_zero, List.set_cons_succ])))
            refine plan_done ?_
            go_wp2_with fail
            go_meet
            exact ⟨rfl, rfl, rfl, rfl, (by repeat' (first | with_reducible (first | refine bset ?_ ?_ | exact Below.refl _ _ | assumption | refine bdrewN ?_ _ | refine bdrew ?_ | refine balloc0 ?_ | refine balloc ?_ ?_ | (apply btrans0; rotate_left; assumption) | (apply btrans; rotate_left; assumption)) | exact Below.refl _ _ | assumption | (apply btrans0; rotate_left; assumption) | (apply btrans; rotate_left; assumption) | (simp; done) | omega | (simp; omega)))⟩
      · have d1 : decide (p1 < 0) = false := by rw [e1]; decide
        have d2 : decide (-p1 < 0) = false := by rw [e1]; decide
        have hq := HEQ.out
        rw [HEP.out, e1] at hq
        rw [show decide ((0 : Int) = 0) = true by decide] at hq
        clear e1
        as_aux_lemma =>
          refine wp_region_plan (fun V => Below (w4).heap.size (w4) V) [1, 1, 2, 0, 1, 1, 0, 1, 1, 2, 0, 1, 1, 2, 0, 0, 0, 0, 1, 1, 2, 0, 1, 1, 2, 0, 0, 0, 1, 1, 2, 0, 1, 1, 2, 0, 0, 1, 1, 3, 0, 0, 0] [0, 1, 2, 3, 4, 5, 6, 7, 8, 9, 10, 11, 12, 13, 14, 15, 16, 17, 18, 19, 20, 21, 22, 23, 24, 25, 26, 27, 28, 29, 30, 31, 32, 33, 34, 35, 36, 37, 38, 39, 40, 41, 42] (by kernel_rfl) (by kernel_rfl) ?_ ?_
          case refine_1 => exact (by repeat' (first | with_reducible (first | refine bset ?_ ?_ | exact Below.refl _ _ | assumption | refine bdrewN ?_ _ | refine bdrew ?_ | refine balloc0 ?_ | refine balloc ?_ ?_ | (apply btrans0; rotate_left; assumption) | (apply btrans; rotate_left; assumption)) | exact Below.refl _ _ | assumption | (apply btrans0; rotate_left; assumption) | (apply btrans; rotate_left; assumption) | (simp; done) | omega | (simp; omega)))
          (iterate 2 (first | (refine plan_held rfl (by decide) (by rfl) (fun w1 hS => by (try (obtain ⟨_, _⟩ := bcell (hS rfl))); go_simp; rfl) ?_; simp only [Act.put, List.setIfInBounds_toArray, List.set_cons_zero, List.set_cons_succ]) | (refine plan_skip rfl (by decide) (by rfl) ?_; simp only [Act.put, List.setIfInBounds_toArray, List.set_cons_zero, List.set_cons_succ])))
          (refine plan_keep rfl rfl (by rfl) (fun K hK => ?_); go_simp)
          refine (less_any a.src a.crt a.seq a.off a.tot a.src a.crt a.seq a.off a.tot _).mono ?_
          rw [HAA.out]
          rw [d0]
          rintro e wc33 ⟨rfl, hbc33⟩
          (refine hK _ _ (by exact (by repeat' (first | with_reducible (first | refine bset ?_ ?_ | exact Below.refl _ _ | assumption | refine bdrewN ?_ _ | refine bdrew ?_ | refine balloc0 ?_ | refine balloc ?_ ?_ | (apply btrans0; rotate_left; assumption) | (apply btrans; rotate_left; assumption)) | exact Below.refl _ _ | assumption | (apply btrans0; rotate_left; assumption) | (apply btrans; rotate_left; assumption) | (simp; done) | omega | (simp; omega)))) ?_; clear hK K; (try simp only [Act.put, List.setIfInBounds_toArray, List.set_cons_zero, List.set_cons_succ]))
          (iterate 6 (first | (refine plan_held rfl (by decide) (by rfl) (fun w1 hS => by (try (obtain ⟨_, _⟩ := bcell (hS rfl))); go_simp; rfl) ?_; simp only [Act.put, List.setIfInBounds_toArray, List.set_cons_zero, List.set_cons_succ]) | (refine plan_skip rfl (by decide) (by rfl) ?_; simp only [Act.put, List.setIfInBounds_toArray, List.set_cons_zero, List.set_cons_succ])))
          (refine plan_keep rfl rfl (by rfl) (fun K hK => ?_); go_simp)
          refine (less_any a.src a.crt a.seq a.off a.tot b.src b.crt b.seq b.off b.tot _).mono ?_
          rw [HAB.out]
          rw [d1]
          rintro e wc40 ⟨rfl, hbc40⟩
          (refine hK _ _ (by exact (by repeat' (first | with_reducible (first | refine bset ?_ ?_ | exact Below.refl _ _ | assumption | refine bdrewN ?_ _ | refine bdrew ?_ | refine balloc0 ?_ | refine balloc ?_ ?_ | (apply btrans0; rotate_left; assumption) | (apply btrans; rotate_left; assumption)) | exact Below.refl _ _ | assumption | (apply btrans0; rotate_left; assumption) | (apply btrans; rotate_left; assumption) | (simp; done) | omega | (simp; omega)))) ?_; clear hK K; (try simp only [Act.put, List.setIfInBounds_toArray, List.set_cons_zero, List.set_cons_succ]))
          (iterate 3 (first | (refine plan_held rfl (by decide) (by rfl) (fun w1 hS => by (try (obtain ⟨_, _⟩ := bcell (hS rfl))); go_simp; rfl) ?_; simp only [Act.put, List.setIfInBounds_toArray, List.set_cons_zero, List.set_cons_succ]) | (refine plan_skip rfl (by decide) (by rfl) ?_; simp only [Act.put, List.setIfInBounds_toArray, List.set_cons_zero, List.set_cons_succ])))
          (refine plan_keep rfl rfl (by rfl) (fun K hK => ?_); go_simp)
          refine (less_any b.src b.crt b.seq b.off b.tot a.src a.crt a.seq a.off a.tot _).mono ?_
          rw [HBA.out]
          rw [d2]
          rintro e wc44 ⟨rfl, hbc44⟩
          (refine hK _ _ (by exact (by repeat' (first | with_reducible (first | refine bset ?_ ?_ | exact Below.refl _ _ | assumption | refine bdrewN ?_ _ | refine bdrew ?_ | refine balloc0 ?_ | refine balloc ?_ ?_ | (apply btrans0; rotate_left; assumption) | (apply btrans; rotate_left; assumption)) | exact Below.refl _ _ | assumption | (apply btrans0; rotate_left; assumption) | (apply btrans; rotate_left; assumption) | (simp; done) | omega | (simp; omega)))) ?_; clear hK K; (try simp only [Act.put, List.setIfInBounds_toArray, List.set_cons_zero, List.set_cons_succ]))
          (iterate 6 (first | (refine plan_held rfl (by decide) (by rfl) (fun w1 hS => by (try (obtain ⟨_, _⟩ := bcell (hS rfl))); go_simp; rfl) ?_; simp only [Act.put, List.setIfInBounds_toArray, List.set_cons_zero, List.set_cons_succ]) | (refine plan_skip rfl (by decide) (by rfl) ?_; simp only [Act.put, List.setIfInBounds_toArray, List.set_cons_zero, List.set_cons_succ])))
          (refine plan_keep rfl rfl (by rfl) (fun K hK => ?_); go_simp)
          refine (less_any a.src a.crt a.seq a.off a.tot b.src b.crt b.seq b.off b.tot _).mono ?_
          rw [HAB.out]
          rw [d1]
          rintro e wc51 ⟨rfl, hbc51⟩
          (refine hK _ _ (by exact (by repeat' (first | with_reducible (first | refine bset ?_ ?_ | exact Below.refl _ _ | assumption | refine bdrewN ?_ _ | refine bdrew ?_ | refine balloc0 ?_ | refine balloc ?_ ?_ | (apply btrans0; rotate_left; assumption) | (apply btrans; rotate_left; assumption)) | exact Below.refl _ _ | assumption | (apply btrans0; rotate_left; assumption) | (apply btrans; rotate_left; assumption) | (simp; done) | omega | (simp; omega)))) ?_; clear hK K; (try simp only [Act.put, List.setIfInBounds_toArray, List.set_cons_zero, List.set_cons_succ]))
          (iterate 3 (first | (refine plan_held rfl (by decide) (by rfl) (fun w1 hS => by (try (obtain ⟨_, _⟩ := bcell (hS rfl))); go_simp; rfl) ?_; simp only [Act.put, List.setIfInBounds_toArray, List.set_cons_zero, List.set_cons_succ]) | (refine plan_skip rfl (by decide) (by rfl) ?_; simp only [Act.put, List.setIfInBounds_toArray, List.set_cons_zero, List.set_cons_succ])))
          (refine plan_skipK rfl (by decide) (by rfl) (by repeat' (first | with_reducible (first | refine bset ?_ ?_ | exact Below.refl _ _ | assumption | refine bdrewN ?_ _ | refine bdrew ?_ | refine balloc0 ?_ | refine balloc ?_ ?_ | (apply btrans0; rotate_left; assumption) | (apply btrans; rotate_left; assumption)) | exact Below.refl _ _ | assumption | (apply btrans0; rotate_left; assumption) | (apply btrans; rotate_left; assumption) | (simp; done) | omega | (simp; omega))) ?_; simp only [Act.put, List.setIfInBounds_toArray, List.set_cons_zero, List.set_cons_succ])
          (iterate 5 (first | (refine plan_held rfl (by decide) (by rfl) (fun w1 hS => by (try (obtain ⟨_, _⟩ := bcell (hS rfl))); go_simp; rfl) ?_; simp only [Act.put, List.setIfInBounds_toArray, List.set_cons_zero, List.set_cons_succ]) | (refine plan_skip rfl (by decide) (by rfl) ?_; simp only [Act.put, List.setIfInBounds_toArray, List.set_cons_zero, List.set_cons_succ])))
          (refine plan_keep rfl rfl (by rfl) (fun K hK => ?_); go_simp)
          refine (less_any a.src a.crt a.seq a.off a.tot b.src b.crt b.seq b.off b.tot _).mono ?_
          rw [HAB.out]
          rw [d1]
          rintro e wc61 ⟨rfl, hbc61⟩
          (refine hK _ _ (by exact (by repeat' (first | with_reducible (first | refine bset ?_ ?_ | exact Below.refl _ _ | assumption | refine bdrewN ?_ _ | refine bdrew ?_ | refine balloc0 ?_ | refine balloc ?_ ?_ | (apply btrans0; rotate_left; assumption) | (apply btrans; rotate_left; assumption)) | exact Below.refl _ _ | assumption | (apply btrans0; rotate_left; assumption) | (apply btrans; rotate_left; assumption) | (simp; done) | omega | (simp; omega)))) ?_; clear hK K; (try simp only [Act.put, List.setIfInBounds_toArray, List.set_cons_zero, List.set_cons_succ]))
          (iterate 3 (first | (refine plan_held rfl (by decide) (by rfl) (fun w1 hS => by (try (obtain ⟨_, _⟩ := bcell (hS rfl))); go_simp; rfl) ?_; simp only [Act.put, List.setIfInBounds_toArray, List.set_cons_zero, List.set_cons_succ]) | (refine plan_skip rfl (by decide) (by rfl) ?_; simp only [Act.put, List.setIfInBounds_toArray, List.set_cons_zero, List.set_cons_succ])))
          (refine plan_skipK rfl (by decide) (by rfl) (by repeat' (first | with_reducible (first | refine bset ?_ ?_ | exact Below.refl _ _ | assumption | refine bdrewN ?_ _ | refine bdrew ?_ | refine balloc0 ?_ | refine balloc ?_ ?_ | (apply btrans0; rotate_left; assumption) | (apply btrans; rotate_left; assumption)) | exact Below.refl _ _ | assumption | (apply btrans0; rotate_left; assumption) | (apply btrans; rotate_left; assumption) | (simp; done) | omega | (simp; omega))) ?_; simp only [Act.put, List.setIfInBounds_toArray, List.set_cons_zero, List.set_cons_succ])
          (iterate 4 (first | (refine plan_held rfl (by decide) (by rfl) (fun w1 hS => by (try (obtain ⟨_, _⟩ := bcell (hS rfl))); go_simp; rfl) ?_; simp only [Act.put, List.setIfInBounds_toArray, List.set_cons_zero, List.set_cons_succ]) | (refine plan_skip rfl (by decide) (by rfl) ?_; simp only [Act.put, List.setIfInBounds_toArray, List.set_cons_zero, List.set_cons_succ])))
          (refine plan_skipL rfl (by decide) (by rfl) ?_; simp only [Act.put, List.setIfInBounds_toArray, List.set_cons_zero, List.set_cons_succ])
          (iterate 3 (first | (refine plan_held rfl (by decide) (by rfl) (fun w1 hS => by (try (obtain ⟨_, _⟩ := bcell (hS rfl))); go_simp; rfl) ?_; simp only [Act.put, List.setIfInBounds_toArray, List.set_cons_zero, List.set_cons_succ]) | (refine plan_skip rfl (by decide) (by rfl) ?_; simp only [Act.put, List.setIfInBounds_toArray, List.set_cons_zero, List.set_cons_succ])))
          refine plan_done ?_
          go_wp2_with fail
          go_meet
          exact ⟨rfl, rfl, rfl, rfl, (by repeat' (first | with_reducible (first | refine bset ?_ ?_ | exact Below.refl _ _ | assumption | refine bdrewN ?_ _ | refine bdrew ?_ | refine balloc0 ?_ | refine balloc ?_ ?_ | (apply btrans0; rotate_left; assumption) | (apply btrans; rotate_left; assumption)) | exact Below.refl _ _ | assumption | (apply btrans0; rotate_left; assumption) | (apply btrans; rotate_left; assumption) | (simp; done) | omega | (simp; omega)))⟩
      · have d1 : decide (p1 < 0) = false := by rw [e1]; decide
        have d2 : decide (-p1 < 0) = true := by rw [e1]; decide
        have hq := HEQ.out
        rw [HEP.out, e1] at hq
        rw [show decide ((1 : Int) = 0) = false by decide] at hq
        clear e1
        as_aux_lemma =>
          refine wp_region_plan (fun V => Below (w4).heap.size (w4) V) [1, 1, 2, 0, 1, 1, 0, 1, 1, 2, 0, 1, 1, 2, 0, 0, 0, 0, 1, 1, 2, 0, 1, 1, 2, 0, 0, 0, 1, 1, 2, 0, 1, 1, 2, 0, 0, 1, 1, 3, 0, 0, 0] [0, 1, 2, 3, 4, 5, 6, 7, 8, 9, 10, 11, 12, 13, 14, 15, 16, 17, 18, 19, 20, 21, 22, 23, 24, 25, 26, 27, 28, 29, 30, 31, 32, 33, 34, 35, 36, 37, 38, 39, 40, 41, 42] (by kernel_rfl) (by kernel_rfl) ?_ ?_
          case refine_1 => exact (by repeat' (first | with_reducible (first | refine bset ?_ ?_ | exact Below.refl _ _ | assumption | refine bdrewN ?_ _ | refine bdrew ?_ | refine balloc0 ?_ | refine balloc ?_ ?_ | (apply btrans0; rotate_left; assumption) | (apply btrans; rotate_left; assumption)) | exact Below.refl _ _ | assumption | (apply btrans0; rotate_left; assumption) | (apply btrans; rotate_left; assumption) | (simp; done) | omega | (simp; omega)))
          (iterate 2 (first | (refine plan_held rfl (by decide) (by rfl) (fun w1 hS => by (try (obtain ⟨_, _⟩ := bcell (hS rfl))); go_simp; rfl) ?_; simp only [Act.put, List.setIfInBounds_toArray, List.set_cons_zero, List.set_cons_succ]) | (refine plan_skip rfl (by decide) (by rfl) ?_; simp only [Act.put, List.setIfInBounds_toArray, List.set_cons_zero, List.set_cons_succ])))
          (refine plan_keep rfl rfl (by rfl) (fun K hK => ?_); go_simp)
          refine (less_any a.src a.crt a.seq a.off a.tot a.src a.crt a.seq a.off a.tot _).mono ?_
          rw [HAA.out]
          rw [d0]
          rintro e wc33 ⟨rfl, hbc33⟩
          (refine hK _ _ (by exact (by repeat' (first | with_reducible (first | refine bset ?_ ?_ | exact Below.refl _ _ | assumption | refine bdrewN ?_ _ | refine bdrew ?_ | refine balloc0 ?_ | refine balloc ?_ ?_ | (apply btrans0; rotate_left; assumption) | (apply btrans; rotate_left; assumption)) | exact Below.refl _ _ | assumption | (apply btrans0; rotate_left; assumption) | (apply btrans; rotate_left; assumption) | (simp; done) | omega | (simp; omega)))) ?_; clear hK K; (try simp only [Act.put, List.setIfInBounds_toArray, List.set_cons_zero, List.set_cons_succ]))
          (iterate 6 (first | (refine plan_held rfl (by decide) (by rfl) (fun w1 hS => by (try (obtain ⟨_, _⟩ := bcell (hS rfl))); go_simp; rfl) ?_; simp only [Act.put, List.setIfInBounds_toArray, List.set_cons_zero, List.set_cons_succ]) | (refine plan_skip rfl (by decide) (by rfl) ?_; simp only [Act.put, List.setIfInBounds_toArray, List.set_cons_zero, List.set_cons_succ])))
          (refine plan_keep rfl rfl (by rfl) (fun K hK => ?_); go_simp)
          refine (less_any a.src a.crt a.seq a.off a.tot b.src b.crt b.seq b.off b.tot _).mono ?_
          rw [HAB.out]
          rw [d1]
          rintro e wc40 ⟨rfl, hbc40⟩
          (refine hK _ _ (by exact (by repeat' (first | with_reducible (first | refine bset ?_ ?_ | exact Below.refl _ _ | assumption | refine bdrewN ?_ _ | refine bdrew ?_ | refine balloc0 ?_ | refine balloc ?_ ?_ | (apply btrans0; rotate_left; assumption) | (apply btrans; rotate_left; assumption)) | exact Below.refl _ _ | assumption | (apply btrans0; rotate_left; assumption) | (apply btrans; rotate_left; assumption) | (simp; done) | omega | (simp; omega)))) ?_; clear hK K; (try simp only [Act.put, List.setIfInBounds_toArray, List.set_cons_zero, List.set_cons_succ]))
          (iterate 3 (first | (refine plan_held rfl (by decide) (by rfl) (fun w1 hS => by (try (obtain ⟨_, _⟩ := bcell (hS rfl))); go_simp; rfl) ?_; simp only [Act.put, List.setIfInBounds_toArray, List.set_cons_zero, List.set_cons_succ]) | (refine plan_skip rfl (by decide) (by rfl) ?_; simp only [Act.put, List.setIfInBounds_toArray, List.set_cons_zero, List.set_cons_succ])))
          (refine plan_keep rfl rfl (by rfl) (fun K hK => ?_); go_simp)
          refine (less_any b.src b.crt b.seq b.off b.tot a.src a.crt a.seq a.off a.tot _).mono ?_
          rw [HBA.out]
          rw [d2]
          rintro e wc44 ⟨rfl, hbc44⟩
          (refine hK _ _ (by exact (by repeat' (first | with_reducible (first | refine bset ?_ ?_ | exact Below.refl _ _ | assumption | refine bdrewN ?_ _ | refine bdrew ?_ | refine balloc0 ?_ | refine balloc ?_ ?_ | (apply btrans0; rotate_left; assumption) | (apply btrans; rotate_left; assumption)) | exact Below.refl _ _ | assumption | (apply btrans0; rotate_left; assumption) | (apply btrans; rotate_left; assumption) | (simp; done) | omega | (simp; omega)))) ?_; clear hK K; (try simp only [Act.put, List.setIfInBounds_toArray, List.set_cons_zero, List.set_cons_succ]))
          (iterate 6 (first | (refine plan_held rfl (by decide) (by rfl) (fun w1 hS => by (try (obtain ⟨_, _⟩ := bcell (hS rfl))); go_simp; rfl) ?_; simp only [Act.put, List.setIfInBounds_toArray, List.set_cons_zero, List.set_cons_succ]) | (refine plan_skip rfl (by decide) (by rfl) ?_; simp only [Act.put, List.setIfInBounds_toArray, List.set_cons_zero, List.set_cons_succ])))
          (refine plan_keep rfl rfl (by rfl) (fun K hK => ?_); go_simp)
          refine (less_any a.src a.crt a.seq a.off a.tot b.src b.crt b.seq b.off b.tot _).mono ?_
          rw [HAB.out]
          rw [d1]
          rintro e wc51 ⟨rfl, hbc51⟩
          (refine hK _ _ (by exact (by repeat' (first | with_reducible (first | refine bset ?_ ?_ | exact Below.refl _ _ | assumption | refine bdrewN ?_ _ | refine bdrew ?_ | refine balloc0 ?_ | refine balloc ?_ ?_ | (apply btrans0; rotate_left; assumption) | (apply btrans; rotate_left; assumption)) | exact Below.refl _ _ | assumption | (apply btrans0; rotate_left; assumption) | (apply btrans; rotate_left; assumption) | (simp; done) | omega | (simp; omega)))) ?_; clear hK K; (try simp only [Act.put, List.setIfInBounds_toArray, List.set_cons_zero, List.set_cons_succ]))
          (iterate 3 (first | (refine plan_held rfl (by decide) (by rfl) (fun w1 hS => by (try (obtain ⟨_, _⟩ := bcell (hS rfl))); go_simp; rfl) ?_; simp only [Act.put, List.setIfInBounds_toArray, List.set_cons_zero, List.set_cons_succ]) | (refine plan_skip rfl (by decide) (by rfl) ?_; simp only [Act.put, List.setIfInBounds_toArray, List.set_cons_zero, List.set_cons_succ])))
          (refine plan_skipK rfl (by decide) (by rfl) (by repeat' (first | with_reducible (first | refine bset ?_ ?_ | exact Below.refl _ _ | assumption | refine bdrewN ?_ _ | refine bdrew ?_ | refine balloc0 ?_ | refine balloc ?_ ?_ | (apply btrans0; rotate_left; assumption) | (apply btrans; rotate_left; assumption)) | exact Below.refl _ _ | assumption | (apply btrans0; rotate_left; assumption) | (apply btrans; rotate_left; assumption) | (simp; done) | omega | (simp; omega))) ?_; simp only [Act.put, List.setIfInBounds_toArray, List.set_cons_zero, List.set_cons_succ])
          (iterate 5 (first | (refine plan_held rfl (by decide) (by rfl) (fun w1 hS => by (try (obtain ⟨_, _⟩ := bcell (hS rfl))); go_simp; rfl) ?_; simp only [Act.put, List.setIfInBounds_toArray, List.set_cons_zero, List.set_cons_succ]) | (refine plan_skip rfl (by decide) (by rfl) ?_; simp only [Act.put, List.setIfInBounds_toArray, List.set_cons_zero, List.set_cons_succ])))
          (refine plan_keep rfl rfl (by rfl) (fun K hK => ?_); go_simp)
          refine (less_any a.src a.crt a.seq a.off a.tot b.src b.crt b.seq b.off b.tot _).mono ?_
          rw [HAB.out]
          rw [d1]
          rintro e wc61 ⟨rfl, hbc61⟩
          (refine hK _ _ (by exact (by repeat' (first | with_reducible (first | refine bset ?_ ?_ | exact Below.refl _ _ | assumption | refine bdrewN ?_ _ | refine bdrew ?_ | refine balloc0 ?_ | refine balloc ?_ ?_ | (apply btrans0; rotate_left; assumption) | (apply btrans; rotate_left; assumption)) | exact Below.refl _ _ | assumption | (apply btrans0; rotate_left; assumption) | (apply btrans; rotate_left; assumption) | (simp; done) | omega | (simp; omega)))) ?_; clear hK K; (try simp only [Act.put, List.setIfInBounds_toArray, List.set_cons_zero, List.set_cons_succ]))
          (iterate 3 (first | (refine plan_held rfl (by decide) (by rfl) (fun w1 hS => by (try (obtain ⟨_, _⟩ := bcell (hS rfl))); go_simp; rfl) ?_; simp only [Act.put, List.setIfInBounds_toArray, List.set_cons_zero, List.set_cons_succ]) | (refine plan_skip rfl (by decide) (by rfl) ?_; simp only [Act.put, List.setIfInBounds_toArray, List.set_cons_zero, List.set_cons_succ])))
          (refine plan_skipK rfl (by decide) (by rfl) (by repeat' (first | with_reducible (first | refine bset ?_ ?_ | exact Below.refl _ _ | assumption | refine bdrewN ?_ _ | refine bdrew ?_ | refine balloc0 ?_ | refine balloc ?_ ?_ | (apply btrans0; rotate_left; assumption) | (apply btrans; rotate_left; assumption)) | exact Below.refl _ _ | assumption | (apply btrans0; rotate_left; assumption) | (apply btrans; rotate_left; assumption) | (simp; done) | omega | (simp; omega))) ?_; simp only [Act.put, List.setIfInBounds_toArray, List.set_cons_zero, List.set_cons_succ])
          (iterate 4 (first | (refine plan_held rfl (by decide) (by rfl) (fun w1 hS => by (try (obtain ⟨_, _⟩ := bcell (hS rfl))); go_simp; rfl) ?_; simp only [Act.put, List.setIfInBounds_toArray, List.set_cons_zero, List.set_cons_succ]) | (refine plan_skip rfl (by decide) (by rfl) ?_; simp only [Act.put, List.setIfInBounds_toArray, List.set_cons_zero, List.set_cons_succ])))
          (refine plan_skipL rfl (by decide) (by rfl) ?_; simp only [Act.put, List.setIfInBounds_toArray, List.set_cons_zero, List.set_cons_succ])
          (iterate 3 (first | (refine plan_held rfl (by decide) (by rfl) (fun w1 hS => by (try (obtain ⟨_, _⟩ := bcell (hS rfl))); go_simp; rfl) ?_; simp only [Act.put, List.setIfInBounds_toArray, List.set_cons_zero, List.set_cons_succ]) | (refine plan_skip rfl (by decide) (by rfl) ?_; simp only [Act.put, List.setIfInBounds_toArray, List.set_cons_zero, List.set_cons_succ])))
          refine plan_done ?_
          go_wp2_with fail
          go_meet
          exact ⟨rfl, rfl, rfl, rfl, (by repeat' (first | with_reducible (first | refine bset ?_ ?_ | exact Below.refl _ _ | assumption | refine bdrewN ?_ _ | refine bdrew ?_ | refine balloc0 ?_ | refine balloc ?_ ?_ | (apply btrans0; rotate_left; assumption) | (apply btrans; rotate_left; assumption)) | exact Below.refl _ _ | assumption | (apply btrans0; rotate_left; assumption) | (apply btrans; rotate_left; assumption) | (simp; done) | omega | (simp; omega)))⟩
    case rest =>
      obtain ⟨rfl, rfl, rfl, rfl, hBx⟩ := hcut
      obtain ⟨w5, rfl⟩ : ∃ q, q = wc := ⟨_, rfl⟩
      have b5 := hBx
      have hB5 : Below w.heap.size w w5 := btrans0 hB4 b5
      clear ca cb cc cp cq cr
      have y5 := b5.size
      have za5 : w.heap.size < w5.heap.size := by omega
      have zb5 : w.heap.size + 1 < w5.heap.size := by omega
      have zc5 : w.heap.size + 1 + 1 < w5.heap.size := by omega
      have zp5 : p < w5.heap.size := by omega
      have zq5 : q < w5.heap.size := by omega
      have zr5 : r < w5.heap.size := by omega
      have HAa5 := Lib.hid ((b5.block _ (by omega)).trans HAa4.out)
      have HAb5 := Lib.hid ((b5.block _ (by omega)).trans HAb4.out)
      have HAc5 := Lib.hid ((b5.block _ (by omega)).trans HAc4.out)
      have HP5 := Lib.hid ((b5.block _ (by omega)).trans HP4.out)
      have HQ5 := Lib.hid ((b5.block _ (by omega)).trans HQ4.out)
      have HS5 := Lib.hid ((b5.block _ (by omega)).trans HS4.out)
      have ca := fun o => cellB HAa5.out o
      (try simp only [bunC] at ca)
      have cb := fun o => cellB HAb5.out o
      (try simp only [bunC] at cb)
      have cc := fun o => cellB HAc5.out o
      (try simp only [bunC] at cc)
      have cp := fun o => cellB HP5.out o
      simp only [idC] at cp
      have cq := fun o => cellB HQ5.out o
      simp only [idC] at cq
      by_cases va : chkE a = 0
      case neg =>
        obtain ⟨E, hE⟩ : ∃ q, chkE a = q := ⟨_, rfl⟩
        rw [hE] at va
        have HE := Lib.hid hE
        have z' : (E != 0) = true := by rw [bne_iff_ne]; exact va
        clear va hE
        go_wp2_with fail
        refine (check_any a _ _ (HR.out.below' hB5) HF.out).mono ?_
        rw [HE.out]
        rintro e w6 ⟨rfl, hb6⟩
        have b6 : Below w5.heap.size w5 w6 := hb6
        have hB6 : Below w.heap.size w w6 := btrans0 hB5 b6
        clear ca cb cc cp cq
        have y6 := b6.size
        have HAa6 := Lib.hid ((b6.block _ (by omega)).trans HAa5.out)
        have HAb6 := Lib.hid ((b6.block _ (by omega)).trans HAb5.out)
        have HAc6 := Lib.hid ((b6.block _ (by omega)).trans HAc5.out)
        have HP6 := Lib.hid ((b6.block _ (by omega)).trans HP5.out)
        have HQ6 := Lib.hid ((b6.block _ (by omega)).trans HQ5.out)
        have HS6 := Lib.hid ((b6.block _ (by omega)).trans HS5.out)
        have ca := fun o => cellB HAa6.out o
        (try simp only [bunC] at ca)
        have cb := fun o => cellB HAb6.out o
        (try simp only [bunC] at cb)
        have cc := fun o => cellB HAc6.out o
        (try simp only [bunC] at cc)
        have cp := fun o => cellB HP6.out o
        simp only [idC] at cp
        have cq := fun o => cellB HQ6.out o
        simp only [idC] at cq
        go_wp2_with fail
        refine (awake_any _).mono ?_
        rintro e w99 ⟨rfl, hb99⟩
        go_wp2
        go_ret
        exact ⟨rfl, (by repeat' (first | with_reducible (first | refine bset ?_ ?_ | exact Below.refl _ _ | assumption | refine bdrewN ?_ _ | refine bdrew ?_ | refine balloc0 ?_ | refine balloc ?_ ?_ | (apply btrans0; rotate_left; assumption) | (apply btrans; rotate_left; assumption)) | exact Below.refl _ _ | assumption | (apply btrans0; rotate_left; assumption) | (apply btrans; rotate_left; assumption) | (simp; done) | omega | (simp; omega)))⟩
      have VA := Lib.hid va
      by_cases vb : chkE b = 0
      case neg =>
        obtain ⟨E, hE⟩ : ∃ q, chkE b = q := ⟨_, rfl⟩
        rw [hE] at vb
        have HE := Lib.hid hE
        have z' : (E != 0) = true := by rw [bne_iff_ne]; exact vb
        clear vb va hE
        go_wp2_with fail
        refine (check_any a _ _ (HR.out.below' hB5) HF.out).mono ?_
        rw [VA.out]
        rintro e w6 ⟨rfl, hb6⟩
        have b6 : Below w5.heap.size w5 w6 := hb6
        have hB6 : Below w.heap.size w w6 := btrans0 hB5 b6
        clear ca cb cc cp cq
        have y6 := b6.size
        have HAa6 := Lib.hid ((b6.block _ (by omega)).trans HAa5.out)
        have HAb6 := Lib.hid ((b6.block _ (by omega)).trans HAb5.out)
        have HAc6 := Lib.hid ((b6.block _ (by omega)).trans HAc5.out)
        have HP6 := Lib.hid ((b6.block _ (by omega)).trans HP5.out)
        have HQ6 := Lib.hid ((b6.block _ (by omega)).trans HQ5.out)
        have HS6 := Lib.hid ((b6.block _ (by omega)).trans HS5.out)
        have ca := fun o => cellB HAa6.out o
        (try simp only [bunC] at ca)
        have cb := fun o => cellB HAb6.out o
        (try simp only [bunC] at cb)
        have cc := fun o => cellB HAc6.out o
        (try simp only [bunC] at cc)
        have cp := fun o => cellB HP6.out o
        simp only [idC] at cp
        have cq := fun o => cellB HQ6.out o
        simp only [idC] at cq
        go_wp2_with fail
        refine (check_any b _ _ (KR.out.below' hB6) KF.out).mono ?_
        rw [HE.out]
        rintro e w7 ⟨rfl, hb7⟩
        have b7 : Below w6.heap.size w6 w7 := hb7
        have hB7 : Below w.heap.size w w7 := btrans0 hB6 b7
        clear ca cb cc cp cq
        have y7 := b7.size
        have HAa7 := Lib.hid ((b7.block _ (by omega)).trans HAa6.out)
        have HAb7 := Lib.hid ((b7.block _ (by omega)).trans HAb6.out)
        have HAc7 := Lib.hid ((b7.block _ (by omega)).trans HAc6.out)
        have HP7 := Lib.hid ((b7.block _ (by omega)).trans HP6.out)
        have HQ7 := Lib.hid ((b7.block _ (by omega)).trans HQ6.out)
        have HS7 := Lib.hid ((b7.block _ (by omega)).trans HS6.out)
        have ca := fun o => cellB HAa7.out o
        (try simp only [bunC] at ca)
        have cb := fun o => cellB HAb7.out o
        (try simp only [bunC] at cb)
        have cc := fun o => cellB HAc7.out o
        (try simp only [bunC] at cc)
        have cp := fun o => cellB HP7.out o
        simp only [idC] at cp
        have cq := fun o => cellB HQ7.out o
        simp only [idC] at cq
        go_wp2_with fail
        refine (awake_any _).mono ?_
        rintro e w99 ⟨rfl, hb99⟩
        go_wp2
        go_ret
        exact ⟨rfl, (by repeat' (first | with_reducible (first | refine bset ?_ ?_ | exact Below.refl _ _ | assumption | refine bdrewN ?_ _ | refine bdrew ?_ | refine balloc0 ?_ | refine balloc ?_ ?_ | (apply btrans0; rotate_left; assumption) | (apply btrans; rotate_left; assumption)) | exact Below.refl _ _ | assumption | (apply btrans0; rotate_left; assumption) | (apply btrans; rotate_left; assumption) | (simp; done) | omega | (simp; omega)))⟩
      have VB := Lib.hid vb
      by_cases vc' : chkE c = 0
      case neg =>
        obtain ⟨E, hE⟩ : ∃ q, chkE c = q := ⟨_, rfl⟩
        rw [hE] at vc'
        have HE := Lib.hid hE
        have z' : (E != 0) = true := by rw [bne_iff_ne]; exact vc'
        clear vc' va vb hE
        go_wp2_with fail
        refine (check_any a _ _ (HR.out.below' hB5) HF.out).mono ?_
        rw [VA.out]
        rintro e w6 ⟨rfl, hb6⟩
        have b6 : Below w5.heap.size w5 w6 := hb6
        have hB6 : Below w.heap.size w w6 := btrans0 hB5 b6
        clear ca cb cc cp cq
        have y6 := b6.size
        have HAa6 := Lib.hid ((b6.block _ (by omega)).trans HAa5.out)
        have HAb6 := Lib.hid ((b6.block _ (by omega)).trans HAb5.out)
        have HAc6 := Lib.hid ((b6.block _ (by omega)).trans HAc5.out)
        have HP6 := Lib.hid ((b6.block _ (by omega)).trans HP5.out)
        have HQ6 := Lib.hid ((b6.block _ (by omega)).trans HQ5.out)
        have HS6 := Lib.hid ((b6.block _ (by omega)).trans HS5.out)
        have ca := fun o => cellB HAa6.out o
        (try simp only [bunC] at ca)
        have cb := fun o => cellB HAb6.out o
        (try simp only [bunC] at cb)
        have cc := fun o => cellB HAc6.out o
        (try simp only [bunC] at cc)
        have cp := fun o => cellB HP6.out o
        simp only [idC] at cp
        have cq := fun o => cellB HQ6.out o
        simp only [idC] at cq
        go_wp2_with fail
        refine (check_any b _ _ (KR.out.below' hB6) KF.out).mono ?_
        rw [VB.out]
        rintro e w7 ⟨rfl, hb7⟩
        have b7 : Below w6.heap.size w6 w7 := hb7
        have hB7 : Below w.heap.size w w7 := btrans0 hB6 b7
        clear ca cb cc cp cq
        have y7 := b7.size
        have HAa7 := Lib.hid ((b7.block _ (by omega)).trans HAa6.out)
        have HAb7 := Lib.hid ((b7.block _ (by omega)).trans HAb6.out)
        have HAc7 := Lib.hid ((b7.block _ (by omega)).trans HAc6.out)
        have HP7 := Lib.hid ((b7.block _ (by omega)).trans HP6.out)
        have HQ7 := Lib.hid ((b7.block _ (by omega)).trans HQ6.out)
        have HS7 := Lib.hid ((b7.block _ (by omega)).trans HS6.out)
        have ca := fun o => cellB HAa7.out o
        (try simp only [bunC] at ca)
        have cb := fun o => cellB HAb7.out o
        (try simp only [bunC] at cb)
        have cc := fun o => cellB HAc7.out o
        (try simp only [bunC] at cc)
        have cp := fun o => cellB HP7.out o
        simp only [idC] at cp
        have cq := fun o => cellB HQ7.out o
        simp only [idC] at cq
        go_wp2_with fail
        refine (check_any c _ _ (LR.out.below' hB7) LF.out).mono ?_
        rw [HE.out]
        rintro e w8 ⟨rfl, hb8⟩
        have b8 : Below w7.heap.size w7 w8 := hb8
        have hB8 : Below w.heap.size w w8 := btrans0 hB7 b8
        clear ca cb cc cp cq
        have y8 := b8.size
        have HAa8 := Lib.hid ((b8.block _ (by omega)).trans HAa7.out)
        have HAb8 := Lib.hid ((b8.block _ (by omega)).trans HAb7.out)
        have HAc8 := Lib.hid ((b8.block _ (by omega)).trans HAc7.out)
        have HP8 := Lib.hid ((b8.block _ (by omega)).trans HP7.out)
        have HQ8 := Lib.hid ((b8.block _ (by omega)).trans HQ7.out)
        have HS8 := Lib.hid ((b8.block _ (by omega)).trans HS7.out)
        have ca := fun o => cellB HAa8.out o
        (try simp only [bunC] at ca)
        have cb := fun o => cellB HAb8.out o
        (try simp only [bunC] at cb)
        have cc := fun o => cellB HAc8.out o
        (try simp only [bunC] at cc)
        have cp := fun o => cellB HP8.out o
        simp only [idC] at cp
        have cq := fun o => cellB HQ8.out o
        simp only [idC] at cq
        go_wp2_with fail
        refine (awake_any _).mono ?_
        rintro e w99 ⟨rfl, hb99⟩
        go_wp2
        go_ret
        exact ⟨rfl, (by repeat' (first | with_reducible (first | refine bset ?_ ?_ | exact Below.refl _ _ | assumption | refine bdrewN ?_ _ | refine bdrew ?_ | refine balloc0 ?_ | refine balloc ?_ ?_ | (apply btrans0; rotate_left; assumption) | (apply btrans; rotate_left; assumption)) | exact Below.refl _ _ | assumption | (apply btrans0; rotate_left; assumption) | (apply btrans; rotate_left; assumption) | (simp; done) | omega | (simp; omega)))⟩
      have VC := Lib.hid vc'
      have hid := of_decide_eq_true (chkE_zero va).1
      have off0 : 0 ≤ a.off := by omega
      obtain ⟨k, hk⟩ : ∃ q, cmpS a b = q := ⟨_, rfl⟩
      obtain ⟨l, hl⟩ : ∃ q, cmpS b c = q := ⟨_, rfl⟩
      obtain ⟨m, hm⟩ : ∃ q, cmpS a c = q := ⟨_, rfl⟩
      have HK := Lib.hid hk
      have HL := Lib.hid hl
      have HM := Lib.hid hm
      have HKK : Hid (cmpS a a = 0) := Lib.hid (by rw [cmpS_key va va]; exact cmpL_self _)
      have HKo : Hid (cmpS b a = -k) := Lib.hid (by rw [← hk, cmpS_key vb va, cmpS_key va vb]; exact cmpL_neg _ _)
      have HKR : Hid (k = -1 ∨ k = 0 ∨ k = 1) := Lib.hid (by rw [← hk, cmpS_key va vb]; exact cmpL_range _ _)
      have HKT : Hid (k = -1 → l = -1 → m = -1) := Lib.hid (fun h1 h2 => by
        rw [← hm, cmpS_key va vc']
        rw [← hk, cmpS_key va vb] at h1
        rw [← hl, cmpS_key vb vc'] at h2
        exact cmpL_trans _ _ _ h1 h2)
      have HKZ : Hid (k = 0 → eq = true) := Lib.hid (fun h1 => by
        rw [← hk, cmpS_key va vb] at h1
        have := key_zero h1
        rw [HEP.out, decide_eq_true_eq]
        exact HAB.out.symm.trans this)
      have HKP : Hid (k ≠ -1 → a.prio ≤ b.prio) := Lib.hid (fun h1 => key_prio (by rw [← cmpS_key va vb, hk]; exact h1))
      clear va vb vc' hid hk hl hm
      go_wp2_with fail
      refine (check_any a _ _ (HR.out.below' hB5) HF.out).mono ?_
      rw [VA.out]
      rintro e w6 ⟨rfl, hb6⟩
      have b6 : Below w5.heap.size w5 w6 := hb6
      have hB6 : Below w.heap.size w w6 := btrans0 hB5 b6
      clear ca cb cc cp cq
      have y6 := b6.size
      have HAa6 := Lib.hid ((b6.block _ (by omega)).trans HAa5.out)
      have HAb6 := Lib.hid ((b6.block _ (by omega)).trans HAb5.out)
      have HAc6 := Lib.hid ((b6.block _ (by omega)).trans HAc5.out)
      have HP6 := Lib.hid ((b6.block _ (by omega)).trans HP5.out)
      have HQ6 := Lib.hid ((b6.block _ (by omega)).trans HQ5.out)
      have HS6 := Lib.hid ((b6.block _ (by omega)).trans HS5.out)
      have ca := fun o => cellB HAa6.out o
      (try simp only [bunC] at ca)
      have cb := fun o => cellB HAb6.out o
      (try simp only [bunC] at cb)
      have cc := fun o => cellB HAc6.out o
      (try simp only [bunC] at cc)
      have cp := fun o => cellB HP6.out o
      simp only [idC] at cp
      have cq := fun o => cellB HQ6.out o
      simp only [idC] at cq
      go_wp2_with fail
      refine (check_any b _ _ (KR.out.below' hB6) KF.out).mono ?_
      rw [VB.out]
      rintro e w7 ⟨rfl, hb7⟩
      have b7 : Below w6.heap.size w6 w7 := hb7
      have hB7 : Below w.heap.size w w7 := btrans0 hB6 b7
      clear ca cb cc cp cq
      have y7 := b7.size
      have HAa7 := Lib.hid ((b7.block _ (by omega)).trans HAa6.out)
      have HAb7 := Lib.hid ((b7.block _ (by omega)).trans HAb6.out)
      have HAc7 := Lib.hid ((b7.block _ (by omega)).trans HAc6.out)
      have HP7 := Lib.hid ((b7.block _ (by omega)).trans HP6.out)
      have HQ7 := Lib.hid ((b7.block _ (by omega)).trans HQ6.out)
      have HS7 := Lib.hid ((b7.block _ (by omega)).trans HS6.out)
      have ca := fun o => cellB HAa7.out o
      (try simp only [bunC] at ca)
      have cb := fun o => cellB HAb7.out o
      (try simp only [bunC] at cb)
      have cc := fun o => cellB HAc7.out o
      (try simp only [bunC] at cc)
      have cp := fun o => cellB HP7.out o
      simp only [idC] at cp
      have cq := fun o => cellB HQ7.out o
      simp only [idC] at cq
      go_wp2_with fail
      refine (check_any c _ _ (LR.out.below' hB7) LF.out).mono ?_
      rw [VC.out]
      rintro e w8 ⟨rfl, hb8⟩
      have b8 : Below w7.heap.size w7 w8 := hb8
      have hB8 : Below w.heap.size w w8 := btrans0 hB7 b8
      clear ca cb cc cp cq
      have y8 := b8.size
      have HAa8 := Lib.hid ((b8.block _ (by omega)).trans HAa7.out)
      have HAb8 := Lib.hid ((b8.block _ (by omega)).trans HAb7.out)
      have HAc8 := Lib.hid ((b8.block _ (by omega)).trans HAc7.out)
      have HP8 := Lib.hid ((b8.block _ (by omega)).trans HP7.out)
      have HQ8 := Lib.hid ((b8.block _ (by omega)).trans HQ7.out)
      have HS8 := Lib.hid ((b8.block _ (by omega)).trans HS7.out)
      have ca := fun o => cellB HAa8.out o
      (try simp only [bunC] at ca)
      have cb := fun o => cellB HAb8.out o
      (try simp only [bunC] at cb)
      have cc := fun o => cellB HAc8.out o
      (try simp only [bunC] at cc)
      have cp := fun o => cellB HP8.out o
      simp only [idC] at cp
      have cq := fun o => cellB HQ8.out o
      simp only [idC] at cq
      go_wp2_with fail
      refine (parent_any a.src a.crt a.seq a.off a.tot _).mono ?_
      rintro e w9 ⟨rfl, hb9⟩
      have b9 : Below w8.heap.size w8 w9 := hb9
      have hB9 : Below w.heap.size w w9 := btrans0 hB8 b9
      clear ca cb cc cp cq
      have y9 := b9.size
      have HAa9 := Lib.hid ((b9.block _ (by omega)).trans HAa8.out)
      have HAb9 := Lib.hid ((b9.block _ (by omega)).trans HAb8.out)
      have HAc9 := Lib.hid ((b9.block _ (by omega)).trans HAc8.out)
      have HP9 := Lib.hid ((b9.block _ (by omega)).trans HP8.out)
      have HQ9 := Lib.hid ((b9.block _ (by omega)).trans HQ8.out)
      have HS9 := Lib.hid ((b9.block _ (by omega)).trans HS8.out)
      have ca := fun o => cellB HAa9.out o
      (try simp only [bunC] at ca)
      have cb := fun o => cellB HAb9.out o
      (try simp only [bunC] at cb)
      have cc := fun o => cellB HAc9.out o
      (try simp only [bunC] at cc)
      have cp := fun o => cellB HP9.out o
      simp only [idC] at cp
      have cq := fun o => cellB HQ9.out o
      simp only [idC] at cq
      go_upto_region 9 with fail
      have b10 : Below w9.heap.size w9 (w9.alloc (.cells #[.int .i64 a.src, .int .i64 a.crt, .int .i64 a.seq, .int .i64 0, .int .i64 0] 23)) := balloc0 (Below.refl _ _)
      have N10 : (w9.alloc (.cells #[.int .i64 a.src, .int .i64 a.crt, .int .i64 a.seq, .int .i64 0, .int .i64 0] 23)).heap[w9.heap.size]? = some (.cells #[.int .i64 a.src, .int .i64 a.crt, .int .i64 a.seq, .int .i64 0, .int .i64 0] 23 (0, 0)) := heap_new
      have zn : w9.heap.size < (w9.alloc (.cells #[.int .i64 a.src, .int .i64 a.crt, .int .i64 a.seq, .int .i64 0, .int .i64 0] 23)).heap.size := by simp
      generalize w9.alloc (.cells _ _) = w10 at *
      have hB10 : Below w.heap.size w w10 := btrans0 hB9 b10
      clear ca cb cc cp cq
      have y10 := b10.size
      have za10 : w.heap.size < w10.heap.size := by omega
      have zb10 : w.heap.size + 1 < w10.heap.size := by omega
      have zc10 : w.heap.size + 1 + 1 < w10.heap.size := by omega
      have zp10 : p < w10.heap.size := by omega
      have zq10 : q < w10.heap.size := by omega
      have zr10 : r < w10.heap.size := by omega
      have HAa10 := Lib.hid ((b10.block _ (by omega)).trans HAa9.out)
      have HAb10 := Lib.hid ((b10.block _ (by omega)).trans HAb9.out)
      have HAc10 := Lib.hid ((b10.block _ (by omega)).trans HAc9.out)
      have HP10 := Lib.hid ((b10.block _ (by omega)).trans HP9.out)
      have HQ10 := Lib.hid ((b10.block _ (by omega)).trans HQ9.out)
      have HS10 := Lib.hid ((b10.block _ (by omega)).trans HS9.out)
      have ca := fun o => cellB HAa10.out o
      (try simp only [bunC] at ca)
      have cb := fun o => cellB HAb10.out o
      (try simp only [bunC] at cb)
      have cc := fun o => cellB HAc10.out o
      (try simp only [bunC] at cc)
      have cp := fun o => cellB HP10.out o
      simp only [idC] at cp
      have cq := fun o => cellB HQ10.out o
      simp only [idC] at cq
      have cn := fun o => cellB N10 o
      have e5 : eqI5 a.src a.crt a.seq 0 0 a.src a.crt a.seq 0 0 = true := by simp [eqI5]
      go_cut [7, 8, 105] (fun s7 s8 s105 wx => s7 = .pointer (some ⟨p, 0, none⟩) ∧ s8 = .pointer (some ⟨q, 0, none⟩) ∧ s105 = .bool false ∧ Below w10.heap.size w10 wx)
      case first =>
        by_cases ht : 0 < a.tot
        · have HPL := Lib.hid (parent_less (s := a.src) (c := a.crt) (q := a.seq) off0 ht)
          have ht2 : decide (0 < a.tot) = true := decide_eq_true ht
          have dm : decide ((-1 : Int) < 0) = true := by decide
          refine wp_region_plan (fun V => Below (w10).heap.size (w10) V) [0, 0, 1, 0, 0, 1, 1, 2, 0, 0, 0, 1, 2, 1, 0, 0] [0, 1, 2, 3, 4, 5, 6, 7, 8, 9, 10, 11, 13, 12, 14, 15] (by kernel_rfl) (by kernel_rfl) ?_ ?_
          case refine_1 => exact (by repeat' (first | with_reducible (first | refine bset ?_ ?_ | exact Below.refl _ _ | assumption | refine bdrewN ?_ _ | refine bdrew ?_ | refine balloc0 ?_ | refine balloc ?_ ?_ | (apply btrans0; rotate_left; assumption) | (apply btrans; rotate_left; assumption)) | exact Below.refl _ _ | assumption | (apply btrans0; rotate_left; assumption) | (apply btrans; rotate_left; assumption) | (simp; done) | omega | (simp; omega)))
          (iterate 7 (first | (refine plan_held rfl (by decide) (by rfl) (fun w1 hS => by (try (obtain ⟨_, _⟩ := bcell (hS rfl))); go_simp; rfl) ?_; simp only [Act.put, List.setIfInBounds_toArray, List.set_cons_zero, List.set_cons_succ]) | (refine plan_skip rfl (by decide) (by rfl) ?_; simp only [Act.put, List.setIfInBounds_toArray, List.set_cons_zero, List.set_cons_succ])))
          (refine plan_keep rfl rfl (by rfl) (fun K hK => ?_); go_simp)
          refine (less_any a.src a.crt a.seq 0 0 a.src a.crt a.seq a.off a.tot _).mono ?_
          rw [HPL.out]
          rw [dm]
          rintro e wc97 ⟨rfl, hbc97⟩
          (refine hK _ _ (by exact (by repeat' (first | with_reducible (first | refine bset ?_ ?_ | exact Below.refl _ _ | assumption | refine bdrewN ?_ _ | refine bdrew ?_ | refine balloc0 ?_ | refine balloc ?_ ?_ | (apply btrans0; rotate_left; assumption) | (apply btrans; rotate_left; assumption)) | exact Below.refl _ _ | assumption | (apply btrans0; rotate_left; assumption) | (apply btrans; rotate_left; assumption) | (simp; done) | omega | (simp; omega)))) ?_; clear hK K; (try simp only [Act.put, List.setIfInBounds_toArray, List.set_cons_zero, List.set_cons_succ]))
          (iterate 5 (first | (refine plan_held rfl (by decide) (by rfl) (fun w1 hS => by (try (obtain ⟨_, _⟩ := bcell (hS rfl))); go_simp; rfl) ?_; simp only [Act.put, List.setIfInBounds_toArray, List.set_cons_zero, List.set_cons_succ]) | (refine plan_skip rfl (by decide) (by rfl) ?_; simp only [Act.put, List.setIfInBounds_toArray, List.set_cons_zero, List.set_cons_succ])))
          (refine plan_keep rfl rfl (by rfl) (fun K hK => ?_); go_simp)
          refine (parent_any a.src a.crt a.seq 0 0 _).mono ?_
          rintro e wc102 ⟨rfl, hbc102⟩
          (refine hK _ _ (by exact (by repeat' (first | with_reducible (first | refine bset ?_ ?_ | exact Below.refl _ _ | assumption | refine bdrewN ?_ _ | refine bdrew ?_ | refine balloc0 ?_ | refine balloc ?_ ?_ | (apply btrans0; rotate_left; assumption) | (apply btrans; rotate_left; assumption)) | exact Below.refl _ _ | assumption | (apply btrans0; rotate_left; assumption) | (apply btrans; rotate_left; assumption) | (simp; done) | omega | (simp; omega)))) ?_; clear hK K; (try simp only [Act.put, List.setIfInBounds_toArray, List.set_cons_zero, List.set_cons_succ]))
          (iterate 2 (first | (refine plan_held rfl (by decide) (by rfl) (fun w1 hS => by (try (obtain ⟨_, _⟩ := bcell (hS rfl))); go_simp; rfl) ?_; simp only [Act.put, List.setIfInBounds_toArray, List.set_cons_zero, List.set_cons_succ]) | (refine plan_skip rfl (by decide) (by rfl) ?_; simp only [Act.put, List.setIfInBounds_toArray, List.set_cons_zero, List.set_cons_succ])))
          refine plan_done ?_
          go_wp2_with fail
          go_meet
          exact ⟨rfl, rfl, rfl, (by repeat' (first | with_reducible (first | refine bset ?_ ?_ | exact Below.refl _ _ | assumption | refine bdrewN ?_ _ | refine bdrew ?_ | refine balloc0 ?_ | refine balloc ?_ ?_ | (apply btrans0; rotate_left; assumption) | (apply btrans; rotate_left; assumption)) | exact Below.refl _ _ | assumption | (apply btrans0; rotate_left; assumption) | (apply btrans; rotate_left; assumption) | (simp; done) | omega | (simp; omega)))⟩
        · have ht2 : decide (0 < a.tot) = false := decide_eq_false ht
          refine wp_region_plan (fun V => Below (w10).heap.size (w10) V) [0, 0, 1, 0, 0, 1, 1, 2, 0, 0, 0, 1, 2, 1, 0, 0] [0, 1, 2, 3, 4, 5, 6, 7, 8, 9, 10, 11, 13, 12, 14, 15] (by kernel_rfl) (by kernel_rfl) ?_ ?_
          case refine_1 => exact (by repeat' (first | with_reducible (first | refine bset ?_ ?_ | exact Below.refl _ _ | assumption | refine bdrewN ?_ _ | refine bdrew ?_ | refine balloc0 ?_ | refine balloc ?_ ?_ | (apply btrans0; rotate_left; assumption) | (apply btrans; rotate_left; assumption)) | exact Below.refl _ _ | assumption | (apply btrans0; rotate_left; assumption) | (apply btrans; rotate_left; assumption) | (simp; done) | omega | (simp; omega)))
          (iterate 7 (first | (refine plan_held rfl (by decide) (by rfl) (fun w1 hS => by (try (obtain ⟨_, _⟩ := bcell (hS rfl))); go_simp; rfl) ?_; simp only [Act.put, List.setIfInBounds_toArray, List.set_cons_zero, List.set_cons_succ]) | (refine plan_skip rfl (by decide) (by rfl) ?_; simp only [Act.put, List.setIfInBounds_toArray, List.set_cons_zero, List.set_cons_succ])))
          (refine plan_skipK rfl (by decide) (by rfl) (by repeat' (first | with_reducible (first | refine bset ?_ ?_ | exact Below.refl _ _ | assumption | refine bdrewN ?_ _ | refine bdrew ?_ | refine balloc0 ?_ | refine balloc ?_ ?_ | (apply btrans0; rotate_left; assumption) | (apply btrans; rotate_left; assumption)) | exact Below.refl _ _ | assumption | (apply btrans0; rotate_left; assumption) | (apply btrans; rotate_left; assumption) | (simp; done) | omega | (simp; omega))) ?_; simp only [Act.put, List.setIfInBounds_toArray, List.set_cons_zero, List.set_cons_succ])
          (iterate 5 (first | (refine plan_held rfl (by decide) (by rfl) (fun w1 hS => by (try (obtain ⟨_, _⟩ := bcell (hS rfl))); go_simp; rfl) ?_; simp only [Act.put, List.setIfInBounds_toArray, List.set_cons_zero, List.set_cons_succ]) | (refine plan_skip rfl (by decide) (by rfl) ?_; simp only [Act.put, List.setIfInBounds_toArray, List.set_cons_zero, List.set_cons_succ])))
          (refine plan_keep rfl rfl (by rfl) (fun K hK => ?_); go_simp)
          refine (parent_any a.src a.crt a.seq 0 0 _).mono ?_
          rintro e wc102 ⟨rfl, hbc102⟩
          (refine hK _ _ (by exact (by repeat' (first | with_reducible (first | refine bset ?_ ?_ | exact Below.refl _ _ | assumption | refine bdrewN ?_ _ | refine bdrew ?_ | refine balloc0 ?_ | refine balloc ?_ ?_ | (apply btrans0; rotate_left; assumption) | (apply btrans; rotate_left; assumption)) | exact Below.refl _ _ | assumption | (apply btrans0; rotate_left; assumption) | (apply btrans; rotate_left; assumption) | (simp; done) | omega | (simp; omega)))) ?_; clear hK K; (try simp only [Act.put, List.setIfInBounds_toArray, List.set_cons_zero, List.set_cons_succ]))
          (iterate 2 (first | (refine plan_held rfl (by decide) (by rfl) (fun w1 hS => by (try (obtain ⟨_, _⟩ := bcell (hS rfl))); go_simp; rfl) ?_; simp only [Act.put, List.setIfInBounds_toArray, List.set_cons_zero, List.set_cons_succ]) | (refine plan_skip rfl (by decide) (by rfl) ?_; simp only [Act.put, List.setIfInBounds_toArray, List.set_cons_zero, List.set_cons_succ])))
          refine plan_done ?_
          go_wp2_with fail
          go_meet
          exact ⟨rfl, rfl, rfl, (by repeat' (first | with_reducible (first | refine bset ?_ ?_ | exact Below.refl _ _ | assumption | refine bdrewN ?_ _ | refine bdrew ?_ | refine balloc0 ?_ | refine balloc ?_ ?_ | (apply btrans0; rotate_left; assumption) | (apply btrans; rotate_left; assumption)) | exact Below.refl _ _ | assumption | (apply btrans0; rotate_left; assumption) | (apply btrans; rotate_left; assumption) | (simp; done) | omega | (simp; omega)))⟩
      case rest =>
        obtain ⟨rfl, rfl, rfl, hBx⟩ := hcut
        obtain ⟨w11, rfl⟩ : ∃ q, q = wc := ⟨_, rfl⟩
        have b11 := hBx
        have hB11 : Below w.heap.size w w11 := btrans0 hB10 b11
        clear cn N10
        clear ca cb cc cp cq
        have y11 := b11.size
        have za11 : w.heap.size < w11.heap.size := by omega
        have zb11 : w.heap.size + 1 < w11.heap.size := by omega
        have zc11 : w.heap.size + 1 + 1 < w11.heap.size := by omega
        have zp11 : p < w11.heap.size := by omega
        have zq11 : q < w11.heap.size := by omega
        have zr11 : r < w11.heap.size := by omega
        have HAa11 := Lib.hid ((b11.block _ (by omega)).trans HAa10.out)
        have HAb11 := Lib.hid ((b11.block _ (by omega)).trans HAb10.out)
        have HAc11 := Lib.hid ((b11.block _ (by omega)).trans HAc10.out)
        have HP11 := Lib.hid ((b11.block _ (by omega)).trans HP10.out)
        have HQ11 := Lib.hid ((b11.block _ (by omega)).trans HQ10.out)
        have HS11 := Lib.hid ((b11.block _ (by omega)).trans HS10.out)
        have ca := fun o => cellB HAa11.out o
        (try simp only [bunC] at ca)
        have cb := fun o => cellB HAb11.out o
        (try simp only [bunC] at cb)
        have cc := fun o => cellB HAc11.out o
        (try simp only [bunC] at cc)
        have cp := fun o => cellB HP11.out o
        simp only [idC] at cp
        have cq := fun o => cellB HQ11.out o
        simp only [idC] at cq
        go_upto_region 11 with fail
        go_cut [7, 8, 11, 12, 13] (fun s7 s8 s11 s12 s13 wx => s7 = .pointer (some ⟨p, 0, none⟩) ∧ s8 = .pointer (some ⟨q, 0, none⟩) ∧ s11 = .int .i64 k ∧ s12 = .int .i64 l ∧ s13 = .int .i64 m ∧ Below w11.heap.size w11 wx)
        case first =>
          refine wp_region_plan (fun V => Below (w11).heap.size (w11) V) [1, 1, 2, 1, 1, 2, 1, 1, 3, 0, 0, 0] [0, 1, 3, 4, 6, 7, 2, 5, 8, 9, 10, 11] (by kernel_rfl) (by kernel_rfl) ?_ ?_
          case refine_1 => exact (by repeat' (first | with_reducible (first | refine bset ?_ ?_ | exact Below.refl _ _ | assumption | refine bdrewN ?_ _ | refine bdrew ?_ | refine balloc0 ?_ | refine balloc ?_ ?_ | (apply btrans0; rotate_left; assumption) | (apply btrans; rotate_left; assumption)) | exact Below.refl _ _ | assumption | (apply btrans0; rotate_left; assumption) | (apply btrans; rotate_left; assumption) | (simp; done) | omega | (simp; omega)))
          (iterate 6 (first | (refine plan_held rfl (by decide) (by rfl) (fun w1 hS => by (try (obtain ⟨_, _⟩ := bcell (hS rfl))); go_simp; rfl) ?_; simp only [Act.put, List.setIfInBounds_toArray, List.set_cons_zero, List.set_cons_succ]) | (refine plan_skip rfl (by decide) (by rfl) ?_; simp only [Act.put, List.setIfInBounds_toArray, List.set_cons_zero, List.set_cons_succ])))
          (refine plan_keep rfl rfl (by rfl) (fun K hK => ?_); go_simp)
          refine (compare_any a b _ _ _ (HR.out.below' (btrans0 hB11 (by repeat' (first | with_reducible (first | refine bset ?_ ?_ | exact Below.refl _ _ | assumption | refine bdrewN ?_ _ | refine bdrew ?_ | refine balloc0 ?_ | refine balloc ?_ ?_ | (apply btrans0; rotate_left; assumption) | (apply btrans; rotate_left; assumption)) | exact Below.refl _ _ | assumption | (apply btrans0; rotate_left; assumption) | (apply btrans; rotate_left; assumption) | (simp; done) | omega | (simp; omega))))) HF.out (KR.out.below' (btrans0 hB11 (by repeat' (first | with_reducible (first | refine bset ?_ ?_ | exact Below.refl _ _ | assumption | refine bdrewN ?_ _ | refine bdrew ?_ | refine balloc0 ?_ | refine balloc ?_ ?_ | (apply btrans0; rotate_left; assumption) | (apply btrans; rotate_left; assumption)) | exact Below.refl _ _ | assumption | (apply btrans0; rotate_left; assumption) | (apply btrans; rotate_left; assumption) | (simp; done) | omega | (simp; omega))))) KF.out).mono ?_
          rw [HK.out]
          rintro e wc108 ⟨rfl, hbc108⟩
          (refine hK _ _ (by exact (by repeat' (first | with_reducible (first | refine bset ?_ ?_ | exact Below.refl _ _ | assumption | refine bdrewN ?_ _ | refine bdrew ?_ | refine balloc0 ?_ | refine balloc ?_ ?_ | (apply btrans0; rotate_left; assumption) | (apply btrans; rotate_left; assumption)) | exact Below.refl _ _ | assumption | (apply btrans0; rotate_left; assumption) | (apply btrans; rotate_left; assumption) | (simp; done) | omega | (simp; omega)))) ?_; clear hK K; (try simp only [Act.put, List.setIfInBounds_toArray, List.set_cons_zero, List.set_cons_succ]))
          (refine plan_keep rfl rfl (by rfl) (fun K hK => ?_); go_simp)
          refine (compare_any b c _ _ _ (KR.out.below' (btrans0 hB11 (by repeat' (first | with_reducible (first | refine bset ?_ ?_ | exact Below.refl _ _ | assumption | refine bdrewN ?_ _ | refine bdrew ?_ | refine balloc0 ?_ | refine balloc ?_ ?_ | (apply btrans0; rotate_left; assumption) | (apply btrans; rotate_left; assumption)) | exact Below.refl _ _ | assumption | (apply btrans0; rotate_left; assumption) | (apply btrans; rotate_left; assumption) | (simp; done) | omega | (simp; omega))))) KF.out (LR.out.below' (btrans0 hB11 (by repeat' (first | with_reducible (first | refine bset ?_ ?_ | exact Below.refl _ _ | assumption | refine bdrewN ?_ _ | refine bdrew ?_ | refine balloc0 ?_ | refine balloc ?_ ?_ | (apply btrans0; rotate_left; assumption) | (apply btrans; rotate_left; assumption)) | exact Below.refl _ _ | assumption | (apply btrans0; rotate_left; assumption) | (apply btrans; rotate_left; assumption) | (simp; done) | omega | (simp; omega))))) LF.out).mono ?_
          rw [HL.out]
          rintro e wc111 ⟨rfl, hbc111⟩
          (refine hK _ _ (by exact (by repeat' (first | with_reducible (first | refine bset ?_ ?_ | exact Below.refl _ _ | assumption | refine bdrewN ?_ _ | refine bdrew ?_ | refine balloc0 ?_ | refine balloc ?_ ?_ | (apply btrans0; rotate_left; assumption) | (apply btrans; rotate_left; assumption)) | exact Below.refl _ _ | assumption | (apply btrans0; rotate_left; assumption) | (apply btrans; rotate_left; assumption) | (simp; done) | omega | (simp; omega)))) ?_; clear hK K; (try simp only [Act.put, List.setIfInBounds_toArray, List.set_cons_zero, List.set_cons_succ]))
          (refine plan_late rfl rfl (by rfl) (fun K hK => ?_); go_simp)
          refine (compare_any a c _ _ _ (HR.out.below' (btrans0 hB11 (by repeat' (first | with_reducible (first | refine bset ?_ ?_ | exact Below.refl _ _ | assumption | refine bdrewN ?_ _ | refine bdrew ?_ | refine balloc0 ?_ | refine balloc ?_ ?_ | (apply btrans0; rotate_left; assumption) | (apply btrans; rotate_left; assumption)) | exact Below.refl _ _ | assumption | (apply btrans0; rotate_left; assumption) | (apply btrans; rotate_left; assumption) | (simp; done) | omega | (simp; omega))))) HF.out (LR.out.below' (btrans0 hB11 (by repeat' (first | with_reducible (first | refine bset ?_ ?_ | exact Below.refl _ _ | assumption | refine bdrewN ?_ _ | refine bdrew ?_ | refine balloc0 ?_ | refine balloc ?_ ?_ | (apply btrans0; rotate_left; assumption) | (apply btrans; rotate_left; assumption)) | exact Below.refl _ _ | assumption | (apply btrans0; rotate_left; assumption) | (apply btrans; rotate_left; assumption) | (simp; done) | omega | (simp; omega))))) LF.out).mono ?_
          rw [HM.out]
          rintro e wc114 ⟨rfl, hbc114⟩
          (refine hK _ _ ?_; clear hK K; (try simp only [Act.put, List.setIfInBounds_toArray, List.set_cons_zero, List.set_cons_succ]))
          (iterate 3 (first | (refine plan_held rfl (by decide) (by rfl) (fun w1 hS => by (try (obtain ⟨_, _⟩ := bcell (hS rfl))); go_simp; rfl) ?_; simp only [Act.put, List.setIfInBounds_toArray, List.set_cons_zero, List.set_cons_succ]) | (refine plan_skip rfl (by decide) (by rfl) ?_; simp only [Act.put, List.setIfInBounds_toArray, List.set_cons_zero, List.set_cons_succ])))
          refine plan_done ?_
          go_wp2_with fail
          go_meet
          exact ⟨rfl, rfl, rfl, rfl, rfl, by clear hB1 hB2 hB3 hB4 hB5 hB6 hB7 hB8 hB9 hB10 hB11; exact (by repeat' (first | with_reducible (first | refine bset ?_ ?_ | exact Below.refl _ _ | assumption | refine bdrewN ?_ _ | refine bdrew ?_ | refine balloc0 ?_ | refine balloc ?_ ?_ | (apply btrans0; rotate_left; assumption) | (apply btrans; rotate_left; assumption)) | exact Below.refl _ _ | assumption | (apply btrans0; rotate_left; assumption) | (apply btrans; rotate_left; assumption) | (simp; done) | omega | (simp; omega)))⟩
        case rest =>
          obtain ⟨rfl, rfl, rfl, rfl, rfl, hBx⟩ := hcut
          obtain ⟨w12, rfl⟩ : ∃ q, q = wc := ⟨_, rfl⟩
          have b12 := hBx
          have hB12 : Below w.heap.size w w12 := btrans0 hB11 b12
          have hng : IntKind.i64.wrap (- -k) = k := by have := HKR.out; rw [IntKind.wrap_i64]; omega
          clear ca cb cc cp cq
          have y12 := b12.size
          have za12 : w.heap.size < w12.heap.size := by omega
          have zb12 : w.heap.size + 1 < w12.heap.size := by omega
          have zc12 : w.heap.size + 1 + 1 < w12.heap.size := by omega
          have zp12 : p < w12.heap.size := by omega
          have zq12 : q < w12.heap.size := by omega
          have zr12 : r < w12.heap.size := by omega
          have HAa12 := Lib.hid ((b12.block _ (by omega)).trans HAa11.out)
          have HAb12 := Lib.hid ((b12.block _ (by omega)).trans HAb11.out)
          have HAc12 := Lib.hid ((b12.block _ (by omega)).trans HAc11.out)
          have HP12 := Lib.hid ((b12.block _ (by omega)).trans HP11.out)
          have HQ12 := Lib.hid ((b12.block _ (by omega)).trans HQ11.out)
          have HS12 := Lib.hid ((b12.block _ (by omega)).trans HS11.out)
          have ca := fun o => cellB HAa12.out o
          (try simp only [bunC] at ca)
          have cb := fun o => cellB HAb12.out o
          (try simp only [bunC] at cb)
          have cc := fun o => cellB HAc12.out o
          (try simp only [bunC] at cc)
          have cp := fun o => cellB HP12.out o
          simp only [idC] at cp
          have cq := fun o => cellB HQ12.out o
          simp only [idC] at cq
          go_wp2_with fail
          refine (compare_any a a _ _ _ (HR.out.below' hB12) HF.out (HR.out.below' hB12) HF.out).mono ?_
          rw [HKK.out]
          rintro e w13 ⟨rfl, hb13⟩
          have b13 : Below w12.heap.size w12 w13 := hb13
          have hB13 : Below w.heap.size w w13 := btrans0 hB12 b13
          clear ca cb cc cp cq
          have y13 := b13.size
          have HAa13 := Lib.hid ((b13.block _ (by omega)).trans HAa12.out)
          have HAb13 := Lib.hid ((b13.block _ (by omega)).trans HAb12.out)
          have HAc13 := Lib.hid ((b13.block _ (by omega)).trans HAc12.out)
          have HP13 := Lib.hid ((b13.block _ (by omega)).trans HP12.out)
          have HQ13 := Lib.hid ((b13.block _ (by omega)).trans HQ12.out)
          have HS13 := Lib.hid ((b13.block _ (by omega)).trans HS12.out)
          have ca := fun o => cellB HAa13.out o
          (try simp only [bunC] at ca)
          have cb := fun o => cellB HAb13.out o
          (try simp only [bunC] at cb)
          have cc := fun o => cellB HAc13.out o
          (try simp only [bunC] at cc)
          have cp := fun o => cellB HP13.out o
          simp only [idC] at cp
          have cq := fun o => cellB HQ13.out o
          simp only [idC] at cq
          go_wp2_with fail
          refine (compare_any b a _ _ _ (KR.out.below' hB13) KF.out (HR.out.below' hB13) HF.out).mono ?_
          rw [HKo.out]
          rintro e w14 ⟨rfl, hb14⟩
          have b14 : Below w13.heap.size w13 w14 := hb14
          have hB14 : Below w.heap.size w w14 := btrans0 hB13 b14
          clear ca cb cc cp cq
          have y14 := b14.size
          have HAa14 := Lib.hid ((b14.block _ (by omega)).trans HAa13.out)
          have HAb14 := Lib.hid ((b14.block _ (by omega)).trans HAb13.out)
          have HAc14 := Lib.hid ((b14.block _ (by omega)).trans HAc13.out)
          have HP14 := Lib.hid ((b14.block _ (by omega)).trans HP13.out)
          have HQ14 := Lib.hid ((b14.block _ (by omega)).trans HQ13.out)
          have HS14 := Lib.hid ((b14.block _ (by omega)).trans HS13.out)
          have ca := fun o => cellB HAa14.out o
          (try simp only [bunC] at ca)
          have cb := fun o => cellB HAb14.out o
          (try simp only [bunC] at cb)
          have cc := fun o => cellB HAc14.out o
          (try simp only [bunC] at cc)
          have cp := fun o => cellB HP14.out o
          simp only [idC] at cp
          have cq := fun o => cellB HQ14.out o
          simp only [idC] at cq
          have hq := HEQ.out
          rcases HKR.out with e1 | e1 | e1
          · subst e1
            by_cases hpb : a.prio ≤ b.prio
            · cases eq
              · by_cases e2 : l = -1
                · have e3 := HKT.out rfl e2
                  subst e2 e3
                  as_aux_lemma =>
                    go_wp2_with fail
                    refine (awake_any _).mono ?_
                    rintro e w99 ⟨rfl, hb99⟩
                    go_wp2
                    go_ret
                    exact ⟨rfl, (by repeat' (first | with_reducible (first | refine bset ?_ ?_ | exact Below.refl _ _ | assumption | refine bdrewN ?_ _ | refine bdrew ?_ | refine balloc0 ?_ | refine balloc ?_ ?_ | (apply btrans0; rotate_left; assumption) | (apply btrans; rotate_left; assumption)) | exact Below.refl _ _ | assumption | (apply btrans0; rotate_left; assumption) | (apply btrans; rotate_left; assumption) | (simp; done) | omega | (simp; omega)))⟩
                · have l1 : (l == -1) = false := beq_eq_false_iff_ne.2 e2
                  clear e2
                  as_aux_lemma =>
                    go_wp2_with fail
                    refine (awake_any _).mono ?_
                    rintro e w99 ⟨rfl, hb99⟩
                    go_wp2
                    go_ret
                    exact ⟨rfl, (by repeat' (first | with_reducible (first | refine bset ?_ ?_ | exact Below.refl _ _ | assumption | refine bdrewN ?_ _ | refine bdrew ?_ | refine balloc0 ?_ | refine balloc ?_ ?_ | (apply btrans0; rotate_left; assumption) | (apply btrans; rotate_left; assumption)) | exact Below.refl _ _ | assumption | (apply btrans0; rotate_left; assumption) | (apply btrans; rotate_left; assumption) | (simp; done) | omega | (simp; omega)))⟩
              · by_cases e2 : l = -1
                · have e3 := HKT.out rfl e2
                  subst e2 e3
                  as_aux_lemma =>
                    go_wp2_with fail
                    refine (awake_any _).mono ?_
                    rintro e w99 ⟨rfl, hb99⟩
                    go_wp2
                    go_ret
                    exact ⟨rfl, (by repeat' (first | with_reducible (first | refine bset ?_ ?_ | exact Below.refl _ _ | assumption | refine bdrewN ?_ _ | refine bdrew ?_ | refine balloc0 ?_ | refine balloc ?_ ?_ | (apply btrans0; rotate_left; assumption) | (apply btrans; rotate_left; assumption)) | exact Below.refl _ _ | assumption | (apply btrans0; rotate_left; assumption) | (apply btrans; rotate_left; assumption) | (simp; done) | omega | (simp; omega)))⟩
                · have l1 : (l == -1) = false := beq_eq_false_iff_ne.2 e2
                  clear e2
                  as_aux_lemma =>
                    go_wp2_with fail
                    refine (awake_any _).mono ?_
                    rintro e w99 ⟨rfl, hb99⟩
                    go_wp2
                    go_ret
                    exact ⟨rfl, (by repeat' (first | with_reducible (first | refine bset ?_ ?_ | exact Below.refl _ _ | assumption | refine bdrewN ?_ _ | refine bdrew ?_ | refine balloc0 ?_ | refine balloc ?_ ?_ | (apply btrans0; rotate_left; assumption) | (apply btrans; rotate_left; assumption)) | exact Below.refl _ _ | assumption | (apply btrans0; rotate_left; assumption) | (apply btrans; rotate_left; assumption) | (simp; done) | omega | (simp; omega)))⟩
            · cases eq
              · by_cases e2 : l = -1
                · have e3 := HKT.out rfl e2
                  subst e2 e3
                  as_aux_lemma =>
                    go_wp2_with fail
                    refine (awake_any _).mono ?_
                    rintro e w99 ⟨rfl, hb99⟩
                    go_wp2
                    go_ret
                    exact ⟨rfl, (by repeat' (first | with_reducible (first | refine bset ?_ ?_ | exact Below.refl _ _ | assumption | refine bdrewN ?_ _ | refine bdrew ?_ | refine balloc0 ?_ | refine balloc ?_ ?_ | (apply btrans0; rotate_left; assumption) | (apply btrans; rotate_left; assumption)) | exact Below.refl _ _ | assumption | (apply btrans0; rotate_left; assumption) | (apply btrans; rotate_left; assumption) | (simp; done) | omega | (simp; omega)))⟩
                · have l1 : (l == -1) = false := beq_eq_false_iff_ne.2 e2
                  clear e2
                  as_aux_lemma =>
                    go_wp2_with fail
                    refine (awake_any _).mono ?_
                    rintro e w99 ⟨rfl, hb99⟩
                    go_wp2
                    go_ret
                    exact ⟨rfl, (by repeat' (first | with_reducible (first | refine bset ?_ ?_ | exact Below.refl _ _ | assumption | refine bdrewN ?_ _ | refine bdrew ?_ | refine balloc0 ?_ | refine balloc ?_ ?_ | (apply btrans0; rotate_left; assumption) | (apply btrans; rotate_left; assumption)) | exact Below.refl _ _ | assumption | (apply btrans0; rotate_left; assumption) | (apply btrans; rotate_left; assumption) | (simp; done) | omega | (simp; omega)))⟩
              · by_cases e2 : l = -1
                · have e3 := HKT.out rfl e2
                  subst e2 e3
                  as_aux_lemma =>
                    go_wp2_with fail
                    refine (awake_any _).mono ?_
                    rintro e w99 ⟨rfl, hb99⟩
                    go_wp2
                    go_ret
                    exact ⟨rfl, (by repeat' (first | with_reducible (first | refine bset ?_ ?_ | exact Below.refl _ _ | assumption | refine bdrewN ?_ _ | refine bdrew ?_ | refine balloc0 ?_ | refine balloc ?_ ?_ | (apply btrans0; rotate_left; assumption) | (apply btrans; rotate_left; assumption)) | exact Below.refl _ _ | assumption | (apply btrans0; rotate_left; assumption) | (apply btrans; rotate_left; assumption) | (simp; done) | omega | (simp; omega)))⟩
                · have l1 : (l == -1) = false := beq_eq_false_iff_ne.2 e2
                  clear e2
                  as_aux_lemma =>
                    go_wp2_with fail
                    refine (awake_any _).mono ?_
                    rintro e w99 ⟨rfl, hb99⟩
                    go_wp2
                    go_ret
                    exact ⟨rfl, (by repeat' (first | with_reducible (first | refine bset ?_ ?_ | exact Below.refl _ _ | assumption | refine bdrewN ?_ _ | refine bdrew ?_ | refine balloc0 ?_ | refine balloc ?_ ?_ | (apply btrans0; rotate_left; assumption) | (apply btrans; rotate_left; assumption)) | exact Below.refl _ _ | assumption | (apply btrans0; rotate_left; assumption) | (apply btrans; rotate_left; assumption) | (simp; done) | omega | (simp; omega)))⟩
          · subst e1
            have hpb := HKP.out (by decide)
            have e2 := HKZ.out rfl
            subst e2
            as_aux_lemma =>
              go_wp2_with fail
              refine (awake_any _).mono ?_
              rintro e w99 ⟨rfl, hb99⟩
              go_wp2
              go_ret
              exact ⟨rfl, (by repeat' (first | with_reducible (first | refine bset ?_ ?_ | exact Below.refl _ _ | assumption | refine bdrewN ?_ _ | refine bdrew ?_ | refine balloc0 ?_ | refine balloc ?_ ?_ | (apply btrans0; rotate_left; assumption) | (apply btrans; rotate_left; assumption)) | exact Below.refl _ _ | assumption | (apply btrans0; rotate_left; assumption) | (apply btrans; rotate_left; assumption) | (simp; done) | omega | (simp; omega)))⟩
          · subst e1
            have hpb := HKP.out (by decide)
            cases eq
            · skip
              as_aux_lemma =>
                go_wp2_with fail
                refine (awake_any _).mono ?_
                rintro e w99 ⟨rfl, hb99⟩
                go_wp2
                go_ret
                exact ⟨rfl, (by repeat' (first | with_reducible (first | refine bset ?_ ?_ | exact Below.refl _ _ | assumption | refine bdrewN ?_ _ | refine bdrew ?_ | refine balloc0 ?_ | refine balloc ?_ ?_ | (apply btrans0; rotate_left; assumption) | (apply btrans; rotate_left; assumption)) | exact Below.refl _ _ | assumption | (apply btrans0; rotate_left; assumption) | (apply btrans; rotate_left; assumption) | (simp; done) | omega | (simp; omega)))⟩
            · skip
              as_aux_lemma =>
                go_wp2_with fail
                refine (awake_any _).mono ?_
                rintro e w99 ⟨rfl, hb99⟩
                go_wp2
                go_ret
                exact ⟨rfl, (by repeat' (first | with_reducible (first | refine bset ?_ ?_ | exact Below.refl _ _ | assumption | refine bdrewN ?_ _ | refine bdrew ?_ | refine balloc0 ?_ | refine balloc ?_ ?_ | (apply btrans0; rotate_left; assumption) | (apply btrans; rotate_left; assumption)) | exact Below.refl _ _ | assumption | (apply btrans0; rotate_left; assumption) | (apply btrans; rotate_left; assumption) | (simp; done) | omega | (simp; omega)))⟩

set_option maxRecDepth 100000 in
theorem lifted (os : Os) (started : os.Started) (H : Type) (enc : TypeId × Value → H) :
    ReturnsInHanded {} Try.checked os 9 .any (Rows.bundleTotalSpec.pre6 enc Try.prog Try.f9 Rows.bundleTotalRow.domain false) (Rows.bundleTotalSpec.post enc Try.prog Try.f9 false true false false) := by
  refine returnsInHanded_of_change (C := Try.checked) own started (by kernel_rfl) Try.func9
    (ChangeSpec.witness6 (enc := enc) (C := Try.checked) false ⟨#[], #[.agg #[.int .i64 0, .int .i64 0, .int .i64 0, .int .i64 0, .int .i64 0, .int .i64 0, .int .i64 0, .int .i64 0, .int .i64 0, .int .i64 0, .slice none 0 0, .string (B [])], .agg #[.int .i64 0, .int .i64 0, .int .i64 0, .int .i64 0, .int .i64 0, .int .i64 0, .int .i64 0, .int .i64 0, .int .i64 0, .int .i64 0, .slice none 0 0, .string (B [])], .agg #[.int .i64 0, .int .i64 0, .int .i64 0, .int .i64 0, .int .i64 0, .int .i64 0, .int .i64 0, .int .i64 0, .int .i64 0, .int .i64 0, .slice none 0 0, .string (B [])]], []⟩ 8 (by kernel_rfl) (by kernel_rfl) (by kernel_rfl) (by kernel_rfl)) ?_
  intro W base args ds gs before hval0 hW hcnd _
  have hval : ∀ (j : Nat) t v, Try.f9.params[j]? = some t → args[j]? = some v → Value.okWide Try.prog W .any base t v := hval0
  have hW' := hW
  obtain ⟨p, q, hA0, hV, rfl, hfz, hnd⟩ := hW
  have hA : DataW.TrodAll enc Try.prog W 0 (fun _ => true) true Try.f9.params.toList args.toList ds p := hA0
  rw [Try.params9] at hA hval
  obtain ⟨v0, vs0, d0, ds0, p0, q0, hargs, rfl, rfl, h0, r0⟩ := trodAll_cons hA
  obtain ⟨v1, vs1, d1, ds1, p1, q1, rfl, rfl, rfl, h1, r1⟩ := trodAll_cons r0
  obtain ⟨v2, vs2, d2, ds2, p2, q2, rfl, rfl, rfl, h2, r2⟩ := trodAll_cons r1
  obtain ⟨rfl, rfl, rfl⟩ := trodAll_nil r2
  obtain rfl : args = #[v0, v1, v2] := by cases args; simp_all
  obtain ⟨x0, u0, rfl, hr0, hf0⟩ := open_bun (hval 0 28 v0 rfl rfl) h0
  obtain ⟨x1, u1, rfl, hr1, hf1⟩ := open_bun (hval 1 28 v1 rfl rfl) h1
  obtain ⟨x2, u2, rfl, hr2, hf2⟩ := open_bun (hval 2 28 v2 rfl rfl) h2
  refine (walk x0 u0 x1 u1 x2 u2 W hr0 hf0 hr1 hf1 hr2 hf2).mono fun e W' ⟨he, hB⟩ => ?_
  subst he
  refine ⟨_, rfl, law_post (by kernel_rfl) (by kernel_rfl) rfl Try.underlying4 rfl ?_ hW' hB⟩
  intro es hes
  match es, hes with
  | [_, _, _], _ => rfl

theorem proved : Rows.BundleTotalSaid :=
  OpenClaim.holds_of_wide 9 Try.f9 rfl rfl rfl rfl rfl rfl rfl ⟨rfl, rfl, rfl, rfl, rfl⟩ rfl rfl rfl rfl rfl (by kernel_rfl) Try.func9 (by kernel_rfl)
    (of_decide_eq_true (by kernel_rfl)) (by unfold Func.isWrapper; first | (rw [if_pos (by decide +kernel)]; kernel_rfl) | (rw [if_neg (by decide +kernel)]; exact ⟨rfl, rfl⟩))
    (fun os started H enc _ => lifted os started H enc)
#print axioms proved
end Go.Proofs.Ythedoidpapodgaa.bundleTotal
