/- Layer 14 (extension): Forward, age on, hops on. -/
import Derived.Test.YthgokfceakbjlaaAn
set_option linter.unusedVariables false
set_option linter.unusedSimpArgs false
namespace Go.Proofs.Ythgokfceakbjlaa
open Go Go.RowKit
attribute [local go_sem] B_getElem B_size B_app B_extract B_get B_toList

set_option maxRecDepth 100000 in
set_option maxHeartbeats 8000000 in
theorem fwd_on_on_on (b : Bun) (u : Value) (n el : Int) (w : World) (h : RBlks w w.heap.size u b.blocks) (hf : Fits b) (HE : Hid (chkE b = 0)) (HND : Hid (nodeB n = true)) (r1 : ¬ el < 0) (r2 : ¬ 1099511627776 < el) (hlf : b.life ≤ 1099511627776) (a0 : Int) (HAG : Hid (ageS b = (a0, 0))) (a1 : 0 ≤ a0) (a2 : a0 ≤ 1099511627776) (a3 : a0 + el < b.life) (a4 : ¬ b.life ≤ a0 + el) (h0 k1 : Int) (HHO : Hid (hopS b = (h0, k1, 0))) (p1 : 0 ≤ k1) (p2 : k1 ≤ 255) (p3 : ¬ h0 < k1 + 1) (p4 : k1 + 1 ≤ h0) (p5 : h0 ≤ 255) (l : List Int) (HVI : Hid (getS b 3 = (l, 0))) (HCT : Hid (l.contains n = false)) (X1 : Bun) (EX1 : Int) (HX1 : Hid (setAgeS b (a0 + el) = (X1, EX1))) (HFX1 : Hid (Fits X1)) (X2 : Bun) (EX2 : Int) (HX2 : Hid (setHopS X1 h0 (k1 + 1) = (X2, EX2))) (HFX2 : Hid (Fits X2)) (X3 : Bun) (EX3 : Int) (HX3 : Hid (visitS X2 n = (X3, EX3))) (HFX3 : Hid (Fits X3))  :
    Calls Try.prog 24 #[.agg (bunC b u).toArray, .int .i64 n, .int .i64 el] w (FwdPost (X3, 0) w) := by
  have HF := Lib.hid hf
  have HR := Lib.hid h
  obtain ⟨a, c, rfl, h1, h2, h3, h4⟩ := h
  clear h1 h2 h3 h4 hf
  go_enter Try.func24, Try.ntmps24
  simp only [bunC]
  go_wp2_with fail
  refine (check_any b _ _ (HR.out.below' (by repeat' (first | with_reducible (first | refine bset ?_ ?_ | exact Below.refl _ _ | assumption | refine bdrewN ?_ _ | refine bdrew ?_ | refine balloc0 ?_ | refine balloc ?_ ?_ | (apply btrans0; rotate_left; assumption) | (apply btrans; rotate_left; assumption)) | exact Below.refl _ _ | assumption | (apply btrans0; rotate_left; assumption) | (apply btrans; rotate_left; assumption) | (simp; done) | omega | (simp; omega)))) HF.out).mono ?_
  rw [HE.out]
  rintro e w1 ⟨rfl, hb1⟩
  have hB1 : Below w.heap.size w w1 := (by repeat' (first | with_reducible (first | refine bset ?_ ?_ | exact Below.refl _ _ | assumption | refine bdrewN ?_ _ | refine bdrew ?_ | refine balloc0 ?_ | refine balloc ?_ ?_ | (apply btrans0; rotate_left; assumption) | (apply btrans; rotate_left; assumption)) | exact Below.refl _ _ | assumption | (apply btrans0; rotate_left; assumption) | (apply btrans; rotate_left; assumption) | (simp; done) | omega | (simp; omega)))
  have zr1 : w.heap.size + 1 < w1.heap.size := by have := hb1.size; simp at this; omega
  have za1 : w.heap.size < w1.heap.size := by omega
  have A1 : w1.heap[w.heap.size]? = some (.cells (bunC b (.slice a b.blocks.length c)).toArray 28 (0, 0)) := (hb1.block _ (by simp; omega)).trans ((Below.heap_alloc _ _ _ (by simp)).trans heap_new)
  have R1 : w1.heap[w.heap.size + 1]? = some (.cells #[.int .i64 0, .int .i64 0, .int .i64 0, .int .i64 0, .int .i64 0, .int .i64 0, .int .i64 0, .int .i64 0, .int .i64 0, .int .i64 0, .slice none 0 0, .string ⟨#[]⟩] 28 (0, 0)) := (hb1.block _ (by simp)).trans (heap_new' (by simp))
  have ca1 := fun o => cellB A1 o
  have cr1 := fun o => cellB R1 o
  have fr1 := fun o => frozenB R1 o
  simp only [bunC] at ca1
  have HA1 := Lib.hid A1
  have HR1 := Lib.hid R1
  clear A1 R1 hb1
  go_wp2_with fail
  refine (node_any n _).mono ?_
  rw [HND.out]
  rintro e w2 ⟨rfl, rfl⟩
  obtain ⟨w1, rfl⟩ : ∃ w1, w1 = w2 := ⟨_, rfl⟩
  go_wp2_with fail
  refine (age_any b _ _ (HR.out.below' (by repeat' (first | with_reducible (first | refine bset ?_ ?_ | exact Below.refl _ _ | assumption | refine bdrewN ?_ _ | refine bdrew ?_ | refine balloc0 ?_ | refine balloc ?_ ?_ | (apply btrans0; rotate_left; assumption) | (apply btrans; rotate_left; assumption)) | exact Below.refl _ _ | assumption | (apply btrans0; rotate_left; assumption) | (apply btrans; rotate_left; assumption) | (simp; done) | omega | (simp; omega)))) HF.out).mono ?_
  rw [HAG.out]
  simp only
  rintro e w3 ⟨rfl, hb3⟩
  have hB3 : Below w.heap.size w w3 := (by repeat' (first | with_reducible (first | refine bset ?_ ?_ | exact Below.refl _ _ | assumption | refine bdrewN ?_ _ | refine bdrew ?_ | refine balloc0 ?_ | refine balloc ?_ ?_ | (apply btrans0; rotate_left; assumption) | (apply btrans; rotate_left; assumption)) | exact Below.refl _ _ | assumption | (apply btrans0; rotate_left; assumption) | (apply btrans; rotate_left; assumption) | (simp; done) | omega | (simp; omega)))
  have y3 : w1.heap.size ≤ w3.heap.size := by have := hb3.size; (try simp at this); omega
  have za3 : w.heap.size < w3.heap.size := by omega
  have zr3 : w.heap.size + 1 < w3.heap.size := by omega
  have A3 := (hb3.block _ za1).trans HA1.out
  have R3 := (hb3.block _ zr1).trans HR1.out
  have HA3 := Lib.hid A3
  have HR3 := Lib.hid R3
  clear ca1 cr1 fr1
  have ca3 := fun o => cellB A3 o
  have cr3 := fun o => cellB R3 o
  have fr3 := fun o => frozenB R3 o
  simp only [bunC] at ca3
  clear A3 R3 hb3
  go_wp2_with fail
  refine (hops_any b _ _ (HR.out.below' (by repeat' (first | with_reducible (first | refine bset ?_ ?_ | exact Below.refl _ _ | assumption | refine bdrewN ?_ _ | refine bdrew ?_ | refine balloc0 ?_ | refine balloc ?_ ?_ | (apply btrans0; rotate_left; assumption) | (apply btrans; rotate_left; assumption)) | exact Below.refl _ _ | assumption | (apply btrans0; rotate_left; assumption) | (apply btrans; rotate_left; assumption) | (simp; done) | omega | (simp; omega)))) HF.out).mono ?_
  rw [HHO.out]
  simp only
  rintro e w4 ⟨rfl, hb4⟩
  have hB4 : Below w.heap.size w w4 := (by repeat' (first | with_reducible (first | refine bset ?_ ?_ | exact Below.refl _ _ | assumption | refine bdrewN ?_ _ | refine bdrew ?_ | refine balloc0 ?_ | refine balloc ?_ ?_ | (apply btrans0; rotate_left; assumption) | (apply btrans; rotate_left; assumption)) | exact Below.refl _ _ | assumption | (apply btrans0; rotate_left; assumption) | (apply btrans; rotate_left; assumption) | (simp; done) | omega | (simp; omega)))
  have y4 : w3.heap.size ≤ w4.heap.size := by have := hb4.size; (try simp at this); omega
  have za4 : w.heap.size < w4.heap.size := by omega
  have zr4 : w.heap.size + 1 < w4.heap.size := by omega
  have A4 := (hb4.block _ za3).trans HA3.out
  have R4 := (hb4.block _ zr3).trans HR3.out
  have HA4 := Lib.hid A4
  have HR4 := Lib.hid R4
  clear ca3 cr3 fr3
  have ca4 := fun o => cellB A4 o
  have cr4 := fun o => cellB R4 o
  have fr4 := fun o => frozenB R4 o
  simp only [bunC] at ca4
  clear A4 R4 hb4
  go_wp2_with fail
  refine (visited_any b _ _ (HR.out.below' (by repeat' (first | with_reducible (first | refine bset ?_ ?_ | exact Below.refl _ _ | assumption | refine bdrewN ?_ _ | refine bdrew ?_ | refine balloc0 ?_ | refine balloc ?_ ?_ | (apply btrans0; rotate_left; assumption) | (apply btrans; rotate_left; assumption)) | exact Below.refl _ _ | assumption | (apply btrans0; rotate_left; assumption) | (apply btrans; rotate_left; assumption) | (simp; done) | omega | (simp; omega)))) HF.out).mono ?_
  unfold GetPost
  rw [HVI.out]
  simp only
  rintro e w5 ⟨v, rfl, hb5, hri⟩
  have HRI := Lib.hid hri
  clear hri
  have hB5 : Below w.heap.size w w5 := (by repeat' (first | with_reducible (first | refine bset ?_ ?_ | exact Below.refl _ _ | assumption | refine bdrewN ?_ _ | refine bdrew ?_ | refine balloc0 ?_ | refine balloc ?_ ?_ | (apply btrans0; rotate_left; assumption) | (apply btrans; rotate_left; assumption)) | exact Below.refl _ _ | assumption | (apply btrans0; rotate_left; assumption) | (apply btrans; rotate_left; assumption) | (simp; done) | omega | (simp; omega)))
  have y5 : w4.heap.size ≤ w5.heap.size := by have := hb5.size; (try simp at this); omega
  have za5 : w.heap.size < w5.heap.size := by omega
  have zr5 : w.heap.size + 1 < w5.heap.size := by omega
  have A5 := (hb5.block _ za4).trans HA4.out
  have R5 := (hb5.block _ zr4).trans HR4.out
  have HA5 := Lib.hid A5
  have HR5 := Lib.hid R5
  clear ca4 cr4 fr4
  have ca5 := fun o => cellB A5 o
  have cr5 := fun o => cellB R5 o
  have fr5 := fun o => frozenB R5 o
  simp only [bunC] at ca5
  clear A5 R5 hb5
  go_wp2_with fail
  refine (contains_any l _ n _ HRI.out).mono ?_
  rw [HCT.out]
  rintro e w6 ⟨rfl, rfl⟩
  obtain ⟨w5, rfl⟩ : ∃ w5, w5 = w6 := ⟨_, rfl⟩
  have HY5 : Hid (RBlks w5 w5.heap.size (.slice a b.blocks.length c) b.blocks) := Lib.hid (HR.out.below' hB5)
  have HS5 : Hid (Sep w.heap.size (w.heap.size + 1) (.slice a b.blocks.length c) b.blocks) := Lib.hid (Sep.of_arg HR.out (Nat.le_refl _) (by omega))
  have HFb := HF
  go_wp2_with fail
  refine (setAge_any b _ (a0 + el) _ (by exact HY5.out) HFb.out).mono ?_
  unfold BunPost
  rw [HX1.out]
  simp only
  rintro e w6 ⟨u6, rfl, hru, hrf, hb6⟩
  have hB6 : Below w.heap.size w w6 := (by repeat' (first | with_reducible (first | refine bset ?_ ?_ | exact Below.refl _ _ | assumption | refine bdrewN ?_ _ | refine bdrew ?_ | refine balloc0 ?_ | refine balloc ?_ ?_ | (apply btrans0; rotate_left; assumption) | (apply btrans; rotate_left; assumption)) | exact Below.refl _ _ | assumption | (apply btrans0; rotate_left; assumption) | (apply btrans; rotate_left; assumption) | (simp; done) | omega | (simp; omega)))
  have y6 : w5.heap.size ≤ w6.heap.size := hb6.size
  have za6 : w.heap.size < w6.heap.size := by omega
  have zr6 : w.heap.size + 1 < w6.heap.size := by omega
  have HA6 := Lib.hid ((hb6.block _ za5).trans HA5.out)
  have HR6 := Lib.hid ((hb6.block _ zr5).trans HR5.out)
  have HS7 : Hid (Sep w.heap.size (w.heap.size + 1) u6 X1.blocks) := Lib.hid (Sep.of_from hrf za5 zr5)
  obtain ⟨va6, vc6, rfl, g1, g2, g3, g4⟩ := id hru
  have HY6 := Lib.hid hru
  obtain ⟨n6, hn6⟩ : ∃ n, X1.blocks.length = n := ⟨_, rfl⟩
  rw [hn6]
  rw [hn6] at HY6 HS7
  have HN6 := Lib.hid hn6
  clear ca5 cr5 fr5 hru hrf hb6 g1 g2 g3 g4 hn6
  simp only [bunC]
  go_wp2_with (refine wpList_store_block rfl 28 _ _ rfl w.heap.size #[.int .i64 X1.src, .int .i64 X1.crt, .int .i64 X1.seq, .int .i64 X1.off, .int .i64 X1.tot, .int .i64 X1.dk, .int .i64 X1.dn, .int .i64 X1.life, .int .i64 X1.prio, .int .i64 X1.flags, .slice va6 n6 vc6, .string (B X1.payload)] _ 28 rfl rfl HA6.out rfl (by kernel_rfl) (by simp [Value.oneCell']) ?_; intro w7 hW hbW hsW hoW; have hB7 : Below w.heap.size w w7 := hB6.trans (hbW _ (Nat.le_refl _)); have za7 : w.heap.size < w7.heap.size := (by rw [hsW]; exact za6); have zr7 : w.heap.size + 1 < w7.heap.size := (by rw [hsW]; exact zr6); have HA7 := Lib.hid hW; have HR7 := Lib.hid ((hoW _ (by omega)).trans HR6.out); have HY7 : Hid (RBlks w7 w7.heap.size (.slice va6 n6 vc6) X1.blocks) := Lib.hid (RBlks.apart HY6.out HS7.out (fun b o s1 s2 => World.cell?_of_block (hoW b s1)) (by rw [hsW]; exact Nat.le_refl _)); have ca7 := fun o => cellB HA7.out o; have cr7 := fun o => cellB HR7.out o; have fr7 := fun o => frozenB HR7.out o; clear hW hbW hsW hoW)
  go_wp2_with fail
  refine (setHops_any X1 _ h0 (k1 + 1) _ (by exact HY7.out) HFX1.out).mono ?_
  unfold BunPost
  rw [HX2.out]
  simp only
  rintro e w8 ⟨u8, rfl, hru, hrf, hb8⟩
  have hB8 : Below w.heap.size w w8 := (by repeat' (first | with_reducible (first | refine bset ?_ ?_ | exact Below.refl _ _ | assumption | refine bdrewN ?_ _ | refine bdrew ?_ | refine balloc0 ?_ | refine balloc ?_ ?_ | (apply btrans0; rotate_left; assumption) | (apply btrans; rotate_left; assumption)) | exact Below.refl _ _ | assumption | (apply btrans0; rotate_left; assumption) | (apply btrans; rotate_left; assumption) | (simp; done) | omega | (simp; omega)))
  have y8 : w7.heap.size ≤ w8.heap.size := hb8.size
  have za8 : w.heap.size < w8.heap.size := by omega
  have zr8 : w.heap.size + 1 < w8.heap.size := by omega
  have HA8 := Lib.hid ((hb8.block _ za7).trans HA7.out)
  have HR8 := Lib.hid ((hb8.block _ zr7).trans HR7.out)
  have HS9 : Hid (Sep w.heap.size (w.heap.size + 1) u8 X2.blocks) := Lib.hid (Sep.of_from hrf za7 zr7)
  obtain ⟨va8, vc8, rfl, g1, g2, g3, g4⟩ := id hru
  have HY8 := Lib.hid hru
  obtain ⟨n8, hn8⟩ : ∃ n, X2.blocks.length = n := ⟨_, rfl⟩
  rw [hn8]
  rw [hn8] at HY8 HS9
  have HN8 := Lib.hid hn8
  clear ca7 cr7 fr7 hru hrf hb8 g1 g2 g3 g4 hn8
  simp only [bunC]
  go_wp2_with (refine wpList_store_block rfl 28 _ _ rfl w.heap.size #[.int .i64 X2.src, .int .i64 X2.crt, .int .i64 X2.seq, .int .i64 X2.off, .int .i64 X2.tot, .int .i64 X2.dk, .int .i64 X2.dn, .int .i64 X2.life, .int .i64 X2.prio, .int .i64 X2.flags, .slice va8 n8 vc8, .string (B X2.payload)] _ 28 rfl rfl HA8.out rfl (by kernel_rfl) (by simp [Value.oneCell']) ?_; intro w9 hW hbW hsW hoW; have hB9 : Below w.heap.size w w9 := hB8.trans (hbW _ (Nat.le_refl _)); have za9 : w.heap.size < w9.heap.size := (by rw [hsW]; exact za8); have zr9 : w.heap.size + 1 < w9.heap.size := (by rw [hsW]; exact zr8); have HA9 := Lib.hid hW; have HR9 := Lib.hid ((hoW _ (by omega)).trans HR8.out); have HY9 : Hid (RBlks w9 w9.heap.size (.slice va8 n8 vc8) X2.blocks) := Lib.hid (RBlks.apart HY8.out HS9.out (fun b o s1 s2 => World.cell?_of_block (hoW b s1)) (by rw [hsW]; exact Nat.le_refl _)); have ca9 := fun o => cellB HA9.out o; have cr9 := fun o => cellB HR9.out o; have fr9 := fun o => frozenB HR9.out o; clear hW hbW hsW hoW)
  go_wp2_with fail
  refine (visit_any X2 _ n _ (by exact HY9.out) HFX2.out).mono ?_
  unfold BunPost
  rw [HX3.out]
  simp only
  rintro e w10 ⟨u10, rfl, hru, hrf, hb10⟩
  have hB10 : Below w.heap.size w w10 := (by repeat' (first | with_reducible (first | refine bset ?_ ?_ | exact Below.refl _ _ | assumption | refine bdrewN ?_ _ | refine bdrew ?_ | refine balloc0 ?_ | refine balloc ?_ ?_ | (apply btrans0; rotate_left; assumption) | (apply btrans; rotate_left; assumption)) | exact Below.refl _ _ | assumption | (apply btrans0; rotate_left; assumption) | (apply btrans; rotate_left; assumption) | (simp; done) | omega | (simp; omega)))
  have y10 : w9.heap.size ≤ w10.heap.size := hb10.size
  have za10 : w.heap.size < w10.heap.size := by omega
  have zr10 : w.heap.size + 1 < w10.heap.size := by omega
  have HA10 := Lib.hid ((hb10.block _ za9).trans HA9.out)
  have HR10 := Lib.hid ((hb10.block _ zr9).trans HR9.out)
  have HS11 : Hid (Sep w.heap.size (w.heap.size + 1) u10 X3.blocks) := Lib.hid (Sep.of_from hrf za9 zr9)
  obtain ⟨va10, vc10, rfl, g1, g2, g3, g4⟩ := id hru
  have HY10 := Lib.hid hru
  obtain ⟨n10, hn10⟩ : ∃ n, X3.blocks.length = n := ⟨_, rfl⟩
  rw [hn10]
  rw [hn10] at HY10 HS11
  have HN10 := Lib.hid hn10
  clear ca9 cr9 fr9 hru hrf hb10 g1 g2 g3 g4 hn10
  simp only [bunC]
  go_wp2_with (first | (refine wpList_store_block rfl 28 _ _ rfl w.heap.size #[.int .i64 X3.src, .int .i64 X3.crt, .int .i64 X3.seq, .int .i64 X3.off, .int .i64 X3.tot, .int .i64 X3.dk, .int .i64 X3.dn, .int .i64 X3.life, .int .i64 X3.prio, .int .i64 X3.flags, .slice va10 n10 vc10, .string (B X3.payload)] _ 28 rfl rfl HA10.out rfl (by kernel_rfl) (by simp [Value.oneCell']) ?_; intro w11 hW hbW hsW hoW; have hB11 : Below w.heap.size w w11 := hB10.trans (hbW _ (Nat.le_refl _)); have za11 : w.heap.size < w11.heap.size := (by rw [hsW]; exact za10); have zr11 : w.heap.size + 1 < w11.heap.size := (by rw [hsW]; exact zr10); have HA11 := Lib.hid hW; have HR11 := Lib.hid ((hoW _ (by omega)).trans HR10.out); have HY11 : Hid (RBlks w11 w11.heap.size (.slice va10 n10 vc10) X3.blocks) := Lib.hid (RBlks.apart HY10.out HS11.out (fun b o s1 s2 => World.cell?_of_block (hoW b s1)) (by rw [hsW]; exact Nat.le_refl _)); have ca11 := fun o => cellB HA11.out o; have cr11 := fun o => cellB HR11.out o; have fr11 := fun o => frozenB HR11.out o; clear hW hbW hsW hoW) | (refine wpList_store_block rfl 28 _ _ rfl (w.heap.size + 1) #[.int .i64 X3.src, .int .i64 X3.crt, .int .i64 X3.seq, .int .i64 X3.off, .int .i64 X3.tot, .int .i64 X3.dk, .int .i64 X3.dn, .int .i64 X3.life, .int .i64 X3.prio, .int .i64 X3.flags, .slice va10 n10 vc10, .string (B X3.payload)] _ 28 rfl rfl HR11.out rfl (by kernel_rfl) (by simp [Value.oneCell']) ?_; intro wF hW hbW hsW hoW; have hBF : Below w.heap.size w wF := hB11.trans (hbW _ (by omega)); have zF : w.heap.size + 1 < wF.heap.size := (by rw [hsW]; exact zr11); have cF := fun o => cellB hW o; have HYF : Hid (RBlks wF wF.heap.size (.slice va10 n10 vc10) X3.blocks) := Lib.hid (RBlks.apart HY11.out HS11.out (fun b o s1 s2 => World.cell?_of_block (hoW b s2)) (by rw [hsW]; exact Nat.le_refl _)); clear hW hbW hsW hoW))
  refine bodyPost_ret (v := .tuple #[.agg #[.int .i64 X3.src, .int .i64 X3.crt, .int .i64 X3.seq, .int .i64 X3.off, .int .i64 X3.tot, .int .i64 X3.dk, .int .i64 X3.dn, .int .i64 X3.life, .int .i64 X3.prio, .int .i64 X3.flags, .slice va10 n10 vc10, .string (B X3.payload)], .int .i64 0]) (by simp [results, Try.results24, go_sem, cF, zF]) rfl ?_
  unfold FwdPost
  exact ⟨_, rfl, HYF.out, hBF⟩
set_option maxRecDepth 100000 in
set_option maxHeartbeats 8000000 in
theorem fwd_on_on_off (b : Bun) (u : Value) (n el : Int) (w : World) (h : RBlks w w.heap.size u b.blocks) (hf : Fits b) (HE : Hid (chkE b = 0)) (HND : Hid (nodeB n = true)) (r1 : ¬ el < 0) (r2 : ¬ 1099511627776 < el) (hlf : b.life ≤ 1099511627776) (a0 : Int) (HAG : Hid (ageS b = (a0, 0))) (a1 : 0 ≤ a0) (a2 : a0 ≤ 1099511627776) (a3 : a0 + el < b.life) (a4 : ¬ b.life ≤ a0 + el) (h0 k1 : Int) (HHO : Hid (hopS b = (h0, k1, 0))) (p1 : 0 ≤ k1) (p2 : k1 ≤ 255) (p3 : ¬ h0 < k1 + 1) (p4 : k1 + 1 ≤ h0) (p5 : h0 ≤ 255) (l : List Int) (VE : Int) (HVI : Hid (getS b 3 = (l, VE))) (qv : (VE == 11) = false) (qv0 : (VE == 0) = false) (X1 : Bun) (EX1 : Int) (HX1 : Hid (setAgeS b (a0 + el) = (X1, EX1))) (HFX1 : Hid (Fits X1)) (X2 : Bun) (EX2 : Int) (HX2 : Hid (setHopS X1 h0 (k1 + 1) = (X2, EX2))) (HFX2 : Hid (Fits X2))  :
    Calls Try.prog 24 #[.agg (bunC b u).toArray, .int .i64 n, .int .i64 el] w (FwdPost (X2, 0) w) := by
  have HF := Lib.hid hf
  have HR := Lib.hid h
  obtain ⟨a, c, rfl, h1, h2, h3, h4⟩ := h
  clear h1 h2 h3 h4 hf
  go_enter Try.func24, Try.ntmps24
  simp only [bunC]
  go_wp2_with fail
  refine (check_any b _ _ (HR.out.below' (by repeat' (first | with_reducible (first | refine bset ?_ ?_ | exact Below.refl _ _ | assumption | refine bdrewN ?_ _ | refine bdrew ?_ | refine balloc0 ?_ | refine balloc ?_ ?_ | (apply btrans0; rotate_left; assumption) | (apply btrans; rotate_left; assumption)) | exact Below.refl _ _ | assumption | (apply btrans0; rotate_left; assumption) | (apply btrans; rotate_left; assumption) | (simp; done) | omega | (simp; omega)))) HF.out).mono ?_
  rw [HE.out]
  rintro e w1 ⟨rfl, hb1⟩
  have hB1 : Below w.heap.size w w1 := (by repeat' (first | with_reducible (first | refine bset ?_ ?_ | exact Below.refl _ _ | assumption | refine bdrewN ?_ _ | refine bdrew ?_ | refine balloc0 ?_ | refine balloc ?_ ?_ | (apply btrans0; rotate_left; assumption) | (apply btrans; rotate_left; assumption)) | exact Below.refl _ _ | assumption | (apply btrans0; rotate_left; assumption) | (apply btrans; rotate_left; assumption) | (simp; done) | omega | (simp; omega)))
  have zr1 : w.heap.size + 1 < w1.heap.size := by have := hb1.size; simp at this; omega
  have za1 : w.heap.size < w1.heap.size := by omega
  have A1 : w1.heap[w.heap.size]? = some (.cells (bunC b (.slice a b.blocks.length c)).toArray 28 (0, 0)) := (hb1.block _ (by simp; omega)).trans ((Below.heap_alloc _ _ _ (by simp)).trans heap_new)
  have R1 : w1.heap[w.heap.size + 1]? = some (.cells #[.int .i64 0, .int .i64 0, .int .i64 0, .int .i64 0, .int .i64 0, .int .i64 0, .int .i64 0, .int .i64 0, .int .i64 0, .int .i64 0, .slice none 0 0, .string ⟨#[]⟩] 28 (0, 0)) := (hb1.block _ (by simp)).trans (heap_new' (by simp))
  have ca1 := fun o => cellB A1 o
  have cr1 := fun o => cellB R1 o
  have fr1 := fun o => frozenB R1 o
  simp only [bunC] at ca1
  have HA1 := Lib.hid A1
  have HR1 := Lib.hid R1
  clear A1 R1 hb1
  go_wp2_with fail
  refine (node_any n _).mono ?_
  rw [HND.out]
  rintro e w2 ⟨rfl, rfl⟩
  obtain ⟨w1, rfl⟩ : ∃ w1, w1 = w2 := ⟨_, rfl⟩
  go_wp2_with fail
  refine (age_any b _ _ (HR.out.below' (by repeat' (first | with_reducible (first | refine bset ?_ ?_ | exact Below.refl _ _ | assumption | refine bdrewN ?_ _ | refine bdrew ?_ | refine balloc0 ?_ | refine balloc ?_ ?_ | (apply btrans0; rotate_left; assumption) | (apply btrans; rotate_left; assumption)) | exact Below.refl _ _ | assumption | (apply btrans0; rotate_left; assumption) | (apply btrans; rotate_left; assumption) | (simp; done) | omega | (simp; omega)))) HF.out).mono ?_
  rw [HAG.out]
  simp only
  rintro e w3 ⟨rfl, hb3⟩
  have hB3 : Below w.heap.size w w3 := (by repeat' (first | with_reducible (first | refine bset ?_ ?_ | exact Below.refl _ _ | assumption | refine bdrewN ?_ _ | refine bdrew ?_ | refine balloc0 ?_ | refine balloc ?_ ?_ | (apply btrans0; rotate_left; assumption) | (apply btrans; rotate_left; assumption)) | exact Below.refl _ _ | assumption | (apply btrans0; rotate_left; assumption) | (apply btrans; rotate_left; assumption) | (simp; done) | omega | (simp; omega)))
  have y3 : w1.heap.size ≤ w3.heap.size := by have := hb3.size; (try simp at this); omega
  have za3 : w.heap.size < w3.heap.size := by omega
  have zr3 : w.heap.size + 1 < w3.heap.size := by omega
  have A3 := (hb3.block _ za1).trans HA1.out
  have R3 := (hb3.block _ zr1).trans HR1.out
  have HA3 := Lib.hid A3
  have HR3 := Lib.hid R3
  clear ca1 cr1 fr1
  have ca3 := fun o => cellB A3 o
  have cr3 := fun o => cellB R3 o
  have fr3 := fun o => frozenB R3 o
  simp only [bunC] at ca3
  clear A3 R3 hb3
  go_wp2_with fail
  refine (hops_any b _ _ (HR.out.below' (by repeat' (first | with_reducible (first | refine bset ?_ ?_ | exact Below.refl _ _ | assumption | refine bdrewN ?_ _ | refine bdrew ?_ | refine balloc0 ?_ | refine balloc ?_ ?_ | (apply btrans0; rotate_left; assumption) | (apply btrans; rotate_left; assumption)) | exact Below.refl _ _ | assumption | (apply btrans0; rotate_left; assumption) | (apply btrans; rotate_left; assumption) | (simp; done) | omega | (simp; omega)))) HF.out).mono ?_
  rw [HHO.out]
  simp only
  rintro e w4 ⟨rfl, hb4⟩
  have hB4 : Below w.heap.size w w4 := (by repeat' (first | with_reducible (first | refine bset ?_ ?_ | exact Below.refl _ _ | assumption | refine bdrewN ?_ _ | refine bdrew ?_ | refine balloc0 ?_ | refine balloc ?_ ?_ | (apply btrans0; rotate_left; assumption) | (apply btrans; rotate_left; assumption)) | exact Below.refl _ _ | assumption | (apply btrans0; rotate_left; assumption) | (apply btrans; rotate_left; assumption) | (simp; done) | omega | (simp; omega)))
  have y4 : w3.heap.size ≤ w4.heap.size := by have := hb4.size; (try simp at this); omega
  have za4 : w.heap.size < w4.heap.size := by omega
  have zr4 : w.heap.size + 1 < w4.heap.size := by omega
  have A4 := (hb4.block _ za3).trans HA3.out
  have R4 := (hb4.block _ zr3).trans HR3.out
  have HA4 := Lib.hid A4
  have HR4 := Lib.hid R4
  clear ca3 cr3 fr3
  have ca4 := fun o => cellB A4 o
  have cr4 := fun o => cellB R4 o
  have fr4 := fun o => frozenB R4 o
  simp only [bunC] at ca4
  clear A4 R4 hb4
  go_wp2_with fail
  refine (visited_any b _ _ (HR.out.below' (by repeat' (first | with_reducible (first | refine bset ?_ ?_ | exact Below.refl _ _ | assumption | refine bdrewN ?_ _ | refine bdrew ?_ | refine balloc0 ?_ | refine balloc ?_ ?_ | (apply btrans0; rotate_left; assumption) | (apply btrans; rotate_left; assumption)) | exact Below.refl _ _ | assumption | (apply btrans0; rotate_left; assumption) | (apply btrans; rotate_left; assumption) | (simp; done) | omega | (simp; omega)))) HF.out).mono ?_
  unfold GetPost
  rw [HVI.out]
  simp only
  rintro e w5 ⟨v, rfl, hb5, hri⟩
  have HRI := Lib.hid hri
  clear hri
  have hB5 : Below w.heap.size w w5 := (by repeat' (first | with_reducible (first | refine bset ?_ ?_ | exact Below.refl _ _ | assumption | refine bdrewN ?_ _ | refine bdrew ?_ | refine balloc0 ?_ | refine balloc ?_ ?_ | (apply btrans0; rotate_left; assumption) | (apply btrans; rotate_left; assumption)) | exact Below.refl _ _ | assumption | (apply btrans0; rotate_left; assumption) | (apply btrans; rotate_left; assumption) | (simp; done) | omega | (simp; omega)))
  have y5 : w4.heap.size ≤ w5.heap.size := by have := hb5.size; (try simp at this); omega
  have za5 : w.heap.size < w5.heap.size := by omega
  have zr5 : w.heap.size + 1 < w5.heap.size := by omega
  have A5 := (hb5.block _ za4).trans HA4.out
  have R5 := (hb5.block _ zr4).trans HR4.out
  have HA5 := Lib.hid A5
  have HR5 := Lib.hid R5
  clear ca4 cr4 fr4
  have ca5 := fun o => cellB A5 o
  have cr5 := fun o => cellB R5 o
  have fr5 := fun o => frozenB R5 o
  simp only [bunC] at ca5
  clear A5 R5 hb5
  have HY5 : Hid (RBlks w5 w5.heap.size (.slice a b.blocks.length c) b.blocks) := Lib.hid (HR.out.below' hB5)
  have HS5 : Hid (Sep w.heap.size (w.heap.size + 1) (.slice a b.blocks.length c) b.blocks) := Lib.hid (Sep.of_arg HR.out (Nat.le_refl _) (by omega))
  have HFb := HF
  go_wp2_with fail
  refine (setAge_any b _ (a0 + el) _ (by exact HY5.out) HFb.out).mono ?_
  unfold BunPost
  rw [HX1.out]
  simp only
  rintro e w6 ⟨u6, rfl, hru, hrf, hb6⟩
  have hB6 : Below w.heap.size w w6 := (by repeat' (first | with_reducible (first | refine bset ?_ ?_ | exact Below.refl _ _ | assumption | refine bdrewN ?_ _ | refine bdrew ?_ | refine balloc0 ?_ | refine balloc ?_ ?_ | (apply btrans0; rotate_left; assumption) | (apply btrans; rotate_left; assumption)) | exact Below.refl _ _ | assumption | (apply btrans0; rotate_left; assumption) | (apply btrans; rotate_left; assumption) | (simp; done) | omega | (simp; omega)))
  have y6 : w5.heap.size ≤ w6.heap.size := hb6.size
  have za6 : w.heap.size < w6.heap.size := by omega
  have zr6 : w.heap.size + 1 < w6.heap.size := by omega
  have HA6 := Lib.hid ((hb6.block _ za5).trans HA5.out)
  have HR6 := Lib.hid ((hb6.block _ zr5).trans HR5.out)
  have HS7 : Hid (Sep w.heap.size (w.heap.size + 1) u6 X1.blocks) := Lib.hid (Sep.of_from hrf za5 zr5)
  obtain ⟨va6, vc6, rfl, g1, g2, g3, g4⟩ := id hru
  have HY6 := Lib.hid hru
  obtain ⟨n6, hn6⟩ : ∃ n, X1.blocks.length = n := ⟨_, rfl⟩
  rw [hn6]
  rw [hn6] at HY6 HS7
  have HN6 := Lib.hid hn6
  clear ca5 cr5 fr5 hru hrf hb6 g1 g2 g3 g4 hn6
  simp only [bunC]
  go_wp2_with (refine wpList_store_block rfl 28 _ _ rfl w.heap.size #[.int .i64 X1.src, .int .i64 X1.crt, .int .i64 X1.seq, .int .i64 X1.off, .int .i64 X1.tot, .int .i64 X1.dk, .int .i64 X1.dn, .int .i64 X1.life, .int .i64 X1.prio, .int .i64 X1.flags, .slice va6 n6 vc6, .string (B X1.payload)] _ 28 rfl rfl HA6.out rfl (by kernel_rfl) (by simp [Value.oneCell']) ?_; intro w7 hW hbW hsW hoW; have hB7 : Below w.heap.size w w7 := hB6.trans (hbW _ (Nat.le_refl _)); have za7 : w.heap.size < w7.heap.size := (by rw [hsW]; exact za6); have zr7 : w.heap.size + 1 < w7.heap.size := (by rw [hsW]; exact zr6); have HA7 := Lib.hid hW; have HR7 := Lib.hid ((hoW _ (by omega)).trans HR6.out); have HY7 : Hid (RBlks w7 w7.heap.size (.slice va6 n6 vc6) X1.blocks) := Lib.hid (RBlks.apart HY6.out HS7.out (fun b o s1 s2 => World.cell?_of_block (hoW b s1)) (by rw [hsW]; exact Nat.le_refl _)); have ca7 := fun o => cellB HA7.out o; have cr7 := fun o => cellB HR7.out o; have fr7 := fun o => frozenB HR7.out o; clear hW hbW hsW hoW)
  go_wp2_with fail
  refine (setHops_any X1 _ h0 (k1 + 1) _ (by exact HY7.out) HFX1.out).mono ?_
  unfold BunPost
  rw [HX2.out]
  simp only
  rintro e w8 ⟨u8, rfl, hru, hrf, hb8⟩
  have hB8 : Below w.heap.size w w8 := (by repeat' (first | with_reducible (first | refine bset ?_ ?_ | exact Below.refl _ _ | assumption | refine bdrewN ?_ _ | refine bdrew ?_ | refine balloc0 ?_ | refine balloc ?_ ?_ | (apply btrans0; rotate_left; assumption) | (apply btrans; rotate_left; assumption)) | exact Below.refl _ _ | assumption | (apply btrans0; rotate_left; assumption) | (apply btrans; rotate_left; assumption) | (simp; done) | omega | (simp; omega)))
  have y8 : w7.heap.size ≤ w8.heap.size := hb8.size
  have za8 : w.heap.size < w8.heap.size := by omega
  have zr8 : w.heap.size + 1 < w8.heap.size := by omega
  have HA8 := Lib.hid ((hb8.block _ za7).trans HA7.out)
  have HR8 := Lib.hid ((hb8.block _ zr7).trans HR7.out)
  have HS9 : Hid (Sep w.heap.size (w.heap.size + 1) u8 X2.blocks) := Lib.hid (Sep.of_from hrf za7 zr7)
  obtain ⟨va8, vc8, rfl, g1, g2, g3, g4⟩ := id hru
  have HY8 := Lib.hid hru
  obtain ⟨n8, hn8⟩ : ∃ n, X2.blocks.length = n := ⟨_, rfl⟩
  rw [hn8]
  rw [hn8] at HY8 HS9
  have HN8 := Lib.hid hn8
  clear ca7 cr7 fr7 hru hrf hb8 g1 g2 g3 g4 hn8
  simp only [bunC]
  go_wp2_with (first | (refine wpList_store_block rfl 28 _ _ rfl w.heap.size #[.int .i64 X2.src, .int .i64 X2.crt, .int .i64 X2.seq, .int .i64 X2.off, .int .i64 X2.tot, .int .i64 X2.dk, .int .i64 X2.dn, .int .i64 X2.life, .int .i64 X2.prio, .int .i64 X2.flags, .slice va8 n8 vc8, .string (B X2.payload)] _ 28 rfl rfl HA8.out rfl (by kernel_rfl) (by simp [Value.oneCell']) ?_; intro w9 hW hbW hsW hoW; have hB9 : Below w.heap.size w w9 := hB8.trans (hbW _ (Nat.le_refl _)); have za9 : w.heap.size < w9.heap.size := (by rw [hsW]; exact za8); have zr9 : w.heap.size + 1 < w9.heap.size := (by rw [hsW]; exact zr8); have HA9 := Lib.hid hW; have HR9 := Lib.hid ((hoW _ (by omega)).trans HR8.out); have HY9 : Hid (RBlks w9 w9.heap.size (.slice va8 n8 vc8) X2.blocks) := Lib.hid (RBlks.apart HY8.out HS9.out (fun b o s1 s2 => World.cell?_of_block (hoW b s1)) (by rw [hsW]; exact Nat.le_refl _)); have ca9 := fun o => cellB HA9.out o; have cr9 := fun o => cellB HR9.out o; have fr9 := fun o => frozenB HR9.out o; clear hW hbW hsW hoW) | (refine wpList_store_block rfl 28 _ _ rfl (w.heap.size + 1) #[.int .i64 X2.src, .int .i64 X2.crt, .int .i64 X2.seq, .int .i64 X2.off, .int .i64 X2.tot, .int .i64 X2.dk, .int .i64 X2.dn, .int .i64 X2.life, .int .i64 X2.prio, .int .i64 X2.flags, .slice va8 n8 vc8, .string (B X2.payload)] _ 28 rfl rfl HR9.out rfl (by kernel_rfl) (by simp [Value.oneCell']) ?_; intro wF hW hbW hsW hoW; have hBF : Below w.heap.size w wF := hB9.trans (hbW _ (by omega)); have zF : w.heap.size + 1 < wF.heap.size := (by rw [hsW]; exact zr9); have cF := fun o => cellB hW o; have HYF : Hid (RBlks wF wF.heap.size (.slice va8 n8 vc8) X2.blocks) := Lib.hid (RBlks.apart HY9.out HS9.out (fun b o s1 s2 => World.cell?_of_block (hoW b s2)) (by rw [hsW]; exact Nat.le_refl _)); clear hW hbW hsW hoW))
  refine bodyPost_ret (v := .tuple #[.agg #[.int .i64 X2.src, .int .i64 X2.crt, .int .i64 X2.seq, .int .i64 X2.off, .int .i64 X2.tot, .int .i64 X2.dk, .int .i64 X2.dn, .int .i64 X2.life, .int .i64 X2.prio, .int .i64 X2.flags, .slice va8 n8 vc8, .string (B X2.payload)], .int .i64 0]) (by simp [results, Try.results24, go_sem, cF, zF]) rfl ?_
  unfold FwdPost
  exact ⟨_, rfl, HYF.out, hBF⟩
end Go.Proofs.Ythgokfceakbjlaa
