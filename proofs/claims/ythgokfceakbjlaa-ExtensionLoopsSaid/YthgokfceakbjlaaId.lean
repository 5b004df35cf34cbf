/- Layer 14, the reference: put. -/
import Derived.Test.YthgokfceakbjlaaIa
import Derived.Test.YthgokfceakbjlaaAy
set_option linter.unusedVariables false
set_option linter.unusedSimpArgs false
namespace Go.Proofs.Ythgokfceakbjlaa
open Go Go.RowKit
attribute [local go_sem] B_getElem B_size B_app B_extract B_get B_toList

/-- no block lies in cells like these -/
def NoBlk (cs : Array Value) : Prop := ∀ (o : Nat) x y s, cs[o]? = some (.int .i64 x) → cs[o + 1]? = some (.int .i64 y) → cs[o + 2]? = some (.string s) → False
theorem noBlk12 {k0 k1 k2 k3 k4 k5 k6 k7 k8 k9 : IntKind} {a0 a1 a2 a3 a4 a5 a6 a7 a8 a9 : Int} {a : Option Addr} {n c : Nat} {s} : NoBlk #[.int k0 a0, .int k1 a1, .int k2 a2, .int k3 a3, .int k4 a4, .int k5 a5, .int k6 a6, .int k7 a7, .int k8 a8, .int k9 a9, .slice a n c, .string s] := by
  intro o x y t h1 h2 h3
  rcases o with _ | _ | _ | _ | _ | _ | _ | _ | _ | _ | o <;> simp at h1 h2 h3
theorem noBlk_bun (b : Bun) (a : Option Addr) (n c : Nat) : NoBlk (bunC b (.slice a n c)).toArray := by
  unfold bunC; exact noBlk12
/-- a row of blocks does not lie in a bundle's box -/
theorem Sep.box {w : World} {N g : Nat} {v : Value} {l : List Blk} {cs : Array Value} {t : TypeId} (h : RBlks w N v l) (h1 : w.heap[g]? = some (.cells cs t (0, 0))) (hn : NoBlk cs) : Sep g g v l := fun hp b o n c e => by
  obtain ⟨a, c', rfl, _, _, _, h4⟩ := h
  obtain ⟨b', o', e', hb, hi⟩ := h4 hp
  subst e'
  injection e with e _ _
  injection e with e
  injection e with e e2 _
  subst e e2
  obtain ⟨c1, c2, c3⟩ := hi 0 l[0] (List.getElem?_eq_getElem hp)
  rw [Nat.zero_mul, Nat.add_zero] at c1 c2 c3
  have : b' ≠ g := fun e => by
    subst e
    rw [cellB h1] at c1 c2 c3
    exact hn _ _ _ _ c1 c2 c3
  exact ⟨this, this⟩
theorem Sep.two {g1 g2 : Nat} {v : Value} {l : List Blk} (h1 : Sep g1 g1 v l) (h2 : Sep g2 g2 v l) : Sep g1 g2 v l := fun hp b o n c e => ⟨(h1 hp b o n c e).1, (h2 hp b o n c e).1⟩
set_option maxRecDepth 100000 in
set_option maxHeartbeats 8000000 in
theorem rput_true (b : Bun) (u : Value) (kind : Int) (s : List UInt8) (x : Blk) (w : World) (h : RBlks w w.heap.size u b.blocks) (hf : Fits b) (hv : chkE b = 0) (k1 : 1 ≤ kind) (k2 : kind ≤ 255) (hs : s.length ≤ 1024) (hfi : findS b.blocks kind = (x, true)) :
    Calls Try.prog 39 #[.agg (bunC b u).toArray, .int .i64 kind, .string (B s)] w (FwdPost (setS b kind s) w) := by
  have HF := Lib.hid hf
  have HR := Lib.hid h
  obtain ⟨a, c, rfl, h1, h2, h3, h4⟩ := h
  clear h1 h2 h3 h4 hf
  obtain ⟨xk, xf, xd⟩ := x
  obtain rfl : kind = xk := by
    rcases find_cases b.blocks kind with ⟨h3, _⟩ | ⟨y, hy, hk, h3⟩
    · rw [h3] at hfi; simp at hfi
    · rw [h3] at hfi; simp only [Prod.mk.injEq, and_true] at hfi; subst hfi; exact hk.symm
  have hY : setBlk b kind s = ⟨kind, xf, s⟩ := by unfold setBlk; rw [hfi]
  have hpe := put_err hv k1 k2 hs
  rw [hY] at hpe
  obtain ⟨L, hp⟩ : ∃ q, putL b.blocks ⟨kind, xf, s⟩ = q := ⟨_, rfl⟩
  rw [hp] at hpe
  have HFI := Lib.hid hfi
  clear hY hfi hp hv
  rcases hpe with ⟨_, hP, e⟩ | ⟨_, hP, e⟩
  · rw [e]
    have HP := Lib.hid hP
    clear hP e
    go_enter Try.func39, Try.ntmps39
    simp only [bunC]
    go_wp2_with fail
    refine (rfind_any b.blocks _ kind _ (HR.out.below' (by repeat' (first | with_reducible (first | refine bset ?_ ?_ | exact Below.refl _ _ | assumption | refine bdrewN ?_ _ | refine bdrew ?_ | refine balloc0 ?_ | refine balloc ?_ ?_ | (apply btrans0; rotate_left; assumption) | (apply btrans; rotate_left; assumption)) | exact Below.refl _ _ | assumption | (apply btrans0; rotate_left; assumption) | (apply btrans; rotate_left; assumption) | (simp; done) | omega | (simp; omega))))).mono ?_
    rw [HFI.out]
    simp only [zBlk]
    rintro e w1 ⟨rfl, hb1⟩
    have hB1 : Below w.heap.size w w1 := (by repeat' (first | with_reducible (first | refine bset ?_ ?_ | exact Below.refl _ _ | assumption | refine bdrewN ?_ _ | refine bdrew ?_ | refine balloc0 ?_ | refine balloc ?_ ?_ | (apply btrans0; rotate_left; assumption) | (apply btrans; rotate_left; assumption)) | exact Below.refl _ _ | assumption | (apply btrans0; rotate_left; assumption) | (apply btrans; rotate_left; assumption) | (simp; done) | omega | (simp; omega)))
    have z1 : w.heap.size + 2 < w1.heap.size := by have := hb1.size; simp at this; omega
    have z1a : w.heap.size < w1.heap.size := by omega
    have z1b : w.heap.size + 1 < w1.heap.size := by omega
    have A1 : w1.heap[w.heap.size]? = some (.cells (bunC b (.slice a b.blocks.length c)).toArray 28 (0, 0)) := (hb1.block _ (by first | omega | (simp; done) | (simp; omega))).trans (by repeat (first | exact heap_new' (by first | rfl | (simp; done)) | refine (Below.heap_alloc _ _ _ (by first | (simp; done) | (simp; omega))).trans ?_))
    have R1 : w1.heap[w.heap.size + 1]? = some (.cells #[.int .i64 0, .int .i64 0, .int .i64 0, .int .i64 0, .int .i64 0, .int .i64 0, .int .i64 0, .int .i64 0, .int .i64 0, .int .i64 0, .slice none 0 0, .string ⟨#[]⟩] 28 (0, 0)) := (hb1.block _ (by first | omega | (simp; done) | (simp; omega))).trans (by repeat (first | exact heap_new' (by first | rfl | (simp; done)) | refine (Below.heap_alloc _ _ _ (by first | (simp; done) | (simp; omega))).trans ?_))
    have X1 : w1.heap[w.heap.size + 2]? = some (.cells #[.int .i64 kind, .int .i64 1, .string (B s)] 56 (0, 0)) := (hb1.block _ (by simp)).trans (by repeat (first | exact heap_new' (by first | rfl | (simp; done)) | refine (Below.heap_alloc _ _ _ (by first | (simp; done) | (simp; omega))).trans ?_))
    have ca := fun o => cellB A1 o
    have cx := fun o => cellB X1 o
    have fx := fun o => frozenB X1 o
    simp only [bunC] at ca
    have HA1 := Lib.hid A1
    have HR1 := Lib.hid R1
    have HX1 := Lib.hid X1
    clear A1 R1 X1 hb1
    go_wp2_with fail
    refine (rput_any b.blocks _ ⟨kind, xf, s⟩ _ (HR.out.below' (by repeat' (first | with_reducible (first | refine bset ?_ ?_ | exact Below.refl _ _ | assumption | refine bdrewN ?_ _ | refine bdrew ?_ | refine balloc0 ?_ | refine balloc ?_ ?_ | (apply btrans0; rotate_left; assumption) | (apply btrans; rotate_left; assumption)) | exact Below.refl _ _ | assumption | (apply btrans0; rotate_left; assumption) | (apply btrans; rotate_left; assumption) | (simp; done) | omega | (simp; omega)))) HF.out.2 (by simp only; unfold maxLen; omega)).mono ?_
    unfold RPutPost
    rw [HP.out]
    simp only
    rintro e w2 ⟨v, rfl, hv, hb2⟩
    have hB2 : Below w.heap.size w w2 := (by repeat' (first | with_reducible (first | refine bset ?_ ?_ | exact Below.refl _ _ | assumption | refine bdrewN ?_ _ | refine bdrew ?_ | refine balloc0 ?_ | refine balloc ?_ ?_ | (apply btrans0; rotate_left; assumption) | (apply btrans; rotate_left; assumption)) | exact Below.refl _ _ | assumption | (apply btrans0; rotate_left; assumption) | (apply btrans; rotate_left; assumption) | (simp; done) | omega | (simp; omega)))
    have z2 : w1.heap.size < w2.heap.size := by have := hb2.size; simp at this; omega
    have z2a : w.heap.size < w2.heap.size := by omega
    have z2b : w.heap.size + 1 < w2.heap.size := by omega
    have A2 : w2.heap[w.heap.size]? = some (.cells (bunC b (.slice a b.blocks.length c)).toArray 28 (0, 0)) := (hb2.block w.heap.size (by simp; omega)).trans (by repeat (first | exact HA1.out | refine (heap_setCell_other _ _ _ _ (by first | omega | (simp; done) | (simp; omega))).trans ?_ | refine (Below.heap_alloc _ _ _ (by first | omega | (simp; done) | (simp; omega))).trans ?_))
    have R2 : w2.heap[w.heap.size + 1]? = some (.cells #[.int .i64 0, .int .i64 0, .int .i64 0, .int .i64 0, .int .i64 0, .int .i64 0, .int .i64 0, .int .i64 0, .int .i64 0, .int .i64 0, .slice none 0 0, .string ⟨#[]⟩] 28 (0, 0)) := (hb2.block (w.heap.size + 1) (by simp; omega)).trans (by repeat (first | exact HR1.out | refine (heap_setCell_other _ _ _ _ (by first | omega | (simp; done) | (simp; omega))).trans ?_ | refine (Below.heap_alloc _ _ _ (by first | omega | (simp; done) | (simp; omega))).trans ?_))
    clear ca cx fx
    have ca := fun o => cellB A2 o
    have fa := fun o => frozenB A2 o
    simp only [bunC] at ca
    have cr := fun o => cellB R2 o
    have fr := fun o => frozenB R2 o
    have HA2 := Lib.hid A2
    have HR2 := Lib.hid R2
    clear A2 R2 hb2
    clear hv
    go_wp2
    refine bodyPost_ret (v := .tuple #[.agg #[.int .i64 0, .int .i64 0, .int .i64 0, .int .i64 0, .int .i64 0, .int .i64 0, .int .i64 0, .int .i64 0, .int .i64 0, .int .i64 0, .slice none 0 0, .string ⟨#[]⟩], .int .i64 4]) (by simp [results, Try.results39, go_sem, World.cell?_setCell_same', cr, z2b]) rfl ?_
    unfold FwdPost
    exact ⟨_, rfl, RBlks.nil _ _, (by repeat' (first | with_reducible (first | refine bset ?_ ?_ | exact Below.refl _ _ | assumption | refine bdrewN ?_ _ | refine bdrew ?_ | refine balloc0 ?_ | refine balloc ?_ ?_ | (apply btrans0; rotate_left; assumption) | (apply btrans; rotate_left; assumption)) | exact Below.refl _ _ | assumption | (apply btrans0; rotate_left; assumption) | (apply btrans; rotate_left; assumption) | (simp; done) | omega | (simp; omega)))⟩
  · rw [e]
    have HP := Lib.hid hP
    clear hP e
    go_enter Try.func39, Try.ntmps39
    simp only [bunC]
    go_wp2_with fail
    refine (rfind_any b.blocks _ kind _ (HR.out.below' (by repeat' (first | with_reducible (first | refine bset ?_ ?_ | exact Below.refl _ _ | assumption | refine bdrewN ?_ _ | refine bdrew ?_ | refine balloc0 ?_ | refine balloc ?_ ?_ | (apply btrans0; rotate_left; assumption) | (apply btrans; rotate_left; assumption)) | exact Below.refl _ _ | assumption | (apply btrans0; rotate_left; assumption) | (apply btrans; rotate_left; assumption) | (simp; done) | omega | (simp; omega))))).mono ?_
    rw [HFI.out]
    simp only [zBlk]
    rintro e w1 ⟨rfl, hb1⟩
    have hB1 : Below w.heap.size w w1 := (by repeat' (first | with_reducible (first | refine bset ?_ ?_ | exact Below.refl _ _ | assumption | refine bdrewN ?_ _ | refine bdrew ?_ | refine balloc0 ?_ | refine balloc ?_ ?_ | (apply btrans0; rotate_left; assumption) | (apply btrans; rotate_left; assumption)) | exact Below.refl _ _ | assumption | (apply btrans0; rotate_left; assumption) | (apply btrans; rotate_left; assumption) | (simp; done) | omega | (simp; omega)))
    have z1 : w.heap.size + 2 < w1.heap.size := by have := hb1.size; simp at this; omega
    have z1a : w.heap.size < w1.heap.size := by omega
    have z1b : w.heap.size + 1 < w1.heap.size := by omega
    have A1 : w1.heap[w.heap.size]? = some (.cells (bunC b (.slice a b.blocks.length c)).toArray 28 (0, 0)) := (hb1.block _ (by first | omega | (simp; done) | (simp; omega))).trans (by repeat (first | exact heap_new' (by first | rfl | (simp; done)) | refine (Below.heap_alloc _ _ _ (by first | (simp; done) | (simp; omega))).trans ?_))
    have R1 : w1.heap[w.heap.size + 1]? = some (.cells #[.int .i64 0, .int .i64 0, .int .i64 0, .int .i64 0, .int .i64 0, .int .i64 0, .int .i64 0, .int .i64 0, .int .i64 0, .int .i64 0, .slice none 0 0, .string ⟨#[]⟩] 28 (0, 0)) := (hb1.block _ (by first | omega | (simp; done) | (simp; omega))).trans (by repeat (first | exact heap_new' (by first | rfl | (simp; done)) | refine (Below.heap_alloc _ _ _ (by first | (simp; done) | (simp; omega))).trans ?_))
    have X1 : w1.heap[w.heap.size + 2]? = some (.cells #[.int .i64 kind, .int .i64 1, .string (B s)] 56 (0, 0)) := (hb1.block _ (by simp)).trans (by repeat (first | exact heap_new' (by first | rfl | (simp; done)) | refine (Below.heap_alloc _ _ _ (by first | (simp; done) | (simp; omega))).trans ?_))
    have ca := fun o => cellB A1 o
    have cx := fun o => cellB X1 o
    have fx := fun o => frozenB X1 o
    simp only [bunC] at ca
    have HA1 := Lib.hid A1
    have HR1 := Lib.hid R1
    have HX1 := Lib.hid X1
    clear A1 R1 X1 hb1
    go_wp2_with fail
    refine (rput_any b.blocks _ ⟨kind, xf, s⟩ _ (HR.out.below' (by repeat' (first | with_reducible (first | refine bset ?_ ?_ | exact Below.refl _ _ | assumption | refine bdrewN ?_ _ | refine bdrew ?_ | refine balloc0 ?_ | refine balloc ?_ ?_ | (apply btrans0; rotate_left; assumption) | (apply btrans; rotate_left; assumption)) | exact Below.refl _ _ | assumption | (apply btrans0; rotate_left; assumption) | (apply btrans; rotate_left; assumption) | (simp; done) | omega | (simp; omega)))) HF.out.2 (by simp only; unfold maxLen; omega)).mono ?_
    unfold RPutPost
    rw [HP.out]
    simp only
    rintro e w2 ⟨v, rfl, hv, hb2⟩
    have hB2 : Below w.heap.size w w2 := (by repeat' (first | with_reducible (first | refine bset ?_ ?_ | exact Below.refl _ _ | assumption | refine bdrewN ?_ _ | refine bdrew ?_ | refine balloc0 ?_ | refine balloc ?_ ?_ | (apply btrans0; rotate_left; assumption) | (apply btrans; rotate_left; assumption)) | exact Below.refl _ _ | assumption | (apply btrans0; rotate_left; assumption) | (apply btrans; rotate_left; assumption) | (simp; done) | omega | (simp; omega)))
    have z2 : w1.heap.size < w2.heap.size := by have := hb2.size; simp at this; omega
    have z2a : w.heap.size < w2.heap.size := by omega
    have z2b : w.heap.size + 1 < w2.heap.size := by omega
    have A2 : w2.heap[w.heap.size]? = some (.cells (bunC b (.slice a b.blocks.length c)).toArray 28 (0, 0)) := (hb2.block w.heap.size (by simp; omega)).trans (by repeat (first | exact HA1.out | refine (heap_setCell_other _ _ _ _ (by first | omega | (simp; done) | (simp; omega))).trans ?_ | refine (Below.heap_alloc _ _ _ (by first | omega | (simp; done) | (simp; omega))).trans ?_))
    have R2 : w2.heap[w.heap.size + 1]? = some (.cells #[.int .i64 0, .int .i64 0, .int .i64 0, .int .i64 0, .int .i64 0, .int .i64 0, .int .i64 0, .int .i64 0, .int .i64 0, .int .i64 0, .slice none 0 0, .string ⟨#[]⟩] 28 (0, 0)) := (hb2.block (w.heap.size + 1) (by simp; omega)).trans (by repeat (first | exact HR1.out | refine (heap_setCell_other _ _ _ _ (by first | omega | (simp; done) | (simp; omega))).trans ?_ | refine (Below.heap_alloc _ _ _ (by first | omega | (simp; done) | (simp; omega))).trans ?_))
    clear ca cx fx
    have ca := fun o => cellB A2 o
    have fa := fun o => frozenB A2 o
    simp only [bunC] at ca
    have cr := fun o => cellB R2 o
    have fr := fun o => frozenB R2 o
    have HA2 := Lib.hid A2
    have HR2 := Lib.hid R2
    clear A2 R2 hb2
    have hsp : Sep w.heap.size (w.heap.size + 1) v L := (Sep.box hv HA2.out (noBlk_bun _ _ _ _)).two (Sep.box hv HR2.out noBlk12)
    obtain ⟨va, vc, rfl, h1, h2, h3, h4⟩ := id hv
    have HV := Lib.hid hv
    have HSP := Lib.hid hsp
    obtain ⟨n, hn⟩ : ∃ n, L.length = n := ⟨_, rfl⟩
    rw [hn] at HV HSP ⊢
    have HN := Lib.hid hn
    clear h1 h2 h3 h4 hv hn hsp cr fr
    go_wp2_with (refine wpList_store_block rfl 28 _ _ rfl (w.heap.size + 1) #[.int .i64 b.src, .int .i64 b.crt, .int .i64 b.seq, .int .i64 b.off, .int .i64 b.tot, .int .i64 b.dk, .int .i64 b.dn, .int .i64 b.life, .int .i64 b.prio, .int .i64 b.flags, .slice va n vc, .string (B b.payload)] _ 28 rfl rfl ((heap_setCell_other _ _ _ _ (by simp)).trans HR2.out) rfl (by kernel_rfl) (by simp [Value.oneCell']) ?_; intro W hW hbW hsW hoW; have hBW : Below w.heap.size w W := (bset hB2 (by simp)).trans (hbW _ (by omega)); have HVW : Hid (RBlks W W.heap.size (.slice va n vc) L) := Lib.hid (RBlks.apart HV.out HSP.out (fun q o hq hq2 => World.cell?_of_block ((hoW q (by omega)).trans (heap_setCell_other _ _ _ _ (by simp; omega)))) (by rw [hsW]; simp)); have cW := fun o => cellB hW o; have zW : w.heap.size + 1 < W.heap.size := (by rw [hsW]; simp; omega); clear hW hbW hsW hoW ca fa)
    refine bodyPost_ret (v := .tuple #[.agg #[.int .i64 b.src, .int .i64 b.crt, .int .i64 b.seq, .int .i64 b.off, .int .i64 b.tot, .int .i64 b.dk, .int .i64 b.dn, .int .i64 b.life, .int .i64 b.prio, .int .i64 b.flags, .slice va n vc, .string (B b.payload)], .int .i64 0]) (by simp [results, Try.results39, go_sem, cW, zW]) rfl ?_
    unfold FwdPost
    exact ⟨_, rfl, HVW.out, hBW⟩
set_option maxRecDepth 100000 in
set_option maxHeartbeats 8000000 in
theorem rput_false (b : Bun) (u : Value) (kind : Int) (s : List UInt8) (x : Blk) (w : World) (h : RBlks w w.heap.size u b.blocks) (hf : Fits b) (hv : chkE b = 0) (k1 : 1 ≤ kind) (k2 : kind ≤ 255) (hs : s.length ≤ 1024) (hfi : findS b.blocks kind = (x, false)) :
    Calls Try.prog 39 #[.agg (bunC b u).toArray, .int .i64 kind, .string (B s)] w (FwdPost (setS b kind s) w) := by
  have HF := Lib.hid hf
  have HR := Lib.hid h
  obtain ⟨a, c, rfl, h1, h2, h3, h4⟩ := h
  clear h1 h2 h3 h4 hf
  obtain ⟨xk, xf, xd⟩ := x
  have hY : setBlk b kind s = ⟨kind, 1, s⟩ := by unfold setBlk; rw [hfi]
  have hpe := put_err hv k1 k2 hs
  rw [hY] at hpe
  obtain ⟨L, hp⟩ : ∃ q, putL b.blocks ⟨kind, 1, s⟩ = q := ⟨_, rfl⟩
  rw [hp] at hpe
  have HFI : Hid (findS b.blocks kind = (zBlk, false)) := Lib.hid (by rcases find_cases b.blocks kind with ⟨h3, _⟩ | ⟨y, hy, hk, h3⟩; exact h3; rw [h3] at hfi; simp at hfi)
  clear hY hfi hp hv
  rcases hpe with ⟨_, hP, e⟩ | ⟨_, hP, e⟩
  · rw [e]
    have HP := Lib.hid hP
    clear hP e
    go_enter Try.func39, Try.ntmps39
    simp only [bunC]
    go_wp2_with fail
    refine (rfind_any b.blocks _ kind _ (HR.out.below' (by repeat' (first | with_reducible (first | refine bset ?_ ?_ | exact Below.refl _ _ | assumption | refine bdrewN ?_ _ | refine bdrew ?_ | refine balloc0 ?_ | refine balloc ?_ ?_ | (apply btrans0; rotate_left; assumption) | (apply btrans; rotate_left; assumption)) | exact Below.refl _ _ | assumption | (apply btrans0; rotate_left; assumption) | (apply btrans; rotate_left; assumption) | (simp; done) | omega | (simp; omega))))).mono ?_
    rw [HFI.out]
    simp only [zBlk]
    rintro e w1 ⟨rfl, hb1⟩
    have hB1 : Below w.heap.size w w1 := (by repeat' (first | with_reducible (first | refine bset ?_ ?_ | exact Below.refl _ _ | assumption | refine bdrewN ?_ _ | refine bdrew ?_ | refine balloc0 ?_ | refine balloc ?_ ?_ | (apply btrans0; rotate_left; assumption) | (apply btrans; rotate_left; assumption)) | exact Below.refl _ _ | assumption | (apply btrans0; rotate_left; assumption) | (apply btrans; rotate_left; assumption) | (simp; done) | omega | (simp; omega)))
    have z1 : w.heap.size + 2 < w1.heap.size := by have := hb1.size; simp at this; omega
    have z1a : w.heap.size < w1.heap.size := by omega
    have z1b : w.heap.size + 1 < w1.heap.size := by omega
    have A1 : w1.heap[w.heap.size]? = some (.cells (bunC b (.slice a b.blocks.length c)).toArray 28 (0, 0)) := (hb1.block _ (by first | omega | (simp; done) | (simp; omega))).trans (by repeat (first | exact heap_new' (by first | rfl | (simp; done)) | refine (Below.heap_alloc _ _ _ (by first | (simp; done) | (simp; omega))).trans ?_))
    have R1 : w1.heap[w.heap.size + 1]? = some (.cells #[.int .i64 0, .int .i64 0, .int .i64 0, .int .i64 0, .int .i64 0, .int .i64 0, .int .i64 0, .int .i64 0, .int .i64 0, .int .i64 0, .slice none 0 0, .string ⟨#[]⟩] 28 (0, 0)) := (hb1.block _ (by first | omega | (simp; done) | (simp; omega))).trans (by repeat (first | exact heap_new' (by first | rfl | (simp; done)) | refine (Below.heap_alloc _ _ _ (by first | (simp; done) | (simp; omega))).trans ?_))
    have X1 : w1.heap[w.heap.size + 2]? = some (.cells #[.int .i64 kind, .int .i64 1, .string (B s)] 56 (0, 0)) := (hb1.block _ (by simp)).trans (by repeat (first | exact heap_new' (by first | rfl | (simp; done)) | refine (Below.heap_alloc _ _ _ (by first | (simp; done) | (simp; omega))).trans ?_))
    have ca := fun o => cellB A1 o
    have cx := fun o => cellB X1 o
    have fx := fun o => frozenB X1 o
    simp only [bunC] at ca
    have HA1 := Lib.hid A1
    have HR1 := Lib.hid R1
    have HX1 := Lib.hid X1
    clear A1 R1 X1 hb1
    go_wp2_with fail
    refine (rput_any b.blocks _ ⟨kind, 1, s⟩ _ (HR.out.below' (by repeat' (first | with_reducible (first | refine bset ?_ ?_ | exact Below.refl _ _ | assumption | refine bdrewN ?_ _ | refine bdrew ?_ | refine balloc0 ?_ | refine balloc ?_ ?_ | (apply btrans0; rotate_left; assumption) | (apply btrans; rotate_left; assumption)) | exact Below.refl _ _ | assumption | (apply btrans0; rotate_left; assumption) | (apply btrans; rotate_left; assumption) | (simp; done) | omega | (simp; omega)))) HF.out.2 (by simp only; unfold maxLen; omega)).mono ?_
    unfold RPutPost
    rw [HP.out]
    simp only
    rintro e w2 ⟨v, rfl, hv, hb2⟩
    have hB2 : Below w.heap.size w w2 := (by repeat' (first | with_reducible (first | refine bset ?_ ?_ | exact Below.refl _ _ | assumption | refine bdrewN ?_ _ | refine bdrew ?_ | refine balloc0 ?_ | refine balloc ?_ ?_ | (apply btrans0; rotate_left; assumption) | (apply btrans; rotate_left; assumption)) | exact Below.refl _ _ | assumption | (apply btrans0; rotate_left; assumption) | (apply btrans; rotate_left; assumption) | (simp; done) | omega | (simp; omega)))
    have z2 : w1.heap.size < w2.heap.size := by have := hb2.size; simp at this; omega
    have z2a : w.heap.size < w2.heap.size := by omega
    have z2b : w.heap.size + 1 < w2.heap.size := by omega
    have A2 : w2.heap[w.heap.size]? = some (.cells (bunC b (.slice a b.blocks.length c)).toArray 28 (0, 0)) := (hb2.block w.heap.size (by simp; omega)).trans (by repeat (first | exact HA1.out | refine (heap_setCell_other _ _ _ _ (by first | omega | (simp; done) | (simp; omega))).trans ?_ | refine (Below.heap_alloc _ _ _ (by first | omega | (simp; done) | (simp; omega))).trans ?_))
    have R2 : w2.heap[w.heap.size + 1]? = some (.cells #[.int .i64 0, .int .i64 0, .int .i64 0, .int .i64 0, .int .i64 0, .int .i64 0, .int .i64 0, .int .i64 0, .int .i64 0, .int .i64 0, .slice none 0 0, .string ⟨#[]⟩] 28 (0, 0)) := (hb2.block (w.heap.size + 1) (by simp; omega)).trans (by repeat (first | exact HR1.out | refine (heap_setCell_other _ _ _ _ (by first | omega | (simp; done) | (simp; omega))).trans ?_ | refine (Below.heap_alloc _ _ _ (by first | omega | (simp; done) | (simp; omega))).trans ?_))
    clear ca cx fx
    have ca := fun o => cellB A2 o
    have fa := fun o => frozenB A2 o
    simp only [bunC] at ca
    have cr := fun o => cellB R2 o
    have fr := fun o => frozenB R2 o
    have HA2 := Lib.hid A2
    have HR2 := Lib.hid R2
    clear A2 R2 hb2
    clear hv
    go_wp2
    refine bodyPost_ret (v := .tuple #[.agg #[.int .i64 0, .int .i64 0, .int .i64 0, .int .i64 0, .int .i64 0, .int .i64 0, .int .i64 0, .int .i64 0, .int .i64 0, .int .i64 0, .slice none 0 0, .string ⟨#[]⟩], .int .i64 4]) (by simp [results, Try.results39, go_sem, World.cell?_setCell_same', cr, z2b]) rfl ?_
    unfold FwdPost
    exact ⟨_, rfl, RBlks.nil _ _, (by repeat' (first | with_reducible (first | refine bset ?_ ?_ | exact Below.refl _ _ | assumption | refine bdrewN ?_ _ | refine bdrew ?_ | refine balloc0 ?_ | refine balloc ?_ ?_ | (apply btrans0; rotate_left; assumption) | (apply btrans; rotate_left; assumption)) | exact Below.refl _ _ | assumption | (apply btrans0; rotate_left; assumption) | (apply btrans; rotate_left; assumption) | (simp; done) | omega | (simp; omega)))⟩
  · rw [e]
    have HP := Lib.hid hP
    clear hP e
    go_enter Try.func39, Try.ntmps39
    simp only [bunC]
    go_wp2_with fail
    refine (rfind_any b.blocks _ kind _ (HR.out.below' (by repeat' (first | with_reducible (first | refine bset ?_ ?_ | exact Below.refl _ _ | assumption | refine bdrewN ?_ _ | refine bdrew ?_ | refine balloc0 ?_ | refine balloc ?_ ?_ | (apply btrans0; rotate_left; assumption) | (apply btrans; rotate_left; assumption)) | exact Below.refl _ _ | assumption | (apply btrans0; rotate_left; assumption) | (apply btrans; rotate_left; assumption) | (simp; done) | omega | (simp; omega))))).mono ?_
    rw [HFI.out]
    simp only [zBlk]
    rintro e w1 ⟨rfl, hb1⟩
    have hB1 : Below w.heap.size w w1 := (by repeat' (first | with_reducible (first | refine bset ?_ ?_ | exact Below.refl _ _ | assumption | refine bdrewN ?_ _ | refine bdrew ?_ | refine balloc0 ?_ | refine balloc ?_ ?_ | (apply btrans0; rotate_left; assumption) | (apply btrans; rotate_left; assumption)) | exact Below.refl _ _ | assumption | (apply btrans0; rotate_left; assumption) | (apply btrans; rotate_left; assumption) | (simp; done) | omega | (simp; omega)))
    have z1 : w.heap.size + 2 < w1.heap.size := by have := hb1.size; simp at this; omega
    have z1a : w.heap.size < w1.heap.size := by omega
    have z1b : w.heap.size + 1 < w1.heap.size := by omega
    have A1 : w1.heap[w.heap.size]? = some (.cells (bunC b (.slice a b.blocks.length c)).toArray 28 (0, 0)) := (hb1.block _ (by first | omega | (simp; done) | (simp; omega))).trans (by repeat (first | exact heap_new' (by first | rfl | (simp; done)) | refine (Below.heap_alloc _ _ _ (by first | (simp; done) | (simp; omega))).trans ?_))
    have R1 : w1.heap[w.heap.size + 1]? = some (.cells #[.int .i64 0, .int .i64 0, .int .i64 0, .int .i64 0, .int .i64 0, .int .i64 0, .int .i64 0, .int .i64 0, .int .i64 0, .int .i64 0, .slice none 0 0, .string ⟨#[]⟩] 28 (0, 0)) := (hb1.block _ (by first | omega | (simp; done) | (simp; omega))).trans (by repeat (first | exact heap_new' (by first | rfl | (simp; done)) | refine (Below.heap_alloc _ _ _ (by first | (simp; done) | (simp; omega))).trans ?_))
    have X1 : w1.heap[w.heap.size + 2]? = some (.cells #[.int .i64 kind, .int .i64 1, .string (B s)] 56 (0, 0)) := (hb1.block _ (by simp)).trans (by repeat (first | exact heap_new' (by first | rfl | (simp; done)) | refine (Below.heap_alloc _ _ _ (by first | (simp; done) | (simp; omega))).trans ?_))
    have ca := fun o => cellB A1 o
    have cx := fun o => cellB X1 o
    have fx := fun o => frozenB X1 o
    simp only [bunC] at ca
    have HA1 := Lib.hid A1
    have HR1 := Lib.hid R1
    have HX1 := Lib.hid X1
    clear A1 R1 X1 hb1
    go_wp2_with fail
    refine (rput_any b.blocks _ ⟨kind, 1, s⟩ _ (HR.out.below' (by repeat' (first | with_reducible (first | refine bset ?_ ?_ | exact Below.refl _ _ | assumption | refine bdrewN ?_ _ | refine bdrew ?_ | refine balloc0 ?_ | refine balloc ?_ ?_ | (apply btrans0; rotate_left; assumption) | (apply btrans; rotate_left; assumption)) | exact Below.refl _ _ | assumption | (apply btrans0; rotate_left; assumption) | (apply btrans; rotate_left; assumption) | (simp; done) | omega | (simp; omega)))) HF.out.2 (by simp only; unfold maxLen; omega)).mono ?_
    unfold RPutPost
    rw [HP.out]
    simp only
    rintro e w2 ⟨v, rfl, hv, hb2⟩
    have hB2 : Below w.heap.size w w2 := (by repeat' (first | with_reducible (first | refine bset ?_ ?_ | exact Below.refl _ _ | assumption | refine bdrewN ?_ _ | refine bdrew ?_ | refine balloc0 ?_ | refine balloc ?_ ?_ | (apply btrans0; rotate_left; assumption) | (apply btrans; rotate_left; assumption)) | exact Below.refl _ _ | assumption | (apply btrans0; rotate_left; assumption) | (apply btrans; rotate_left; assumption) | (simp; done) | omega | (simp; omega)))
    have z2 : w1.heap.size < w2.heap.size := by have := hb2.size; simp at this; omega
    have z2a : w.heap.size < w2.heap.size := by omega
    have z2b : w.heap.size + 1 < w2.heap.size := by omega
    have A2 : w2.heap[w.heap.size]? = some (.cells (bunC b (.slice a b.blocks.length c)).toArray 28 (0, 0)) := (hb2.block w.heap.size (by simp; omega)).trans (by repeat (first | exact HA1.out | refine (heap_setCell_other _ _ _ _ (by first | omega | (simp; done) | (simp; omega))).trans ?_ | refine (Below.heap_alloc _ _ _ (by first | omega | (simp; done) | (simp; omega))).trans ?_))
    have R2 : w2.heap[w.heap.size + 1]? = some (.cells #[.int .i64 0, .int .i64 0, .int .i64 0, .int .i64 0, .int .i64 0, .int .i64 0, .int .i64 0, .int .i64 0, .int .i64 0, .int .i64 0, .slice none 0 0, .string ⟨#[]⟩] 28 (0, 0)) := (hb2.block (w.heap.size + 1) (by simp; omega)).trans (by repeat (first | exact HR1.out | refine (heap_setCell_other _ _ _ _ (by first | omega | (simp; done) | (simp; omega))).trans ?_ | refine (Below.heap_alloc _ _ _ (by first | omega | (simp; done) | (simp; omega))).trans ?_))
    clear ca cx fx
    have ca := fun o => cellB A2 o
    have fa := fun o => frozenB A2 o
    simp only [bunC] at ca
    have cr := fun o => cellB R2 o
    have fr := fun o => frozenB R2 o
    have HA2 := Lib.hid A2
    have HR2 := Lib.hid R2
    clear A2 R2 hb2
    have hsp : Sep w.heap.size (w.heap.size + 1) v L := (Sep.box hv HA2.out (noBlk_bun _ _ _ _)).two (Sep.box hv HR2.out noBlk12)
    obtain ⟨va, vc, rfl, h1, h2, h3, h4⟩ := id hv
    have HV := Lib.hid hv
    have HSP := Lib.hid hsp
    obtain ⟨n, hn⟩ : ∃ n, L.length = n := ⟨_, rfl⟩
    rw [hn] at HV HSP ⊢
    have HN := Lib.hid hn
    clear h1 h2 h3 h4 hv hn hsp cr fr
    go_wp2_with (refine wpList_store_block rfl 28 _ _ rfl (w.heap.size + 1) #[.int .i64 b.src, .int .i64 b.crt, .int .i64 b.seq, .int .i64 b.off, .int .i64 b.tot, .int .i64 b.dk, .int .i64 b.dn, .int .i64 b.life, .int .i64 b.prio, .int .i64 b.flags, .slice va n vc, .string (B b.payload)] _ 28 rfl rfl ((heap_setCell_other _ _ _ _ (by simp)).trans HR2.out) rfl (by kernel_rfl) (by simp [Value.oneCell']) ?_; intro W hW hbW hsW hoW; have hBW : Below w.heap.size w W := (bset hB2 (by simp)).trans (hbW _ (by omega)); have HVW : Hid (RBlks W W.heap.size (.slice va n vc) L) := Lib.hid (RBlks.apart HV.out HSP.out (fun q o hq hq2 => World.cell?_of_block ((hoW q (by omega)).trans (heap_setCell_other _ _ _ _ (by simp; omega)))) (by rw [hsW]; simp)); have cW := fun o => cellB hW o; have zW : w.heap.size + 1 < W.heap.size := (by rw [hsW]; simp; omega); clear hW hbW hsW hoW ca fa)
    refine bodyPost_ret (v := .tuple #[.agg #[.int .i64 b.src, .int .i64 b.crt, .int .i64 b.seq, .int .i64 b.off, .int .i64 b.tot, .int .i64 b.dk, .int .i64 b.dn, .int .i64 b.life, .int .i64 b.prio, .int .i64 b.flags, .slice va n vc, .string (B b.payload)], .int .i64 0]) (by simp [results, Try.results39, go_sem, cW, zW]) rfl ?_
    unfold FwdPost
    exact ⟨_, rfl, HVW.out, hBW⟩
theorem rset_any (b : Bun) (u : Value) (kind : Int) (s : List UInt8) (w : World) (h : RBlks w w.heap.size u b.blocks) (hf : Fits b) (hv : chkE b = 0) (k1 : 1 ≤ kind) (k2 : kind ≤ 255) (hs : s.length ≤ 1024) :
    Calls Try.prog 39 #[.agg (bunC b u).toArray, .int .i64 kind, .string (B s)] w (FwdPost (setS b kind s) w) := by
  obtain ⟨⟨x, q⟩, hfi⟩ : ∃ q, findS b.blocks kind = q := ⟨_, rfl⟩
  cases q with
  | true => exact rput_true b u kind s x w h hf hv k1 k2 hs hfi
  | false => exact rput_false b u kind s x w h hf hv k1 k2 hs hfi
end Go.Proofs.Ythgokfceakbjlaa
