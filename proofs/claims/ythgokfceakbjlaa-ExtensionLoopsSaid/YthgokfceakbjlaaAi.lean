/- Layer 14 (extension): set; numbers. -/
import Derived.Test.YthgokfceakbjlaaAg
set_option linter.unusedVariables false
set_option linter.unusedSimpArgs false
namespace Go.Proofs.Ythgokfceakbjlaa
open Go Go.RowKit
attribute [local go_sem] B_getElem B_size B_app B_extract B_get B_toList

theorem RBlks.fresh {w W : World} {N M B : Nat} {v : Value} {l : List Blk} (h : RBlks w N v l) (hr : RFrom B v) (k : ∀ b o, B ≤ b → b < N → W.cell? ⟨b, o, none⟩ = w.cell? ⟨b, o, none⟩) (hM : N ≤ M) : RBlks W M v l := by
  obtain ⟨a, c, rfl, h1, h2, h3, h4⟩ := h
  refine ⟨a, c, rfl, h1, h2, h3, fun hp => ?_⟩
  obtain ⟨b, o, e, hb, hi⟩ := h4 hp
  subst e
  have hB := hr _ _ _ rfl
  exact ⟨b, o, rfl, by omega, fun i x hx => (hi i x hx).keep fun o => k b o hB hb⟩
/-- the block with other data -/
def setBlk (b : Bun) (kind : Int) (s : List UInt8) : Blk := match findS b.blocks kind with
  | (x, true) => ⟨x.kind, x.flags, s⟩
  | (_, false) => ⟨kind, 1, s⟩
def setS (b : Bun) (kind : Int) (s : List UInt8) : Bun × Int :=
  if (putS b.blocks (setBlk b kind s)).2 ≠ 0 then (zBun, 4) else ({ b with blocks := (putS b.blocks (setBlk b kind s)).1 }, 0)
def BunPost (r : Bun × Int) (w : World) (e : Ending) (w' : World) : Prop := ∃ u, e = .returned (.tuple #[.agg (bunC r.1 u).toArray, .int .i64 r.2]) ∧ RBlks w' w'.heap.size u r.1.blocks ∧ RFrom w.heap.size u ∧ Below w.heap.size w w'
set_option maxRecDepth 100000 in
set_option maxHeartbeats 8000000 in
theorem set_true (b : Bun) (u : Value) (kind : Int) (s : List UInt8) (x : Blk) (w : World) (h : RBlks w w.heap.size u b.blocks) (hf : Fits b) (hs : s.length ≤ 1000000) (hfi : findS b.blocks kind = (x, true)) :
    Calls Try.prog 36 #[.agg (bunC b u).toArray, .int .i64 kind, .string (B s)] w (BunPost (setS b kind s) w) := by
  have HF := Lib.hid hf
  have HR := Lib.hid h
  obtain ⟨a, c, rfl, h1, h2, h3, h4⟩ := h
  clear h1 h2 h3 h4 hf
  obtain ⟨xk, xf, xd⟩ := x
  have hY : setBlk b kind s = ⟨xk, xf, s⟩ := by unfold setBlk; rw [hfi]
  obtain ⟨⟨L, PE⟩, hp⟩ : ∃ q, putS b.blocks ⟨xk, xf, s⟩ = q := ⟨_, rfl⟩
  have HFI : Hid (findS b.blocks kind = (⟨xk, xf, xd⟩, true)) := Lib.hid (hfi)
  have HP := Lib.hid hp
  by_cases z : PE = 0
  case neg =>
    have z' : (PE != 0) = true := by rw [bne_iff_ne]; exact z
    have e : setS b kind s = (zBun, 4) := by unfold setS; rw [hY, hp, if_pos z]
    rw [e]
    clear e hY hp z hfi
    go_enter Try.func36, Try.ntmps36
    simp only [bunC]
    go_wp2_with fail
    refine (find_any b.blocks _ kind _ (HR.out.below' (by repeat' (first | with_reducible (first | refine bset ?_ ?_ | exact Below.refl _ _ | assumption | refine bdrewN ?_ _ | refine bdrew ?_ | refine balloc0 ?_ | refine balloc ?_ ?_ | (apply btrans0; rotate_left; assumption) | (apply btrans; rotate_left; assumption)) | exact Below.refl _ _ | assumption | (apply btrans0; rotate_left; assumption) | (apply btrans; rotate_left; assumption) | (simp; done) | omega | (simp; omega))))).mono ?_
    rw [HFI.out]
    simp only [zBlk]
    rintro e w1 ⟨rfl, hb1⟩
    have hB1 : Below w.heap.size w w1 := (by repeat' (first | with_reducible (first | refine bset ?_ ?_ | exact Below.refl _ _ | assumption | refine bdrewN ?_ _ | refine bdrew ?_ | refine balloc0 ?_ | refine balloc ?_ ?_ | (apply btrans0; rotate_left; assumption) | (apply btrans; rotate_left; assumption)) | exact Below.refl _ _ | assumption | (apply btrans0; rotate_left; assumption) | (apply btrans; rotate_left; assumption) | (simp; done) | omega | (simp; omega)))
    have z1 : w.heap.size + 1 < w1.heap.size := by have := hb1.size; simp at this; omega
    have z1a : w.heap.size < w1.heap.size := by omega
    have A1 : w1.heap[w.heap.size]? = some (.cells (bunC b (.slice a b.blocks.length c)).toArray 28 (0, 0)) := (hb1.block _ (by simp; omega)).trans ((Below.heap_alloc _ _ _ (by simp)).trans heap_new)
    have R1 : w1.heap[w.heap.size + 1]? = some (.cells #[.int .i64 0, .int .i64 0, .int .i64 0, .int .i64 0, .int .i64 0, .int .i64 0, .int .i64 0, .int .i64 0, .int .i64 0, .int .i64 0, .slice none 0 0, .string ⟨#[]⟩] 28 (0, 0)) := (hb1.block _ (by simp)).trans (heap_new' (by simp))
    have ca := fun o => cellB A1 o
    simp only [bunC] at ca
    have HA1 := Lib.hid A1
    have HR1 := Lib.hid R1
    clear A1 R1 hb1
    go_wp2_with fail
    refine (put_any b.blocks _ ⟨xk, xf, s⟩ _ (HR.out.below' (by repeat' (first | with_reducible (first | refine bset ?_ ?_ | exact Below.refl _ _ | assumption | refine bdrewN ?_ _ | refine bdrew ?_ | refine balloc0 ?_ | refine balloc ?_ ?_ | (apply btrans0; rotate_left; assumption) | (apply btrans; rotate_left; assumption)) | exact Below.refl _ _ | assumption | (apply btrans0; rotate_left; assumption) | (apply btrans; rotate_left; assumption) | (simp; done) | omega | (simp; omega)))) HF.out.2 (by simp only; unfold maxLen; omega)).mono ?_
    unfold PutPost
    rw [HP.out]
    simp only
    rintro e w2 ⟨v, rfl, hv, hb2, hrf⟩
    have hB2 : Below w.heap.size w w2 := (by repeat' (first | with_reducible (first | refine bset ?_ ?_ | exact Below.refl _ _ | assumption | refine bdrewN ?_ _ | refine bdrew ?_ | refine balloc0 ?_ | refine balloc ?_ ?_ | (apply btrans0; rotate_left; assumption) | (apply btrans; rotate_left; assumption)) | exact Below.refl _ _ | assumption | (apply btrans0; rotate_left; assumption) | (apply btrans; rotate_left; assumption) | (simp; done) | omega | (simp; omega)))
    have z2 : w1.heap.size < w2.heap.size := by have := hb2.size; simp at this; omega
    have z2a : w.heap.size < w2.heap.size := by omega
    have z2b : w.heap.size + 1 < w2.heap.size := by omega
    have A2 := (hb2.block w.heap.size (by simp; omega)).trans ((Below.heap_alloc _ _ _ z1a).trans HA1.out)
    have R2 := (hb2.block (w.heap.size + 1) (by simp; omega)).trans ((Below.heap_alloc _ _ _ z1).trans HR1.out)
    clear ca
    have ca := fun o => cellB A2 o
    have fa := fun o => frozenB A2 o
    simp only [bunC] at ca
    have HA2 := Lib.hid A2
    have HR2 := Lib.hid R2
    clear A2 R2 hb2
    clear hv hrf
    have cr := fun o => cellB HR2.out o
    have fr := fun o => frozenB HR2.out o
    go_wp2
    refine bodyPost_ret (v := .tuple #[.agg #[.int .i64 0, .int .i64 0, .int .i64 0, .int .i64 0, .int .i64 0, .int .i64 0, .int .i64 0, .int .i64 0, .int .i64 0, .int .i64 0, .slice none 0 0, .string ⟨#[]⟩], .int .i64 4]) (by simp [results, Try.results36, go_sem, World.cell?_setCell_same', cr, z2b]) rfl ?_
    unfold BunPost
    exact ⟨_, rfl, RBlks.nil _ _, RFrom.nil _, (by repeat' (first | with_reducible (first | refine bset ?_ ?_ | exact Below.refl _ _ | assumption | refine bdrewN ?_ _ | refine bdrew ?_ | refine balloc0 ?_ | refine balloc ?_ ?_ | (apply btrans0; rotate_left; assumption) | (apply btrans; rotate_left; assumption)) | exact Below.refl _ _ | assumption | (apply btrans0; rotate_left; assumption) | (apply btrans; rotate_left; assumption) | (simp; done) | omega | (simp; omega)))⟩
  subst z
  have e : setS b kind s = ({ b with blocks := L }, 0) := by unfold setS; rw [hY, hp, if_neg (by simp)]
  rw [e]
  clear e hY hp hfi
  go_enter Try.func36, Try.ntmps36
  simp only [bunC]
  go_wp2_with fail
  refine (find_any b.blocks _ kind _ (HR.out.below' (by repeat' (first | with_reducible (first | refine bset ?_ ?_ | exact Below.refl _ _ | assumption | refine bdrewN ?_ _ | refine bdrew ?_ | refine balloc0 ?_ | refine balloc ?_ ?_ | (apply btrans0; rotate_left; assumption) | (apply btrans; rotate_left; assumption)) | exact Below.refl _ _ | assumption | (apply btrans0; rotate_left; assumption) | (apply btrans; rotate_left; assumption) | (simp; done) | omega | (simp; omega))))).mono ?_
  rw [HFI.out]
  simp only [zBlk]
  rintro e w1 ⟨rfl, hb1⟩
  have hB1 : Below w.heap.size w w1 := (by repeat' (first | with_reducible (first | refine bset ?_ ?_ | exact Below.refl _ _ | assumption | refine bdrewN ?_ _ | refine bdrew ?_ | refine balloc0 ?_ | refine balloc ?_ ?_ | (apply btrans0; rotate_left; assumption) | (apply btrans; rotate_left; assumption)) | exact Below.refl _ _ | assumption | (apply btrans0; rotate_left; assumption) | (apply btrans; rotate_left; assumption) | (simp; done) | omega | (simp; omega)))
  have z1 : w.heap.size + 1 < w1.heap.size := by have := hb1.size; simp at this; omega
  have z1a : w.heap.size < w1.heap.size := by omega
  have A1 : w1.heap[w.heap.size]? = some (.cells (bunC b (.slice a b.blocks.length c)).toArray 28 (0, 0)) := (hb1.block _ (by simp; omega)).trans ((Below.heap_alloc _ _ _ (by simp)).trans heap_new)
  have R1 : w1.heap[w.heap.size + 1]? = some (.cells #[.int .i64 0, .int .i64 0, .int .i64 0, .int .i64 0, .int .i64 0, .int .i64 0, .int .i64 0, .int .i64 0, .int .i64 0, .int .i64 0, .slice none 0 0, .string ⟨#[]⟩] 28 (0, 0)) := (hb1.block _ (by simp)).trans (heap_new' (by simp))
  have ca := fun o => cellB A1 o
  simp only [bunC] at ca
  have HA1 := Lib.hid A1
  have HR1 := Lib.hid R1
  clear A1 R1 hb1
  go_wp2_with fail
  refine (put_any b.blocks _ ⟨xk, xf, s⟩ _ (HR.out.below' (by repeat' (first | with_reducible (first | refine bset ?_ ?_ | exact Below.refl _ _ | assumption | refine bdrewN ?_ _ | refine bdrew ?_ | refine balloc0 ?_ | refine balloc ?_ ?_ | (apply btrans0; rotate_left; assumption) | (apply btrans; rotate_left; assumption)) | exact Below.refl _ _ | assumption | (apply btrans0; rotate_left; assumption) | (apply btrans; rotate_left; assumption) | (simp; done) | omega | (simp; omega)))) HF.out.2 (by simp only; unfold maxLen; omega)).mono ?_
  unfold PutPost
  rw [HP.out]
  simp only
  rintro e w2 ⟨v, rfl, hv, hb2, hrf⟩
  have hB2 : Below w.heap.size w w2 := (by repeat' (first | with_reducible (first | refine bset ?_ ?_ | exact Below.refl _ _ | assumption | refine bdrewN ?_ _ | refine bdrew ?_ | refine balloc0 ?_ | refine balloc ?_ ?_ | (apply btrans0; rotate_left; assumption) | (apply btrans; rotate_left; assumption)) | exact Below.refl _ _ | assumption | (apply btrans0; rotate_left; assumption) | (apply btrans; rotate_left; assumption) | (simp; done) | omega | (simp; omega)))
  have z2 : w1.heap.size < w2.heap.size := by have := hb2.size; simp at this; omega
  have z2a : w.heap.size < w2.heap.size := by omega
  have z2b : w.heap.size + 1 < w2.heap.size := by omega
  have A2 := (hb2.block w.heap.size (by simp; omega)).trans ((Below.heap_alloc _ _ _ z1a).trans HA1.out)
  have R2 := (hb2.block (w.heap.size + 1) (by simp; omega)).trans ((Below.heap_alloc _ _ _ z1).trans HR1.out)
  clear ca
  have ca := fun o => cellB A2 o
  have fa := fun o => frozenB A2 o
  simp only [bunC] at ca
  have HA2 := Lib.hid A2
  have HR2 := Lib.hid R2
  clear A2 R2 hb2
  have HRF : Hid (RFrom w1.heap.size v) := Lib.hid (fun a n c e => by have := hrf a n c e; simp at this; omega)
  obtain ⟨va, vc, rfl, h1, h2, h3, h4⟩ := id hv
  have HV := Lib.hid hv
  obtain ⟨n, hn⟩ : ∃ n, L.length = n := ⟨_, rfl⟩
  rw [hn] at HV HRF ⊢
  have HN := Lib.hid hn
  clear h1 h2 h3 h4 hv hrf hn
  go_wp2_with (refine wpList_store_block rfl 28 _ _ rfl (w.heap.size + 1) #[.int .i64 b.src, .int .i64 b.crt, .int .i64 b.seq, .int .i64 b.off, .int .i64 b.tot, .int .i64 b.dk, .int .i64 b.dn, .int .i64 b.life, .int .i64 b.prio, .int .i64 b.flags, .slice va n vc, .string (B b.payload)] _ 28 rfl rfl ((heap_setCell_other _ _ _ _ (by simp)).trans HR2.out) rfl (by kernel_rfl) (by simp [Value.oneCell']) ?_; intro W hW hbW hsW hoW; have hBW : Below w.heap.size w W := (bset hB2 (by simp)).trans (hbW _ (by omega)); have HVW : Hid (RBlks W W.heap.size (.slice va n vc) L) := Lib.hid (RBlks.fresh (B := w1.heap.size) HV.out HRF.out (fun q o hq hq2 => World.cell?_of_block ((hoW q (by omega)).trans (heap_setCell_other _ _ _ _ (by simp; omega)))) (by rw [hsW]; simp)); have cW := fun o => cellB hW o; have zW : w.heap.size + 1 < W.heap.size := (by rw [hsW]; simp; omega); clear hW hbW hsW hoW ca fa)
  refine bodyPost_ret (v := .tuple #[.agg #[.int .i64 b.src, .int .i64 b.crt, .int .i64 b.seq, .int .i64 b.off, .int .i64 b.tot, .int .i64 b.dk, .int .i64 b.dn, .int .i64 b.life, .int .i64 b.prio, .int .i64 b.flags, .slice va n vc, .string (B b.payload)], .int .i64 0]) (by simp [results, Try.results36, go_sem, cW, zW]) rfl ?_
  unfold BunPost
  exact ⟨_, rfl, HVW.out, fun a n c e => by have := HRF.out a n c e; omega, hBW⟩
set_option maxRecDepth 100000 in
set_option maxHeartbeats 8000000 in
theorem set_false (b : Bun) (u : Value) (kind : Int) (s : List UInt8) (x : Blk) (w : World) (h : RBlks w w.heap.size u b.blocks) (hf : Fits b) (hs : s.length ≤ 1000000) (hfi : findS b.blocks kind = (x, false)) :
    Calls Try.prog 36 #[.agg (bunC b u).toArray, .int .i64 kind, .string (B s)] w (BunPost (setS b kind s) w) := by
  have HF := Lib.hid hf
  have HR := Lib.hid h
  obtain ⟨a, c, rfl, h1, h2, h3, h4⟩ := h
  clear h1 h2 h3 h4 hf
  obtain ⟨xk, xf, xd⟩ := x
  have hY : setBlk b kind s = ⟨kind, 1, s⟩ := by unfold setBlk; rw [hfi]
  obtain ⟨⟨L, PE⟩, hp⟩ : ∃ q, putS b.blocks ⟨kind, 1, s⟩ = q := ⟨_, rfl⟩
  have HFI : Hid (findS b.blocks kind = (zBlk, false)) := Lib.hid (by rcases find_cases b.blocks kind with ⟨h3, _⟩ | ⟨y, hy, hk, h3⟩; exact h3; rw [h3] at hfi; simp at hfi)
  have HP := Lib.hid hp
  by_cases z : PE = 0
  case neg =>
    have z' : (PE != 0) = true := by rw [bne_iff_ne]; exact z
    have e : setS b kind s = (zBun, 4) := by unfold setS; rw [hY, hp, if_pos z]
    rw [e]
    clear e hY hp z hfi
    go_enter Try.func36, Try.ntmps36
    simp only [bunC]
    go_wp2_with fail
    refine (find_any b.blocks _ kind _ (HR.out.below' (by repeat' (first | with_reducible (first | refine bset ?_ ?_ | exact Below.refl _ _ | assumption | refine bdrewN ?_ _ | refine bdrew ?_ | refine balloc0 ?_ | refine balloc ?_ ?_ | (apply btrans0; rotate_left; assumption) | (apply btrans; rotate_left; assumption)) | exact Below.refl _ _ | assumption | (apply btrans0; rotate_left; assumption) | (apply btrans; rotate_left; assumption) | (simp; done) | omega | (simp; omega))))).mono ?_
    rw [HFI.out]
    simp only [zBlk]
    rintro e w1 ⟨rfl, hb1⟩
    have hB1 : Below w.heap.size w w1 := (by repeat' (first | with_reducible (first | refine bset ?_ ?_ | exact Below.refl _ _ | assumption | refine bdrewN ?_ _ | refine bdrew ?_ | refine balloc0 ?_ | refine balloc ?_ ?_ | (apply btrans0; rotate_left; assumption) | (apply btrans; rotate_left; assumption)) | exact Below.refl _ _ | assumption | (apply btrans0; rotate_left; assumption) | (apply btrans; rotate_left; assumption) | (simp; done) | omega | (simp; omega)))
    have z1 : w.heap.size + 1 < w1.heap.size := by have := hb1.size; simp at this; omega
    have z1a : w.heap.size < w1.heap.size := by omega
    have A1 : w1.heap[w.heap.size]? = some (.cells (bunC b (.slice a b.blocks.length c)).toArray 28 (0, 0)) := (hb1.block _ (by simp; omega)).trans ((Below.heap_alloc _ _ _ (by simp)).trans heap_new)
    have R1 : w1.heap[w.heap.size + 1]? = some (.cells #[.int .i64 0, .int .i64 0, .int .i64 0, .int .i64 0, .int .i64 0, .int .i64 0, .int .i64 0, .int .i64 0, .int .i64 0, .int .i64 0, .slice none 0 0, .string ⟨#[]⟩] 28 (0, 0)) := (hb1.block _ (by simp)).trans (heap_new' (by simp))
    have ca := fun o => cellB A1 o
    simp only [bunC] at ca
    have HA1 := Lib.hid A1
    have HR1 := Lib.hid R1
    clear A1 R1 hb1
    go_wp2_with fail
    refine (put_any b.blocks _ ⟨kind, 1, s⟩ _ (HR.out.below' (by repeat' (first | with_reducible (first | refine bset ?_ ?_ | exact Below.refl _ _ | assumption | refine bdrewN ?_ _ | refine bdrew ?_ | refine balloc0 ?_ | refine balloc ?_ ?_ | (apply btrans0; rotate_left; assumption) | (apply btrans; rotate_left; assumption)) | exact Below.refl _ _ | assumption | (apply btrans0; rotate_left; assumption) | (apply btrans; rotate_left; assumption) | (simp; done) | omega | (simp; omega)))) HF.out.2 (by simp only; unfold maxLen; omega)).mono ?_
    unfold PutPost
    rw [HP.out]
    simp only
    rintro e w2 ⟨v, rfl, hv, hb2, hrf⟩
    have hB2 : Below w.heap.size w w2 := (by repeat' (first | with_reducible (first | refine bset ?_ ?_ | exact Below.refl _ _ | assumption | refine bdrewN ?_ _ | refine bdrew ?_ | refine balloc0 ?_ | refine balloc ?_ ?_ | (apply btrans0; rotate_left; assumption) | (apply btrans; rotate_left; assumption)) | exact Below.refl _ _ | assumption | (apply btrans0; rotate_left; assumption) | (apply btrans; rotate_left; assumption) | (simp; done) | omega | (simp; omega)))
    have z2 : w1.heap.size < w2.heap.size := by have := hb2.size; simp at this; omega
    have z2a : w.heap.size < w2.heap.size := by omega
    have z2b : w.heap.size + 1 < w2.heap.size := by omega
    have A2 := (hb2.block w.heap.size (by simp; omega)).trans ((Below.heap_alloc _ _ _ z1a).trans HA1.out)
    have R2 := (hb2.block (w.heap.size + 1) (by simp; omega)).trans ((Below.heap_alloc _ _ _ z1).trans HR1.out)
    clear ca
    have ca := fun o => cellB A2 o
    have fa := fun o => frozenB A2 o
    simp only [bunC] at ca
    have HA2 := Lib.hid A2
    have HR2 := Lib.hid R2
    clear A2 R2 hb2
    clear hv hrf
    have cr := fun o => cellB HR2.out o
    have fr := fun o => frozenB HR2.out o
    go_wp2
    refine bodyPost_ret (v := .tuple #[.agg #[.int .i64 0, .int .i64 0, .int .i64 0, .int .i64 0, .int .i64 0, .int .i64 0, .int .i64 0, .int .i64 0, .int .i64 0, .int .i64 0, .slice none 0 0, .string ⟨#[]⟩], .int .i64 4]) (by simp [results, Try.results36, go_sem, World.cell?_setCell_same', cr, z2b]) rfl ?_
    unfold BunPost
    exact ⟨_, rfl, RBlks.nil _ _, RFrom.nil _, (by repeat' (first | with_reducible (first | refine bset ?_ ?_ | exact Below.refl _ _ | assumption | refine bdrewN ?_ _ | refine bdrew ?_ | refine balloc0 ?_ | refine balloc ?_ ?_ | (apply btrans0; rotate_left; assumption) | (apply btrans; rotate_left; assumption)) | exact Below.refl _ _ | assumption | (apply btrans0; rotate_left; assumption) | (apply btrans; rotate_left; assumption) | (simp; done) | omega | (simp; omega)))⟩
  subst z
  have e : setS b kind s = ({ b with blocks := L }, 0) := by unfold setS; rw [hY, hp, if_neg (by simp)]
  rw [e]
  clear e hY hp hfi
  go_enter Try.func36, Try.ntmps36
  simp only [bunC]
  go_wp2_with fail
  refine (find_any b.blocks _ kind _ (HR.out.below' (by repeat' (first | with_reducible (first | refine bset ?_ ?_ | exact Below.refl _ _ | assumption | refine bdrewN ?_ _ | refine bdrew ?_ | refine balloc0 ?_ | refine balloc ?_ ?_ | (apply btrans0; rotate_left; assumption) | (apply btrans; rotate_left; assumption)) | exact Below.refl _ _ | assumption | (apply btrans0; rotate_left; assumption) | (apply btrans; rotate_left; assumption) | (simp; done) | omega | (simp; omega))))).mono ?_
  rw [HFI.out]
  simp only [zBlk]
  rintro e w1 ⟨rfl, hb1⟩
  have hB1 : Below w.heap.size w w1 := (by repeat' (first | with_reducible (first | refine bset ?_ ?_ | exact Below.refl _ _ | assumption | refine bdrewN ?_ _ | refine bdrew ?_ | refine balloc0 ?_ | refine balloc ?_ ?_ | (apply btrans0; rotate_left; assumption) | (apply btrans; rotate_left; assumption)) | exact Below.refl _ _ | assumption | (apply btrans0; rotate_left; assumption) | (apply btrans; rotate_left; assumption) | (simp; done) | omega | (simp; omega)))
  have z1 : w.heap.size + 1 < w1.heap.size := by have := hb1.size; simp at this; omega
  have z1a : w.heap.size < w1.heap.size := by omega
  have A1 : w1.heap[w.heap.size]? = some (.cells (bunC b (.slice a b.blocks.length c)).toArray 28 (0, 0)) := (hb1.block _ (by simp; omega)).trans ((Below.heap_alloc _ _ _ (by simp)).trans heap_new)
  have R1 : w1.heap[w.heap.size + 1]? = some (.cells #[.int .i64 0, .int .i64 0, .int .i64 0, .int .i64 0, .int .i64 0, .int .i64 0, .int .i64 0, .int .i64 0, .int .i64 0, .int .i64 0, .slice none 0 0, .string ⟨#[]⟩] 28 (0, 0)) := (hb1.block _ (by simp)).trans (heap_new' (by simp))
  have ca := fun o => cellB A1 o
  simp only [bunC] at ca
  have HA1 := Lib.hid A1
  have HR1 := Lib.hid R1
  clear A1 R1 hb1
  go_wp2_with fail
  refine (put_any b.blocks _ ⟨kind, 1, s⟩ _ (HR.out.below' (by repeat' (first | with_reducible (first | refine bset ?_ ?_ | exact Below.refl _ _ | assumption | refine bdrewN ?_ _ | refine bdrew ?_ | refine balloc0 ?_ | refine balloc ?_ ?_ | (apply btrans0; rotate_left; assumption) | (apply btrans; rotate_left; assumption)) | exact Below.refl _ _ | assumption | (apply btrans0; rotate_left; assumption) | (apply btrans; rotate_left; assumption) | (simp; done) | omega | (simp; omega)))) HF.out.2 (by simp only; unfold maxLen; omega)).mono ?_
  unfold PutPost
  rw [HP.out]
  simp only
  rintro e w2 ⟨v, rfl, hv, hb2, hrf⟩
  have hB2 : Below w.heap.size w w2 := (by repeat' (first | with_reducible (first | refine bset ?_ ?_ | exact Below.refl _ _ | assumption | refine bdrewN ?_ _ | refine bdrew ?_ | refine balloc0 ?_ | refine balloc ?_ ?_ | (apply btrans0; rotate_left; assumption) | (apply btrans; rotate_left; assumption)) | exact Below.refl _ _ | assumption | (apply btrans0; rotate_left; assumption) | (apply btrans; rotate_left; assumption) | (simp; done) | omega | (simp; omega)))
  have z2 : w1.heap.size < w2.heap.size := by have := hb2.size; simp at this; omega
  have z2a : w.heap.size < w2.heap.size := by omega
  have z2b : w.heap.size + 1 < w2.heap.size := by omega
  have A2 := (hb2.block w.heap.size (by simp; omega)).trans ((Below.heap_alloc _ _ _ z1a).trans HA1.out)
  have R2 := (hb2.block (w.heap.size + 1) (by simp; omega)).trans ((Below.heap_alloc _ _ _ z1).trans HR1.out)
  clear ca
  have ca := fun o => cellB A2 o
  have fa := fun o => frozenB A2 o
  simp only [bunC] at ca
  have HA2 := Lib.hid A2
  have HR2 := Lib.hid R2
  clear A2 R2 hb2
  have HRF : Hid (RFrom w1.heap.size v) := Lib.hid (fun a n c e => by have := hrf a n c e; simp at this; omega)
  obtain ⟨va, vc, rfl, h1, h2, h3, h4⟩ := id hv
  have HV := Lib.hid hv
  obtain ⟨n, hn⟩ : ∃ n, L.length = n := ⟨_, rfl⟩
  rw [hn] at HV HRF ⊢
  have HN := Lib.hid hn
  clear h1 h2 h3 h4 hv hrf hn
  go_wp2_with (refine wpList_store_block rfl 28 _ _ rfl (w.heap.size + 1) #[.int .i64 b.src, .int .i64 b.crt, .int .i64 b.seq, .int .i64 b.off, .int .i64 b.tot, .int .i64 b.dk, .int .i64 b.dn, .int .i64 b.life, .int .i64 b.prio, .int .i64 b.flags, .slice va n vc, .string (B b.payload)] _ 28 rfl rfl ((heap_setCell_other _ _ _ _ (by simp)).trans HR2.out) rfl (by kernel_rfl) (by simp [Value.oneCell']) ?_; intro W hW hbW hsW hoW; have hBW : Below w.heap.size w W := (bset hB2 (by simp)).trans (hbW _ (by omega)); have HVW : Hid (RBlks W W.heap.size (.slice va n vc) L) := Lib.hid (RBlks.fresh (B := w1.heap.size) HV.out HRF.out (fun q o hq hq2 => World.cell?_of_block ((hoW q (by omega)).trans (heap_setCell_other _ _ _ _ (by simp; omega)))) (by rw [hsW]; simp)); have cW := fun o => cellB hW o; have zW : w.heap.size + 1 < W.heap.size := (by rw [hsW]; simp; omega); clear hW hbW hsW hoW ca fa)
  refine bodyPost_ret (v := .tuple #[.agg #[.int .i64 b.src, .int .i64 b.crt, .int .i64 b.seq, .int .i64 b.off, .int .i64 b.tot, .int .i64 b.dk, .int .i64 b.dn, .int .i64 b.life, .int .i64 b.prio, .int .i64 b.flags, .slice va n vc, .string (B b.payload)], .int .i64 0]) (by simp [results, Try.results36, go_sem, cW, zW]) rfl ?_
  unfold BunPost
  exact ⟨_, rfl, HVW.out, fun a n c e => by have := HRF.out a n c e; omega, hBW⟩
theorem set_any (b : Bun) (u : Value) (kind : Int) (s : List UInt8) (w : World) (h : RBlks w w.heap.size u b.blocks) (hf : Fits b) (hs : s.length ≤ 1000000) :
    Calls Try.prog 36 #[.agg (bunC b u).toArray, .int .i64 kind, .string (B s)] w (BunPost (setS b kind s) w) := by
  obtain ⟨⟨x, q⟩, hfi⟩ : ∃ q, findS b.blocks kind = q := ⟨_, rfl⟩
  cases q with
  | true => exact set_true b u kind s x w h hf hs hfi
  | false => exact set_false b u kind s x w h hf hs hfi
set_option maxRecDepth 100000 in
set_option maxHeartbeats 4000000 in
theorem numbers_any (l : List Int) (u : Value) (w : World) (h : RInts w w.heap.size u l) (hl : l.length ≤ 1000) (hr : IRange l) :
    Calls Try.prog 37 #[u] w fun e w' => e = .returned (.string (B (l.flatMap intE))) ∧ Below w.heap.size w w' := by
  obtain ⟨a, c, rfl, h1, h2, h3, h4⟩ := h
  unfold maxLen at h2
  have H4 := Lib.hid h4
  have HRG := Lib.hid hr
  clear h3 h4 hr
  go_enter Try.func37, Try.ntmps37
  go_wp2
  go_loopw [10, 3] (fun i o wr => ∃ (k : Nat) (out : List UInt8), k ≤ l.length ∧ i = .int .i64 k ∧ o = .string (B out) ∧ Hid (out = (l.take k).flatMap intE) ∧ Below w.heap.size w wr) (fun i _ _ => l.length - (intOf i).toNat)
  case atStart => exact ⟨0, [], by omega, rfl, rfl, Lib.hid (by simp), Below.refl _ _⟩
  case round =>
    obtain ⟨k, out, hk, rfl, rfl, HO, hB⟩ := hrel
    have k0 : (0 : Int) ≤ (k : Int) := by omega
    by_cases hlt : k < l.length
    · obtain ⟨b, o, rfl, hbn, hcell⟩ := H4.out (by omega)
      obtain ⟨n, hn⟩ : ∃ n, l[k]? = some n := ⟨_, List.getElem?_eq_getElem hlt⟩
      have c1 := (hB.cell (p := ⟨b, o + k, none⟩) hbn).trans (hcell k n hn)
      obtain ⟨n1, n2⟩ := HRG.out n (List.mem_of_getElem? hn)
      have m2 := flat_take l k
      have hLl : out.length ≤ 20000 := by rw [HO.out]; omega
      have HO2 : Hid (out ++ intE n = (l.take (k + 1)).flatMap intE) := Lib.hid (by rw [List.take_add_one, hn, HO.out]; simp)
      have k1 : (k : Int) < (l.length : Int) := by omega
      have i1 := (intE_len n).2
      obtain ⟨y, hy⟩ : ∃ y, intE n = y := ⟨_, rfl⟩
      rw [hy] at i1
      have HY := Lib.hid hy
      have hcat : ¬ 9223372036854775807 < out.length + y.length := by omega
      clear hn hcell m2 hy
      go_wp2_with fail
      refine (int_any n _ n1 n2).mono ?_
      rw [HY.out]
      rintro e w5 ⟨rfl, hb5⟩
      have hB5 : Below w.heap.size w w5 := (by repeat' (first | with_reducible (first | refine bset ?_ ?_ | exact Below.refl _ _ | assumption | refine bdrewN ?_ _ | refine bdrew ?_ | refine balloc0 ?_ | refine balloc ?_ ?_ | (apply btrans0; rotate_left; assumption) | (apply btrans; rotate_left; assumption)) | exact Below.refl _ _ | assumption | (apply btrans0; rotate_left; assumption) | (apply btrans; rotate_left; assumption) | (simp; done) | omega | (simp; omega)))
      clear hb5
      go_wp2
      go_roundw
      case rel => exact ⟨k + 1, out ++ y, by omega, by go_num, rfl, Lib.hid (by rw [← HY.out]; exact HO2.out), hB5⟩
      case measure => simp [intOf]; omega
    · obtain rfl : k = l.length := by omega
      have HF : Hid (out = l.flatMap intE) := Lib.hid (by rw [HO.out, List.take_length])
      go_wp2
      go_ret
      rw [← HF.out]
      exact ⟨rfl, hB⟩
end Go.Proofs.Ythgokfceakbjlaa
