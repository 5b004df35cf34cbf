/- Layer 14 (extension): SetAge, SetHops. -/
import Derived.Test.YthgokfceakbjlaaAi
set_option linter.unusedVariables false
set_option linter.unusedSimpArgs false
namespace Go.Proofs.Ythgokfceakbjlaa
open Go Go.RowKit
attribute [local go_sem] B_getElem B_size B_app B_extract B_get B_toList

theorem RInts.lit1 (w : World) (t : TypeId) (x : Int) : RInts (w.alloc (.cells #[.int .i64 x] t)) (w.alloc (.cells #[.int .i64 x] t)).heap.size (.slice (some ⟨w.heap.size, 0, none⟩) 1 1) [x] :=
  ⟨some ⟨w.heap.size, 0, none⟩, 1, rfl, Nat.le_refl _, by simp [maxLen], (fun h => by cases h), fun _ => ⟨w.heap.size, 0, rfl, by simp, fun i y hy => by rw [cellB heap_new]; rcases i with _ | i <;> simp at hy; subst hy; rfl⟩⟩
theorem RInts.lit2 (w : World) (t : TypeId) (x y : Int) : RInts (w.alloc (.cells #[.int .i64 x, .int .i64 y] t)) (w.alloc (.cells #[.int .i64 x, .int .i64 y] t)).heap.size (.slice (some ⟨w.heap.size, 0, none⟩) 2 2) [x, y] :=
  ⟨some ⟨w.heap.size, 0, none⟩, 2, rfl, Nat.le_refl _, by simp [maxLen], (fun h => by cases h), fun _ => ⟨w.heap.size, 0, rfl, by simp, fun i z hz => by rw [cellB heap_new]; rcases i with _ | _ | i <;> simp at hz <;> subst hz <;> rfl⟩⟩
def setAgeS (b : Bun) (x : Int) : Bun × Int := if chkE b ≠ 0 then (zBun, 1) else if x < 0 ∨ 1099511627776 < x then (zBun, 2) else setS b 1 (intE x)
def setHopS (b : Bun) (x y : Int) : Bun × Int := if chkE b ≠ 0 then (zBun, 1) else if x < 1 ∨ 255 < x ∨ y < 0 ∨ x < y then (zBun, 2) else setS b 2 (intE x ++ intE y)
set_option maxRecDepth 100000 in
set_option maxHeartbeats 8000000 in
theorem setAge_any (b : Bun) (u : Value) (x : Int) (w : World) (h : RBlks w w.heap.size u b.blocks) (hf : Fits b) :
    Calls Try.prog 18 #[.agg (bunC b u).toArray, .int .i64 x] w (BunPost (setAgeS b x) w) := by
  have HF := Lib.hid hf
  have HR := Lib.hid h
  obtain ⟨a, c, rfl, h1, h2, h3, h4⟩ := h
  clear h1 h2 h3 h4 hf
  obtain ⟨E, hE⟩ : ∃ q, chkE b = q := ⟨_, rfl⟩
  have HE := Lib.hid hE
  by_cases z : E = 0
  case neg =>
    have z' : (E != 0) = true := by rw [bne_iff_ne]; exact z
    have e : setAgeS b x = (zBun, 1) := by unfold setAgeS; rw [hE, if_pos z]
    rw [e]
    clear e z hE
    go_enter Try.func18, Try.ntmps18
    simp only [bunC]
    go_wp2_with fail
    refine (check_any b _ _ (HR.out.below' (by repeat' (first | with_reducible (first | refine bset ?_ ?_ | exact Below.refl _ _ | assumption | refine bdrewN ?_ _ | refine bdrew ?_ | refine balloc0 ?_ | refine balloc ?_ ?_ | (apply btrans0; rotate_left; assumption) | (apply btrans; rotate_left; assumption)) | exact Below.refl _ _ | assumption | (apply btrans0; rotate_left; assumption) | (apply btrans; rotate_left; assumption) | (simp; done) | omega | (simp; omega)))) HF.out).mono ?_
    rw [HE.out]
    rintro e w1 ⟨rfl, hb1⟩
    have hB1 : Below w.heap.size w w1 := (by repeat' (first | with_reducible (first | refine bset ?_ ?_ | exact Below.refl _ _ | assumption | refine bdrewN ?_ _ | refine bdrew ?_ | refine balloc0 ?_ | refine balloc ?_ ?_ | (apply btrans0; rotate_left; assumption) | (apply btrans; rotate_left; assumption)) | exact Below.refl _ _ | assumption | (apply btrans0; rotate_left; assumption) | (apply btrans; rotate_left; assumption) | (simp; done) | omega | (simp; omega)))
    have z1 : w.heap.size + 1 < w1.heap.size := by have := hb1.size; simp at this; omega
    have z1a : w.heap.size < w1.heap.size := by omega
    have A1 : w1.heap[w.heap.size]? = some (.cells (bunC b (.slice a b.blocks.length c)).toArray 28 (0, 0)) := (hb1.block _ (by simp; omega)).trans ((Below.heap_alloc _ _ _ (by simp)).trans heap_new)
    have R1 : w1.heap[w.heap.size + 1]? = some (.cells #[.int .i64 0, .int .i64 0, .int .i64 0, .int .i64 0, .int .i64 0, .int .i64 0, .int .i64 0, .int .i64 0, .int .i64 0, .int .i64 0, .slice none 0 0, .string ⟨#[]⟩] 28 (0, 0)) := (hb1.block _ (by simp)).trans (heap_new' (by simp))
    have ca := fun o => cellB A1 o
    have cr := fun o => cellB R1 o
    have fr := fun o => frozenB R1 o
    simp only [bunC] at ca
    have HA1 := Lib.hid A1
    have HR1 := Lib.hid R1
    clear A1 R1 hb1
    go_wp2
    refine bodyPost_ret (v := .tuple #[.agg #[.int .i64 0, .int .i64 0, .int .i64 0, .int .i64 0, .int .i64 0, .int .i64 0, .int .i64 0, .int .i64 0, .int .i64 0, .int .i64 0, .slice none 0 0, .string ⟨#[]⟩], .int .i64 1]) (by simp [results, Try.results18, go_sem, World.cell?_setCell_same', cr, z1]) rfl ?_
    unfold BunPost
    exact ⟨_, rfl, RBlks.nil _ _, RFrom.nil _, (by repeat' (first | with_reducible (first | refine bset ?_ ?_ | exact Below.refl _ _ | assumption | refine bdrewN ?_ _ | refine bdrew ?_ | refine balloc0 ?_ | refine balloc ?_ ?_ | (apply btrans0; rotate_left; assumption) | (apply btrans; rotate_left; assumption)) | exact Below.refl _ _ | assumption | (apply btrans0; rotate_left; assumption) | (apply btrans; rotate_left; assumption) | (simp; done) | omega | (simp; omega)))⟩
  subst z
  by_cases y1 : x < 0
  · have e : setAgeS b x = (zBun, 2) := by unfold setAgeS; rw [hE, if_neg (by simp), if_pos (.inl y1)]
    rw [e]
    clear e hE
    go_enter Try.func18, Try.ntmps18
    simp only [bunC]
    go_wp2_with fail
    refine (check_any b _ _ (HR.out.below' (by repeat' (first | with_reducible (first | refine bset ?_ ?_ | exact Below.refl _ _ | assumption | refine bdrewN ?_ _ | refine bdrew ?_ | refine balloc0 ?_ | refine balloc ?_ ?_ | (apply btrans0; rotate_left; assumption) | (apply btrans; rotate_left; assumption)) | exact Below.refl _ _ | assumption | (apply btrans0; rotate_left; assumption) | (apply btrans; rotate_left; assumption) | (simp; done) | omega | (simp; omega)))) HF.out).mono ?_
    rw [HE.out]
    rintro e w1 ⟨rfl, hb1⟩
    have hB1 : Below w.heap.size w w1 := (by repeat' (first | with_reducible (first | refine bset ?_ ?_ | exact Below.refl _ _ | assumption | refine bdrewN ?_ _ | refine bdrew ?_ | refine balloc0 ?_ | refine balloc ?_ ?_ | (apply btrans0; rotate_left; assumption) | (apply btrans; rotate_left; assumption)) | exact Below.refl _ _ | assumption | (apply btrans0; rotate_left; assumption) | (apply btrans; rotate_left; assumption) | (simp; done) | omega | (simp; omega)))
    have z1 : w.heap.size + 1 < w1.heap.size := by have := hb1.size; simp at this; omega
    have z1a : w.heap.size < w1.heap.size := by omega
    have A1 : w1.heap[w.heap.size]? = some (.cells (bunC b (.slice a b.blocks.length c)).toArray 28 (0, 0)) := (hb1.block _ (by simp; omega)).trans ((Below.heap_alloc _ _ _ (by simp)).trans heap_new)
    have R1 : w1.heap[w.heap.size + 1]? = some (.cells #[.int .i64 0, .int .i64 0, .int .i64 0, .int .i64 0, .int .i64 0, .int .i64 0, .int .i64 0, .int .i64 0, .int .i64 0, .int .i64 0, .slice none 0 0, .string ⟨#[]⟩] 28 (0, 0)) := (hb1.block _ (by simp)).trans (heap_new' (by simp))
    have ca := fun o => cellB A1 o
    have cr := fun o => cellB R1 o
    have fr := fun o => frozenB R1 o
    simp only [bunC] at ca
    have HA1 := Lib.hid A1
    have HR1 := Lib.hid R1
    clear A1 R1 hb1
    go_wp2
    refine bodyPost_ret (v := .tuple #[.agg #[.int .i64 0, .int .i64 0, .int .i64 0, .int .i64 0, .int .i64 0, .int .i64 0, .int .i64 0, .int .i64 0, .int .i64 0, .int .i64 0, .slice none 0 0, .string ⟨#[]⟩], .int .i64 2]) (by simp [results, Try.results18, go_sem, World.cell?_setCell_same', cr, z1]) rfl ?_
    unfold BunPost
    exact ⟨_, rfl, RBlks.nil _ _, RFrom.nil _, (by repeat' (first | with_reducible (first | refine bset ?_ ?_ | exact Below.refl _ _ | assumption | refine bdrewN ?_ _ | refine bdrew ?_ | refine balloc0 ?_ | refine balloc ?_ ?_ | (apply btrans0; rotate_left; assumption) | (apply btrans; rotate_left; assumption)) | exact Below.refl _ _ | assumption | (apply btrans0; rotate_left; assumption) | (apply btrans; rotate_left; assumption) | (simp; done) | omega | (simp; omega)))⟩
  by_cases y2 : 1099511627776 < x
  · have e : setAgeS b x = (zBun, 2) := by unfold setAgeS; rw [hE, if_neg (by simp), if_pos (.inr y2)]
    rw [e]
    clear e hE
    go_enter Try.func18, Try.ntmps18
    simp only [bunC]
    go_wp2_with fail
    refine (check_any b _ _ (HR.out.below' (by repeat' (first | with_reducible (first | refine bset ?_ ?_ | exact Below.refl _ _ | assumption | refine bdrewN ?_ _ | refine bdrew ?_ | refine balloc0 ?_ | refine balloc ?_ ?_ | (apply btrans0; rotate_left; assumption) | (apply btrans; rotate_left; assumption)) | exact Below.refl _ _ | assumption | (apply btrans0; rotate_left; assumption) | (apply btrans; rotate_left; assumption) | (simp; done) | omega | (simp; omega)))) HF.out).mono ?_
    rw [HE.out]
    rintro e w1 ⟨rfl, hb1⟩
    have hB1 : Below w.heap.size w w1 := (by repeat' (first | with_reducible (first | refine bset ?_ ?_ | exact Below.refl _ _ | assumption | refine bdrewN ?_ _ | refine bdrew ?_ | refine balloc0 ?_ | refine balloc ?_ ?_ | (apply btrans0; rotate_left; assumption) | (apply btrans; rotate_left; assumption)) | exact Below.refl _ _ | assumption | (apply btrans0; rotate_left; assumption) | (apply btrans; rotate_left; assumption) | (simp; done) | omega | (simp; omega)))
    have z1 : w.heap.size + 1 < w1.heap.size := by have := hb1.size; simp at this; omega
    have z1a : w.heap.size < w1.heap.size := by omega
    have A1 : w1.heap[w.heap.size]? = some (.cells (bunC b (.slice a b.blocks.length c)).toArray 28 (0, 0)) := (hb1.block _ (by simp; omega)).trans ((Below.heap_alloc _ _ _ (by simp)).trans heap_new)
    have R1 : w1.heap[w.heap.size + 1]? = some (.cells #[.int .i64 0, .int .i64 0, .int .i64 0, .int .i64 0, .int .i64 0, .int .i64 0, .int .i64 0, .int .i64 0, .int .i64 0, .int .i64 0, .slice none 0 0, .string ⟨#[]⟩] 28 (0, 0)) := (hb1.block _ (by simp)).trans (heap_new' (by simp))
    have ca := fun o => cellB A1 o
    have cr := fun o => cellB R1 o
    have fr := fun o => frozenB R1 o
    simp only [bunC] at ca
    have HA1 := Lib.hid A1
    have HR1 := Lib.hid R1
    clear A1 R1 hb1
    go_wp2
    refine bodyPost_ret (v := .tuple #[.agg #[.int .i64 0, .int .i64 0, .int .i64 0, .int .i64 0, .int .i64 0, .int .i64 0, .int .i64 0, .int .i64 0, .int .i64 0, .int .i64 0, .slice none 0 0, .string ⟨#[]⟩], .int .i64 2]) (by simp [results, Try.results18, go_sem, World.cell?_setCell_same', cr, z1]) rfl ?_
    unfold BunPost
    exact ⟨_, rfl, RBlks.nil _ _, RFrom.nil _, (by repeat' (first | with_reducible (first | refine bset ?_ ?_ | exact Below.refl _ _ | assumption | refine bdrewN ?_ _ | refine bdrew ?_ | refine balloc0 ?_ | refine balloc ?_ ?_ | (apply btrans0; rotate_left; assumption) | (apply btrans; rotate_left; assumption)) | exact Below.refl _ _ | assumption | (apply btrans0; rotate_left; assumption) | (apply btrans; rotate_left; assumption) | (simp; done) | omega | (simp; omega)))⟩
  have e : setAgeS b x = setS b 1 (intE x) := by unfold setAgeS; rw [hE, if_neg (by simp), if_neg (by omega)]
  rw [e]
  obtain ⟨S, hS⟩ : ∃ q, intE x = q := ⟨_, rfl⟩
  have hSl := (intE_len x).2
  rw [hS] at hSl ⊢
  have HNU : Hid ([x].flatMap intE = S) := Lib.hid (by simpa using hS)
  obtain ⟨⟨X, XE⟩, hX⟩ : ∃ q, setS b 1 S = q := ⟨_, rfl⟩
  have HX := Lib.hid hX
  have HRG : Hid (IRange [x]) := Lib.hid (fun n hn => by rw [List.mem_singleton.1 hn]; omega)
  rw [hX]
  clear e hE hS hX
  go_enter Try.func18, Try.ntmps18
  simp only [bunC]
  go_wp2_with fail
  refine (check_any b _ _ (HR.out.below' (by repeat' (first | with_reducible (first | refine bset ?_ ?_ | exact Below.refl _ _ | assumption | refine bdrewN ?_ _ | refine bdrew ?_ | refine balloc0 ?_ | refine balloc ?_ ?_ | (apply btrans0; rotate_left; assumption) | (apply btrans; rotate_left; assumption)) | exact Below.refl _ _ | assumption | (apply btrans0; rotate_left; assumption) | (apply btrans; rotate_left; assumption) | (simp; done) | omega | (simp; omega)))) HF.out).mono ?_
  rw [HE.out]
  rintro e w1 ⟨rfl, hb1⟩
  have hB1 : Below w.heap.size w w1 := (by repeat' (first | with_reducible (first | refine bset ?_ ?_ | exact Below.refl _ _ | assumption | refine bdrewN ?_ _ | refine bdrew ?_ | refine balloc0 ?_ | refine balloc ?_ ?_ | (apply btrans0; rotate_left; assumption) | (apply btrans; rotate_left; assumption)) | exact Below.refl _ _ | assumption | (apply btrans0; rotate_left; assumption) | (apply btrans; rotate_left; assumption) | (simp; done) | omega | (simp; omega)))
  have z1 : w.heap.size + 1 < w1.heap.size := by have := hb1.size; simp at this; omega
  have z1a : w.heap.size < w1.heap.size := by omega
  have A1 : w1.heap[w.heap.size]? = some (.cells (bunC b (.slice a b.blocks.length c)).toArray 28 (0, 0)) := (hb1.block _ (by simp; omega)).trans ((Below.heap_alloc _ _ _ (by simp)).trans heap_new)
  have R1 : w1.heap[w.heap.size + 1]? = some (.cells #[.int .i64 0, .int .i64 0, .int .i64 0, .int .i64 0, .int .i64 0, .int .i64 0, .int .i64 0, .int .i64 0, .int .i64 0, .int .i64 0, .slice none 0 0, .string ⟨#[]⟩] 28 (0, 0)) := (hb1.block _ (by simp)).trans (heap_new' (by simp))
  have ca := fun o => cellB A1 o
  have cr := fun o => cellB R1 o
  have fr := fun o => frozenB R1 o
  simp only [bunC] at ca
  have HA1 := Lib.hid A1
  have HR1 := Lib.hid R1
  clear A1 R1 hb1
  go_wp2
  clear cr fr
  refine wp_region_plan (fun V => Below (w1).heap.size (w1) V) [1, 0, 2, 2, 3, 0, 0, 3, 0] [0, 1, 2, 3, 4, 5, 6, 7, 8] (by kernel_rfl) (by kernel_rfl) ?_ ?_
  case refine_1 => exact (by repeat' (first | with_reducible (first | refine bset ?_ ?_ | exact Below.refl _ _ | assumption | refine bdrewN ?_ _ | refine bdrew ?_ | refine balloc0 ?_ | refine balloc ?_ ?_ | (apply btrans0; rotate_left; assumption) | (apply btrans; rotate_left; assumption)) | exact Below.refl _ _ | assumption | (apply btrans0; rotate_left; assumption) | (apply btrans; rotate_left; assumption) | (simp; done) | omega | (simp; omega)))
  (iterate 2 (first | (refine plan_held rfl (by decide) (by rfl) (fun w1 hS => by (try (obtain ⟨_, _⟩ := bcell (hS rfl))); go_simp; rfl) ?_; simp only [Act.put, List.setIfInBounds_toArray, List.set_cons_zero, List.set_cons_succ]) | (refine plan_skip rfl (by decide) (by rfl) ?_; simp only [Act.put, List.setIfInBounds_toArray, List.set_cons_zero, List.set_cons_succ])))
  (refine plan_keep rfl rfl (by rfl) (fun K hK => ?_); go_simp)
  (refine hK _ _ (by exact (by repeat' (first | with_reducible (first | refine bset ?_ ?_ | exact Below.refl _ _ | assumption | refine bdrewN ?_ _ | refine bdrew ?_ | refine balloc0 ?_ | refine balloc ?_ ?_ | (apply btrans0; rotate_left; assumption) | (apply btrans; rotate_left; assumption)) | exact Below.refl _ _ | assumption | (apply btrans0; rotate_left; assumption) | (apply btrans; rotate_left; assumption) | (simp; done) | omega | (simp; omega)))) ?_; clear hK K; (try simp only [Act.put, List.setIfInBounds_toArray, List.set_cons_zero, List.set_cons_succ]))
  (refine plan_keep rfl rfl (by rfl) (fun K hK => ?_); go_simp)
  refine (numbers_any [x] _ _ ((RInts.lit1 w1 _ x).below' (bdrew (Below.refl _ _))) (by simp) HRG.out).mono ?_
  rw [HNU.out]
  rintro e wc20 ⟨rfl, hbc20⟩
  (refine hK _ _ (by exact (by repeat' (first | with_reducible (first | refine bset ?_ ?_ | exact Below.refl _ _ | assumption | refine bdrewN ?_ _ | refine bdrew ?_ | refine balloc0 ?_ | refine balloc ?_ ?_ | (apply btrans0; rotate_left; assumption) | (apply btrans; rotate_left; assumption)) | exact Below.refl _ _ | assumption | (apply btrans0; rotate_left; assumption) | (apply btrans; rotate_left; assumption) | (simp; done) | omega | (simp; omega)))) ?_; clear hK K; (try simp only [Act.put, List.setIfInBounds_toArray, List.set_cons_zero, List.set_cons_succ]))
  (refine plan_late rfl rfl (by rfl) (fun K hK => ?_); go_simp)
  refine (set_any b _ 1 S _ (HR.out.below' (by repeat' (first | with_reducible (first | refine bset ?_ ?_ | exact Below.refl _ _ | assumption | refine bdrewN ?_ _ | refine bdrew ?_ | refine balloc0 ?_ | refine balloc ?_ ?_ | (apply btrans0; rotate_left; assumption) | (apply btrans; rotate_left; assumption)) | exact Below.refl _ _ | assumption | (apply btrans0; rotate_left; assumption) | (apply btrans; rotate_left; assumption) | (simp; done) | omega | (simp; omega)))) HF.out (by omega)).mono ?_
  unfold BunPost
  rw [HX.out]
  simp only
  rintro e wc21 ⟨u, rfl, hru, hrf, hbc21⟩
  obtain ⟨va, vc, rfl, g1, g2, g3, g4⟩ := id hru
  have hbW : Below w1.heap.size w1 wc21 := (by repeat' (first | with_reducible (first | refine bset ?_ ?_ | exact Below.refl _ _ | assumption | refine bdrewN ?_ _ | refine bdrew ?_ | refine balloc0 ?_ | refine balloc ?_ ?_ | (apply btrans0; rotate_left; assumption) | (apply btrans; rotate_left; assumption)) | exact Below.refl _ _ | assumption | (apply btrans0; rotate_left; assumption) | (apply btrans; rotate_left; assumption) | (simp; done) | omega | (simp; omega)))
  have R2 := (hbW.block _ z1).trans HR1.out
  have cr := fun o => cellB R2 o
  have fr := fun o => frozenB R2 o
  have zW : w.heap.size + 1 < wc21.heap.size := by have := hbW.size; omega
  have HRU := Lib.hid hru
  have HRF := Lib.hid hrf
  obtain ⟨n, hn⟩ : ∃ n, X.blocks.length = n := ⟨_, rfl⟩
  rw [hn]
  rw [hn] at HRU HRF
  have HN := Lib.hid hn
  clear R2 hru hrf g1 g2 g3 g4 hn
  simp only [bunC]
  (refine hK _ _ ?_; clear hK K; (try simp only [Act.put, List.setIfInBounds_toArray, List.set_cons_zero, List.set_cons_succ]))
  (iterate 2 (first | (refine plan_held rfl (by decide) (by rfl) (fun w1 hS => by (try (obtain ⟨_, _⟩ := bcell (hS rfl))); go_simp; rfl) ?_; simp only [Act.put, List.setIfInBounds_toArray, List.set_cons_zero, List.set_cons_succ]) | (refine plan_skip rfl (by decide) (by rfl) ?_; simp only [Act.put, List.setIfInBounds_toArray, List.set_cons_zero, List.set_cons_succ])))
  (refine plan_late rfl rfl (by rfl) (fun K hK => ?_); go_simp)
  (refine hK _ _ ?_; clear hK K; (try simp only [Act.put, List.setIfInBounds_toArray, List.set_cons_zero, List.set_cons_succ]))
  (iterate 1 (first | (refine plan_held rfl (by decide) (by rfl) (fun w1 hS => by (try (obtain ⟨_, _⟩ := bcell (hS rfl))); go_simp; rfl) ?_; simp only [Act.put, List.setIfInBounds_toArray, List.set_cons_zero, List.set_cons_succ]) | (refine plan_skip rfl (by decide) (by rfl) ?_; simp only [Act.put, List.setIfInBounds_toArray, List.set_cons_zero, List.set_cons_succ])))
  refine plan_done ?_
  go_wp2
  have zc : w.heap.size + 1 < wc20.heap.size := by have := hbc20.size; simp at this; omega
  refine bodyPost_ret (v := .tuple #[.agg #[.int .i64 X.src, .int .i64 X.crt, .int .i64 X.seq, .int .i64 X.off, .int .i64 X.tot, .int .i64 X.dk, .int .i64 X.dn, .int .i64 X.life, .int .i64 X.prio, .int .i64 X.flags, .slice va n vc, .string (B X.payload)], .int .i64 XE]) (by simp [results, Try.results18, go_sem, World.cell?_setCell_same', cr, zW]) rfl ?_
  unfold BunPost
  exact ⟨_, rfl, RBlks.fresh (B := w.heap.size + 2) HRU.out (fun a n c e => by have := HRF.out a n c e; omega) (fun q o hq hq2 => by simp (disch := (simp; omega)) only [World.cell?_setCell_far]) (by simp), fun a n c e => by have := HRF.out a n c e; omega, (by repeat' (first | with_reducible (first | refine bset ?_ ?_ | exact Below.refl _ _ | assumption | refine bdrewN ?_ _ | refine bdrew ?_ | refine balloc0 ?_ | refine balloc ?_ ?_ | (apply btrans0; rotate_left; assumption) | (apply btrans; rotate_left; assumption)) | exact Below.refl _ _ | assumption | (apply btrans0; rotate_left; assumption) | (apply btrans; rotate_left; assumption) | (simp; done) | omega | (simp; omega)))⟩
set_option maxRecDepth 100000 in
set_option maxHeartbeats 8000000 in
theorem setHops_any (b : Bun) (u : Value) (x y : Int) (w : World) (h : RBlks w w.heap.size u b.blocks) (hf : Fits b) :
    Calls Try.prog 20 #[.agg (bunC b u).toArray, .int .i64 x, .int .i64 y] w (BunPost (setHopS b x y) w) := by
  have HF := Lib.hid hf
  have HR := Lib.hid h
  obtain ⟨a, c, rfl, h1, h2, h3, h4⟩ := h
  clear h1 h2 h3 h4 hf
  obtain ⟨E, hE⟩ : ∃ q, chkE b = q := ⟨_, rfl⟩
  have HE := Lib.hid hE
  by_cases z : E = 0
  case neg =>
    have z' : (E != 0) = true := by rw [bne_iff_ne]; exact z
    have e : setHopS b x y = (zBun, 1) := by unfold setHopS; rw [hE, if_pos z]
    rw [e]
    clear e z hE
    go_enter Try.func20, Try.ntmps20
    simp only [bunC]
    go_wp2_with fail
    refine (check_any b _ _ (HR.out.below' (by repeat' (first | with_reducible (first | refine bset ?_ ?_ | exact Below.refl _ _ | assumption | refine bdrewN ?_ _ | refine bdrew ?_ | refine balloc0 ?_ | refine balloc ?_ ?_ | (apply btrans0; rotate_left; assumption) | (apply btrans; rotate_left; assumption)) | exact Below.refl _ _ | assumption | (apply btrans0; rotate_left; assumption) | (apply btrans; rotate_left; assumption) | (simp; done) | omega | (simp; omega)))) HF.out).mono ?_
    rw [HE.out]
    rintro e w1 ⟨rfl, hb1⟩
    have hB1 : Below w.heap.size w w1 := (by repeat' (first | with_reducible (first | refine bset ?_ ?_ | exact Below.refl _ _ | assumption | refine bdrewN ?_ _ | refine bdrew ?_ | refine balloc0 ?_ | refine balloc ?_ ?_ | (apply btrans0; rotate_left; assumption) | (apply btrans; rotate_left; assumption)) | exact Below.refl _ _ | assumption | (apply btrans0; rotate_left; assumption) | (apply btrans; rotate_left; assumption) | (simp; done) | omega | (simp; omega)))
    have z1 : w.heap.size + 1 < w1.heap.size := by have := hb1.size; simp at this; omega
    have z1a : w.heap.size < w1.heap.size := by omega
    have A1 : w1.heap[w.heap.size]? = some (.cells (bunC b (.slice a b.blocks.length c)).toArray 28 (0, 0)) := (hb1.block _ (by simp; omega)).trans ((Below.heap_alloc _ _ _ (by simp)).trans heap_new)
    have R1 : w1.heap[w.heap.size + 1]? = some (.cells #[.int .i64 0, .int .i64 0, .int .i64 0, .int .i64 0, .int .i64 0, .int .i64 0, .int .i64 0, .int .i64 0, .int .i64 0, .int .i64 0, .slice none 0 0, .string ⟨#[]⟩] 28 (0, 0)) := (hb1.block _ (by simp)).trans (heap_new' (by simp))
    have ca := fun o => cellB A1 o
    have cr := fun o => cellB R1 o
    have fr := fun o => frozenB R1 o
    simp only [bunC] at ca
    have HA1 := Lib.hid A1
    have HR1 := Lib.hid R1
    clear A1 R1 hb1
    go_wp2
    refine bodyPost_ret (v := .tuple #[.agg #[.int .i64 0, .int .i64 0, .int .i64 0, .int .i64 0, .int .i64 0, .int .i64 0, .int .i64 0, .int .i64 0, .int .i64 0, .int .i64 0, .slice none 0 0, .string ⟨#[]⟩], .int .i64 1]) (by simp [results, Try.results20, go_sem, World.cell?_setCell_same', cr, z1]) rfl ?_
    unfold BunPost
    exact ⟨_, rfl, RBlks.nil _ _, RFrom.nil _, (by repeat' (first | with_reducible (first | refine bset ?_ ?_ | exact Below.refl _ _ | assumption | refine bdrewN ?_ _ | refine bdrew ?_ | refine balloc0 ?_ | refine balloc ?_ ?_ | (apply btrans0; rotate_left; assumption) | (apply btrans; rotate_left; assumption)) | exact Below.refl _ _ | assumption | (apply btrans0; rotate_left; assumption) | (apply btrans; rotate_left; assumption) | (simp; done) | omega | (simp; omega)))⟩
  subst z
  by_cases y0 : x < 1
  · have e : setHopS b x y = (zBun, 2) := by unfold setHopS; rw [hE, if_neg (by simp), if_pos (by omega)]
    rw [e]
    clear e hE
    go_enter Try.func20, Try.ntmps20
    simp only [bunC]
    go_wp2_with fail
    refine (check_any b _ _ (HR.out.below' (by repeat' (first | with_reducible (first | refine bset ?_ ?_ | exact Below.refl _ _ | assumption | refine bdrewN ?_ _ | refine bdrew ?_ | refine balloc0 ?_ | refine balloc ?_ ?_ | (apply btrans0; rotate_left; assumption) | (apply btrans; rotate_left; assumption)) | exact Below.refl _ _ | assumption | (apply btrans0; rotate_left; assumption) | (apply btrans; rotate_left; assumption) | (simp; done) | omega | (simp; omega)))) HF.out).mono ?_
    rw [HE.out]
    rintro e w1 ⟨rfl, hb1⟩
    have hB1 : Below w.heap.size w w1 := (by repeat' (first | with_reducible (first | refine bset ?_ ?_ | exact Below.refl _ _ | assumption | refine bdrewN ?_ _ | refine bdrew ?_ | refine balloc0 ?_ | refine balloc ?_ ?_ | (apply btrans0; rotate_left; assumption) | (apply btrans; rotate_left; assumption)) | exact Below.refl _ _ | assumption | (apply btrans0; rotate_left; assumption) | (apply btrans; rotate_left; assumption) | (simp; done) | omega | (simp; omega)))
    have z1 : w.heap.size + 1 < w1.heap.size := by have := hb1.size; simp at this; omega
    have z1a : w.heap.size < w1.heap.size := by omega
    have A1 : w1.heap[w.heap.size]? = some (.cells (bunC b (.slice a b.blocks.length c)).toArray 28 (0, 0)) := (hb1.block _ (by simp; omega)).trans ((Below.heap_alloc _ _ _ (by simp)).trans heap_new)
    have R1 : w1.heap[w.heap.size + 1]? = some (.cells #[.int .i64 0, .int .i64 0, .int .i64 0, .int .i64 0, .int .i64 0, .int .i64 0, .int .i64 0, .int .i64 0, .int .i64 0, .int .i64 0, .slice none 0 0, .string ⟨#[]⟩] 28 (0, 0)) := (hb1.block _ (by simp)).trans (heap_new' (by simp))
    have ca := fun o => cellB A1 o
    have cr := fun o => cellB R1 o
    have fr := fun o => frozenB R1 o
    simp only [bunC] at ca
    have HA1 := Lib.hid A1
    have HR1 := Lib.hid R1
    clear A1 R1 hb1
    go_wp2
    refine bodyPost_ret (v := .tuple #[.agg #[.int .i64 0, .int .i64 0, .int .i64 0, .int .i64 0, .int .i64 0, .int .i64 0, .int .i64 0, .int .i64 0, .int .i64 0, .int .i64 0, .slice none 0 0, .string ⟨#[]⟩], .int .i64 2]) (by simp [results, Try.results20, go_sem, World.cell?_setCell_same', cr, z1]) rfl ?_
    unfold BunPost
    exact ⟨_, rfl, RBlks.nil _ _, RFrom.nil _, (by repeat' (first | with_reducible (first | refine bset ?_ ?_ | exact Below.refl _ _ | assumption | refine bdrewN ?_ _ | refine bdrew ?_ | refine balloc0 ?_ | refine balloc ?_ ?_ | (apply btrans0; rotate_left; assumption) | (apply btrans; rotate_left; assumption)) | exact Below.refl _ _ | assumption | (apply btrans0; rotate_left; assumption) | (apply btrans; rotate_left; assumption) | (simp; done) | omega | (simp; omega)))⟩
  by_cases y1 : 255 < x
  · have e : setHopS b x y = (zBun, 2) := by unfold setHopS; rw [hE, if_neg (by simp), if_pos (by omega)]
    rw [e]
    clear e hE
    go_enter Try.func20, Try.ntmps20
    simp only [bunC]
    go_wp2_with fail
    refine (check_any b _ _ (HR.out.below' (by repeat' (first | with_reducible (first | refine bset ?_ ?_ | exact Below.refl _ _ | assumption | refine bdrewN ?_ _ | refine bdrew ?_ | refine balloc0 ?_ | refine balloc ?_ ?_ | (apply btrans0; rotate_left; assumption) | (apply btrans; rotate_left; assumption)) | exact Below.refl _ _ | assumption | (apply btrans0; rotate_left; assumption) | (apply btrans; rotate_left; assumption) | (simp; done) | omega | (simp; omega)))) HF.out).mono ?_
    rw [HE.out]
    rintro e w1 ⟨rfl, hb1⟩
    have hB1 : Below w.heap.size w w1 := (by repeat' (first | with_reducible (first | refine bset ?_ ?_ | exact Below.refl _ _ | assumption | refine bdrewN ?_ _ | refine bdrew ?_ | refine balloc0 ?_ | refine balloc ?_ ?_ | (apply btrans0; rotate_left; assumption) | (apply btrans; rotate_left; assumption)) | exact Below.refl _ _ | assumption | (apply btrans0; rotate_left; assumption) | (apply btrans; rotate_left; assumption) | (simp; done) | omega | (simp; omega)))
    have z1 : w.heap.size + 1 < w1.heap.size := by have := hb1.size; simp at this; omega
    have z1a : w.heap.size < w1.heap.size := by omega
    have A1 : w1.heap[w.heap.size]? = some (.cells (bunC b (.slice a b.blocks.length c)).toArray 28 (0, 0)) := (hb1.block _ (by simp; omega)).trans ((Below.heap_alloc _ _ _ (by simp)).trans heap_new)
    have R1 : w1.heap[w.heap.size + 1]? = some (.cells #[.int .i64 0, .int .i64 0, .int .i64 0, .int .i64 0, .int .i64 0, .int .i64 0, .int .i64 0, .int .i64 0, .int .i64 0, .int .i64 0, .slice none 0 0, .string ⟨#[]⟩] 28 (0, 0)) := (hb1.block _ (by simp)).trans (heap_new' (by simp))
    have ca := fun o => cellB A1 o
    have cr := fun o => cellB R1 o
    have fr := fun o => frozenB R1 o
    simp only [bunC] at ca
    have HA1 := Lib.hid A1
    have HR1 := Lib.hid R1
    clear A1 R1 hb1
    go_wp2
    refine bodyPost_ret (v := .tuple #[.agg #[.int .i64 0, .int .i64 0, .int .i64 0, .int .i64 0, .int .i64 0, .int .i64 0, .int .i64 0, .int .i64 0, .int .i64 0, .int .i64 0, .slice none 0 0, .string ⟨#[]⟩], .int .i64 2]) (by simp [results, Try.results20, go_sem, World.cell?_setCell_same', cr, z1]) rfl ?_
    unfold BunPost
    exact ⟨_, rfl, RBlks.nil _ _, RFrom.nil _, (by repeat' (first | with_reducible (first | refine bset ?_ ?_ | exact Below.refl _ _ | assumption | refine bdrewN ?_ _ | refine bdrew ?_ | refine balloc0 ?_ | refine balloc ?_ ?_ | (apply btrans0; rotate_left; assumption) | (apply btrans; rotate_left; assumption)) | exact Below.refl _ _ | assumption | (apply btrans0; rotate_left; assumption) | (apply btrans; rotate_left; assumption) | (simp; done) | omega | (simp; omega)))⟩
  by_cases y2 : y < 0
  · have e : setHopS b x y = (zBun, 2) := by unfold setHopS; rw [hE, if_neg (by simp), if_pos (by omega)]
    rw [e]
    clear e hE
    go_enter Try.func20, Try.ntmps20
    simp only [bunC]
    go_wp2_with fail
    refine (check_any b _ _ (HR.out.below' (by repeat' (first | with_reducible (first | refine bset ?_ ?_ | exact Below.refl _ _ | assumption | refine bdrewN ?_ _ | refine bdrew ?_ | refine balloc0 ?_ | refine balloc ?_ ?_ | (apply btrans0; rotate_left; assumption) | (apply btrans; rotate_left; assumption)) | exact Below.refl _ _ | assumption | (apply btrans0; rotate_left; assumption) | (apply btrans; rotate_left; assumption) | (simp; done) | omega | (simp; omega)))) HF.out).mono ?_
    rw [HE.out]
    rintro e w1 ⟨rfl, hb1⟩
    have hB1 : Below w.heap.size w w1 := (by repeat' (first | with_reducible (first | refine bset ?_ ?_ | exact Below.refl _ _ | assumption | refine bdrewN ?_ _ | refine bdrew ?_ | refine balloc0 ?_ | refine balloc ?_ ?_ | (apply btrans0; rotate_left; assumption) | (apply btrans; rotate_left; assumption)) | exact Below.refl _ _ | assumption | (apply btrans0; rotate_left; assumption) | (apply btrans; rotate_left; assumption) | (simp; done) | omega | (simp; omega)))
    have z1 : w.heap.size + 1 < w1.heap.size := by have := hb1.size; simp at this; omega
    have z1a : w.heap.size < w1.heap.size := by omega
    have A1 : w1.heap[w.heap.size]? = some (.cells (bunC b (.slice a b.blocks.length c)).toArray 28 (0, 0)) := (hb1.block _ (by simp; omega)).trans ((Below.heap_alloc _ _ _ (by simp)).trans heap_new)
    have R1 : w1.heap[w.heap.size + 1]? = some (.cells #[.int .i64 0, .int .i64 0, .int .i64 0, .int .i64 0, .int .i64 0, .int .i64 0, .int .i64 0, .int .i64 0, .int .i64 0, .int .i64 0, .slice none 0 0, .string ⟨#[]⟩] 28 (0, 0)) := (hb1.block _ (by simp)).trans (heap_new' (by simp))
    have ca := fun o => cellB A1 o
    have cr := fun o => cellB R1 o
    have fr := fun o => frozenB R1 o
    simp only [bunC] at ca
    have HA1 := Lib.hid A1
    have HR1 := Lib.hid R1
    clear A1 R1 hb1
    go_wp2
    refine bodyPost_ret (v := .tuple #[.agg #[.int .i64 0, .int .i64 0, .int .i64 0, .int .i64 0, .int .i64 0, .int .i64 0, .int .i64 0, .int .i64 0, .int .i64 0, .int .i64 0, .slice none 0 0, .string ⟨#[]⟩], .int .i64 2]) (by simp [results, Try.results20, go_sem, World.cell?_setCell_same', cr, z1]) rfl ?_
    unfold BunPost
    exact ⟨_, rfl, RBlks.nil _ _, RFrom.nil _, (by repeat' (first | with_reducible (first | refine bset ?_ ?_ | exact Below.refl _ _ | assumption | refine bdrewN ?_ _ | refine bdrew ?_ | refine balloc0 ?_ | refine balloc ?_ ?_ | (apply btrans0; rotate_left; assumption) | (apply btrans; rotate_left; assumption)) | exact Below.refl _ _ | assumption | (apply btrans0; rotate_left; assumption) | (apply btrans; rotate_left; assumption) | (simp; done) | omega | (simp; omega)))⟩
  by_cases y3 : x < y
  · have e : setHopS b x y = (zBun, 2) := by unfold setHopS; rw [hE, if_neg (by simp), if_pos (by omega)]
    rw [e]
    clear e hE
    go_enter Try.func20, Try.ntmps20
    simp only [bunC]
    go_wp2_with fail
    refine (check_any b _ _ (HR.out.below' (by repeat' (first | with_reducible (first | refine bset ?_ ?_ | exact Below.refl _ _ | assumption | refine bdrewN ?_ _ | refine bdrew ?_ | refine balloc0 ?_ | refine balloc ?_ ?_ | (apply btrans0; rotate_left; assumption) | (apply btrans; rotate_left; assumption)) | exact Below.refl _ _ | assumption | (apply btrans0; rotate_left; assumption) | (apply btrans; rotate_left; assumption) | (simp; done) | omega | (simp; omega)))) HF.out).mono ?_
    rw [HE.out]
    rintro e w1 ⟨rfl, hb1⟩
    have hB1 : Below w.heap.size w w1 := (by repeat' (first | with_reducible (first | refine bset ?_ ?_ | exact Below.refl _ _ | assumption | refine bdrewN ?_ _ | refine bdrew ?_ | refine balloc0 ?_ | refine balloc ?_ ?_ | (apply btrans0; rotate_left; assumption) | (apply btrans; rotate_left; assumption)) | exact Below.refl _ _ | assumption | (apply btrans0; rotate_left; assumption) | (apply btrans; rotate_left; assumption) | (simp; done) | omega | (simp; omega)))
    have z1 : w.heap.size + 1 < w1.heap.size := by have := hb1.size; simp at this; omega
    have z1a : w.heap.size < w1.heap.size := by omega
    have A1 : w1.heap[w.heap.size]? = some (.cells (bunC b (.slice a b.blocks.length c)).toArray 28 (0, 0)) := (hb1.block _ (by simp; omega)).trans ((Below.heap_alloc _ _ _ (by simp)).trans heap_new)
    have R1 : w1.heap[w.heap.size + 1]? = some (.cells #[.int .i64 0, .int .i64 0, .int .i64 0, .int .i64 0, .int .i64 0, .int .i64 0, .int .i64 0, .int .i64 0, .int .i64 0, .int .i64 0, .slice none 0 0, .string ⟨#[]⟩] 28 (0, 0)) := (hb1.block _ (by simp)).trans (heap_new' (by simp))
    have ca := fun o => cellB A1 o
    have cr := fun o => cellB R1 o
    have fr := fun o => frozenB R1 o
    simp only [bunC] at ca
    have HA1 := Lib.hid A1
    have HR1 := Lib.hid R1
    clear A1 R1 hb1
    go_wp2
    refine bodyPost_ret (v := .tuple #[.agg #[.int .i64 0, .int .i64 0, .int .i64 0, .int .i64 0, .int .i64 0, .int .i64 0, .int .i64 0, .int .i64 0, .int .i64 0, .int .i64 0, .slice none 0 0, .string ⟨#[]⟩], .int .i64 2]) (by simp [results, Try.results20, go_sem, World.cell?_setCell_same', cr, z1]) rfl ?_
    unfold BunPost
    exact ⟨_, rfl, RBlks.nil _ _, RFrom.nil _, (by repeat' (first | with_reducible (first | refine bset ?_ ?_ | exact Below.refl _ _ | assumption | refine bdrewN ?_ _ | refine bdrew ?_ | refine balloc0 ?_ | refine balloc ?_ ?_ | (apply btrans0; rotate_left; assumption) | (apply btrans; rotate_left; assumption)) | exact Below.refl _ _ | assumption | (apply btrans0; rotate_left; assumption) | (apply btrans; rotate_left; assumption) | (simp; done) | omega | (simp; omega)))⟩
  have e : setHopS b x y = setS b 2 (intE x ++ intE y) := by unfold setHopS; rw [hE, if_neg (by simp), if_neg (by omega)]
  rw [e]
  obtain ⟨S, hS⟩ : ∃ q, intE x ++ intE y = q := ⟨_, rfl⟩
  have hSl : S.length ≤ 22 := by rw [← hS, List.length_append]; have := (intE_len x).2; have := (intE_len y).2; omega
  rw [hS]
  have HNU : Hid ([x, y].flatMap intE = S) := Lib.hid (by simpa using hS)
  obtain ⟨⟨X, XE⟩, hX⟩ : ∃ q, setS b 2 S = q := ⟨_, rfl⟩
  have HX := Lib.hid hX
  have HRG : Hid (IRange [x, y]) := Lib.hid (fun n hn => by simp at hn; rcases hn with rfl | rfl <;> omega)
  rw [hX]
  clear e hE hS hX
  go_enter Try.func20, Try.ntmps20
  simp only [bunC]
  go_wp2_with fail
  refine (check_any b _ _ (HR.out.below' (by repeat' (first | with_reducible (first | refine bset ?_ ?_ | exact Below.refl _ _ | assumption | refine bdrewN ?_ _ | refine bdrew ?_ | refine balloc0 ?_ | refine balloc ?_ ?_ | (apply btrans0; rotate_left; assumption) | (apply btrans; rotate_left; assumption)) | exact Below.refl _ _ | assumption | (apply btrans0; rotate_left; assumption) | (apply btrans; rotate_left; assumption) | (simp; done) | omega | (simp; omega)))) HF.out).mono ?_
  rw [HE.out]
  rintro e w1 ⟨rfl, hb1⟩
  have hB1 : Below w.heap.size w w1 := (by repeat' (first | with_reducible (first | refine bset ?_ ?_ | exact Below.refl _ _ | assumption | refine bdrewN ?_ _ | refine bdrew ?_ | refine balloc0 ?_ | refine balloc ?_ ?_ | (apply btrans0; rotate_left; assumption) | (apply btrans; rotate_left; assumption)) | exact Below.refl _ _ | assumption | (apply btrans0; rotate_left; assumption) | (apply btrans; rotate_left; assumption) | (simp; done) | omega | (simp; omega)))
  have z1 : w.heap.size + 1 < w1.heap.size := by have := hb1.size; simp at this; omega
  have z1a : w.heap.size < w1.heap.size := by omega
  have A1 : w1.heap[w.heap.size]? = some (.cells (bunC b (.slice a b.blocks.length c)).toArray 28 (0, 0)) := (hb1.block _ (by simp; omega)).trans ((Below.heap_alloc _ _ _ (by simp)).trans heap_new)
  have R1 : w1.heap[w.heap.size + 1]? = some (.cells #[.int .i64 0, .int .i64 0, .int .i64 0, .int .i64 0, .int .i64 0, .int .i64 0, .int .i64 0, .int .i64 0, .int .i64 0, .int .i64 0, .slice none 0 0, .string ⟨#[]⟩] 28 (0, 0)) := (hb1.block _ (by simp)).trans (heap_new' (by simp))
  have ca := fun o => cellB A1 o
  have cr := fun o => cellB R1 o
  have fr := fun o => frozenB R1 o
  simp only [bunC] at ca
  have HA1 := Lib.hid A1
  have HR1 := Lib.hid R1
  clear A1 R1 hb1
  go_wp2
  clear cr fr
  refine wp_region_plan (fun V => Below (w1).heap.size (w1) V) [1, 0, 0, 2, 2, 3, 0, 0, 3, 0] [0, 1, 2, 3, 4, 5, 6, 7, 8, 9] (by kernel_rfl) (by kernel_rfl) ?_ ?_
  case refine_1 => exact (by repeat' (first | with_reducible (first | refine bset ?_ ?_ | exact Below.refl _ _ | assumption | refine bdrewN ?_ _ | refine bdrew ?_ | refine balloc0 ?_ | refine balloc ?_ ?_ | (apply btrans0; rotate_left; assumption) | (apply btrans; rotate_left; assumption)) | exact Below.refl _ _ | assumption | (apply btrans0; rotate_left; assumption) | (apply btrans; rotate_left; assumption) | (simp; done) | omega | (simp; omega)))
  (iterate 3 (first | (refine plan_held rfl (by decide) (by rfl) (fun w1 hS => by (try (obtain ⟨_, _⟩ := bcell (hS rfl))); go_simp; rfl) ?_; simp only [Act.put, List.setIfInBounds_toArray, List.set_cons_zero, List.set_cons_succ]) | (refine plan_skip rfl (by decide) (by rfl) ?_; simp only [Act.put, List.setIfInBounds_toArray, List.set_cons_zero, List.set_cons_succ])))
  (refine plan_keep rfl rfl (by rfl) (fun K hK => ?_); go_simp)
  (refine hK _ _ (by exact (by repeat' (first | with_reducible (first | refine bset ?_ ?_ | exact Below.refl _ _ | assumption | refine bdrewN ?_ _ | refine bdrew ?_ | refine balloc0 ?_ | refine balloc ?_ ?_ | (apply btrans0; rotate_left; assumption) | (apply btrans; rotate_left; assumption)) | exact Below.refl _ _ | assumption | (apply btrans0; rotate_left; assumption) | (apply btrans; rotate_left; assumption) | (simp; done) | omega | (simp; omega)))) ?_; clear hK K; (try simp only [Act.put, List.setIfInBounds_toArray, List.set_cons_zero, List.set_cons_succ]))
  (refine plan_keep rfl rfl (by rfl) (fun K hK => ?_); go_simp)
  refine (numbers_any [x, y] _ _ ((RInts.lit2 w1 _ x y).below' (bdrew (Below.refl _ _))) (by simp) HRG.out).mono ?_
  rw [HNU.out]
  rintro e wc32 ⟨rfl, hbc32⟩
  (refine hK _ _ (by exact (by repeat' (first | with_reducible (first | refine bset ?_ ?_ | exact Below.refl _ _ | assumption | refine bdrewN ?_ _ | refine bdrew ?_ | refine balloc0 ?_ | refine balloc ?_ ?_ | (apply btrans0; rotate_left; assumption) | (apply btrans; rotate_left; assumption)) | exact Below.refl _ _ | assumption | (apply btrans0; rotate_left; assumption) | (apply btrans; rotate_left; assumption) | (simp; done) | omega | (simp; omega)))) ?_; clear hK K; (try simp only [Act.put, List.setIfInBounds_toArray, List.set_cons_zero, List.set_cons_succ]))
  (refine plan_late rfl rfl (by rfl) (fun K hK => ?_); go_simp)
  refine (set_any b _ 2 S _ (HR.out.below' (by repeat' (first | with_reducible (first | refine bset ?_ ?_ | exact Below.refl _ _ | assumption | refine bdrewN ?_ _ | refine bdrew ?_ | refine balloc0 ?_ | refine balloc ?_ ?_ | (apply btrans0; rotate_left; assumption) | (apply btrans; rotate_left; assumption)) | exact Below.refl _ _ | assumption | (apply btrans0; rotate_left; assumption) | (apply btrans; rotate_left; assumption) | (simp; done) | omega | (simp; omega)))) HF.out (by omega)).mono ?_
  unfold BunPost
  rw [HX.out]
  simp only
  rintro e wc33 ⟨u, rfl, hru, hrf, hbc33⟩
  obtain ⟨va, vc, rfl, g1, g2, g3, g4⟩ := id hru
  have hbW : Below w1.heap.size w1 wc33 := (by repeat' (first | with_reducible (first | refine bset ?_ ?_ | exact Below.refl _ _ | assumption | refine bdrewN ?_ _ | refine bdrew ?_ | refine balloc0 ?_ | refine balloc ?_ ?_ | (apply btrans0; rotate_left; assumption) | (apply btrans; rotate_left; assumption)) | exact Below.refl _ _ | assumption | (apply btrans0; rotate_left; assumption) | (apply btrans; rotate_left; assumption) | (simp; done) | omega | (simp; omega)))
  have R2 := (hbW.block _ z1).trans HR1.out
  have cr := fun o => cellB R2 o
  have fr := fun o => frozenB R2 o
  have zW : w.heap.size + 1 < wc33.heap.size := by have := hbW.size; omega
  have HRU := Lib.hid hru
  have HRF := Lib.hid hrf
  obtain ⟨n, hn⟩ : ∃ n, X.blocks.length = n := ⟨_, rfl⟩
  rw [hn]
  rw [hn] at HRU HRF
  have HN := Lib.hid hn
  clear R2 hru hrf g1 g2 g3 g4 hn
  simp only [bunC]
  (refine hK _ _ ?_; clear hK K; (try simp only [Act.put, List.setIfInBounds_toArray, List.set_cons_zero, List.set_cons_succ]))
  (iterate 2 (first | (refine plan_held rfl (by decide) (by rfl) (fun w1 hS => by (try (obtain ⟨_, _⟩ := bcell (hS rfl))); go_simp; rfl) ?_; simp only [Act.put, List.setIfInBounds_toArray, List.set_cons_zero, List.set_cons_succ]) | (refine plan_skip rfl (by decide) (by rfl) ?_; simp only [Act.put, List.setIfInBounds_toArray, List.set_cons_zero, List.set_cons_succ])))
  (refine plan_late rfl rfl (by rfl) (fun K hK => ?_); go_simp)
  (refine hK _ _ ?_; clear hK K; (try simp only [Act.put, List.setIfInBounds_toArray, List.set_cons_zero, List.set_cons_succ]))
  (iterate 1 (first | (refine plan_held rfl (by decide) (by rfl) (fun w1 hS => by (try (obtain ⟨_, _⟩ := bcell (hS rfl))); go_simp; rfl) ?_; simp only [Act.put, List.setIfInBounds_toArray, List.set_cons_zero, List.set_cons_succ]) | (refine plan_skip rfl (by decide) (by rfl) ?_; simp only [Act.put, List.setIfInBounds_toArray, List.set_cons_zero, List.set_cons_succ])))
  refine plan_done ?_
  go_wp2
  have zc : w.heap.size + 1 < wc32.heap.size := by have := hbc32.size; simp at this; omega
  refine bodyPost_ret (v := .tuple #[.agg #[.int .i64 X.src, .int .i64 X.crt, .int .i64 X.seq, .int .i64 X.off, .int .i64 X.tot, .int .i64 X.dk, .int .i64 X.dn, .int .i64 X.life, .int .i64 X.prio, .int .i64 X.flags, .slice va n vc, .string (B X.payload)], .int .i64 XE]) (by simp [results, Try.results20, go_sem, World.cell?_setCell_same', cr, zW]) rfl ?_
  unfold BunPost
  exact ⟨_, rfl, RBlks.fresh (B := w.heap.size + 2) HRU.out (fun a n c e => by have := HRF.out a n c e; omega) (fun q o hq hq2 => by simp (disch := (simp; omega)) only [World.cell?_setCell_far]) (by simp), fun a n c e => by have := HRF.out a n c e; omega, (by repeat' (first | with_reducible (first | refine bset ?_ ?_ | exact Below.refl _ _ | assumption | refine bdrewN ?_ _ | refine bdrew ?_ | refine balloc0 ?_ | refine balloc ?_ ?_ | (apply btrans0; rotate_left; assumption) | (apply btrans; rotate_left; assumption)) | exact Below.refl _ _ | assumption | (apply btrans0; rotate_left; assumption) | (apply btrans; rotate_left; assumption) | (simp; done) | omega | (simp; omega)))⟩
end Go.Proofs.Ythgokfceakbjlaa
