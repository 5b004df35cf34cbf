/-
  Proved: mailboatlaw14.ExtensionForwards returns true for every input, and leaves its arguments as they were. No condition.
-/
import Derived.Test.YthgokfceakbjlaaRows
import Derived.Test.YthgokfceakbjlaaJa
import Derived.Test.YthgokfceakbjlaaJn
import Derived.Test.YthgokfceakbjlaaIl
import Derived.Test.YthgokfceakbjlaaIj
import Derived.Test.YthgokfceakbjlaaIb
import Derived.Test.YthgokfceakbjlaaIc
set_option linter.unusedVariables false
set_option linter.unusedSimpArgs false
namespace Go.Proofs.Ythgokfceakbjlaa.extensionForwards
open Go Go.ChangeShapes Go.WideShapes Go.ChangeAt Go.RowKit Go.Joins Go.Proofs.Ythgokfceakbjlaa
attribute [local go_sem] B_getElem B_size B_app B_extract B_get B_toList

theorem own : ownKnob Try.prog.godebug = none := by kernel_rfl

attribute [local go_sem] bunC
theorem setAge_zero {b p : Bun} {x : Int} (h : setAgeS b x = (p, 0)) : chkE b = 0 ∧ 0 ≤ x ∧ x ≤ 1099511627776 ∧ setS b 1 (intE x) = (p, 0) := by
  unfold setAgeS at h
  split at h
  · simp at h
  · rename_i h1
    split at h
    · simp at h
    · rename_i h2; exact ⟨Decidable.not_not.1 h1, by omega, by omega, h⟩
theorem setHop_zero {b p : Bun} {x y : Int} (h : setHopS b x y = (p, 0)) : chkE b = 0 ∧ 1 ≤ x ∧ x ≤ 255 ∧ 0 ≤ y ∧ y ≤ x ∧ setS b 2 (intE x ++ intE y) = (p, 0) := by
  unfold setHopS at h
  split at h
  · simp at h
  · rename_i h1
    split at h
    · simp at h
    · rename_i h2; exact ⟨Decidable.not_not.1 h1, by omega, by omega, by omega, by omega, h⟩
theorem blk_len {b : Bun} (h : chkE b = 0) : b.blocks.length ≤ 1000 := by have := (chkAll_iff.1 (chkE_chk h)).1; omega
attribute [local go_sem ↓] eqId eqEnd
theorem tmod_fact (a m : Int) (h : 0 ≤ a) (hm : 0 < m) : ∃ r, a.tmod m = r ∧ 0 ≤ r ∧ r < m := ⟨_, rfl, by rw [Int.tmod_eq_emod_of_nonneg h]; exact Int.emod_nonneg _ (by omega), by rw [Int.tmod_eq_emod_of_nonneg h]; exact Int.emod_lt_of_pos _ hm⟩
def SaysNo (w : World) (e : Ending) (w' : World) : Prop := e = .returned (.bool false) ∧ Below w.heap.size w w'
set_option maxRecDepth 100000 in
theorem sameBlocks_len (l m : List Blk) (u v : Value) (w : World) (h : RBlks w w.heap.size u l) (k : RBlks w w.heap.size v m) (hne : l.length ≠ m.length) :
    Calls Try.prog 71 #[u, v] w (SaysNo w) := by
  have hq : ((l.length : Int) != (m.length : Int)) = true := by clear h k; rw [bne_iff_ne]; omega
  have hq2 : ((l.length : Int) == (m.length : Int)) = false := by clear h k; rw [beq_eq_false_iff_ne]; omega
  obtain ⟨a, c, rfl, h1, h2, h3, h4⟩ := h
  obtain ⟨a', c', rfl, k1, k2, k3, k4⟩ := k
  clear h3 h4 k3 k4 hne
  go_enter Try.func71, Try.ntmps71
  go_wp2
  go_ret
  exact ⟨rfl, Below.refl _ _⟩
set_option maxRecDepth 100000 in
set_option maxHeartbeats 4000000 in
theorem bsame_len (b : Bun) (l : List Blk) (u v : Value) (w : World) (h : RBlks w w.heap.size u l) (k : RBlks w w.heap.size v b.blocks) (hne : l.length ≠ b.blocks.length) :
    Calls Try.prog 46 #[.agg (bunC { b with blocks := l } u).toArray, .agg (bunC b v).toArray] w (SaysNo w) := by
  have HR := Lib.hid h
  have KR := Lib.hid k
  have HN := Lib.hid hne
  clear h k hne
  go_enter Try.func46, Try.ntmps46
  simp only [bunC]
  go_wp2_with fail
  refine (sameBlocks_len l b.blocks _ _ _ (HR.out.below (C := w.heap.size) (((Below.refl _ _).alloc (Nat.le_refl _) _).alloc (by simp) _) (Nat.le_refl _) (by simp; omega)) (KR.out.below (C := w.heap.size) (((Below.refl _ _).alloc (Nat.le_refl _) _).alloc (by simp) _) (Nat.le_refl _) (by simp; omega)) HN.out).mono ?_
  rintro e w1 ⟨rfl, hb1⟩
  go_wp2
  go_ret
  exact ⟨by simp, (by repeat' (first | with_reducible (first | refine bset ?_ ?_ | exact Below.refl _ _ | assumption | refine bdrewN ?_ _ | refine bdrew ?_ | refine balloc0 ?_ | refine balloc ?_ ?_ | (apply btrans0; rotate_left; assumption) | (apply btrans; rotate_left; assumption)) | exact Below.refl _ _ | assumption | (apply btrans0; rotate_left; assumption) | (apply btrans; rotate_left; assumption) | (simp; done) | omega | (simp; omega)))⟩
set_option maxRecDepth 100000 in
set_option maxHeartbeats 4000000 in
theorem lsame_len (b : Bun) (l : List Blk) (u v : Value) (w : World) (h : RBlks w w.heap.size u l) (k : RBlks w w.heap.size v b.blocks) (hne : l.length ≠ b.blocks.length) :
    Calls Try.prog 26 #[.agg (bunC { b with blocks := l } u).toArray, .agg (bunC b v).toArray] w (SaysNo w) := by
  have HR := Lib.hid h
  have KR := Lib.hid k
  have HN := Lib.hid hne
  clear h k hne
  go_enter Try.func26, Try.ntmps26
  simp only [bunC]
  go_wp2_with fail
  refine (bsame_len b l _ _ _ (HR.out.below (C := w.heap.size) (((Below.refl _ _).alloc (Nat.le_refl _) _).alloc (by simp) _) (Nat.le_refl _) (by simp; omega)) (KR.out.below (C := w.heap.size) (((Below.refl _ _).alloc (Nat.le_refl _) _).alloc (by simp) _) (Nat.le_refl _) (by simp; omega)) HN.out).mono ?_
  rintro e w1 ⟨rfl, hb1⟩
  go_wp2
  go_ret
  exact ⟨rfl, (by repeat' (first | with_reducible (first | refine bset ?_ ?_ | exact Below.refl _ _ | assumption | refine bdrewN ?_ _ | refine bdrew ?_ | refine balloc0 ?_ | refine balloc ?_ ?_ | (apply btrans0; rotate_left; assumption) | (apply btrans; rotate_left; assumption)) | exact Below.refl _ _ | assumption | (apply btrans0; rotate_left; assumption) | (apply btrans; rotate_left; assumption) | (simp; done) | omega | (simp; omega)))⟩
theorem rest3_len {l : List Blk} (h : rest3 l ≠ l) : (rest3 l).length ≠ l.length := fun e => h (by
  have e3 : rest3 l = l.filter (fun x => x.kind != 1 && (x.kind != 2 && x.kind != 3)) := by
    unfold rest3 neK
    rw [List.filter_filter, List.filter_filter]
    congr 1; funext x; cases x.kind != 1 <;> cases x.kind != 2 <;> cases x.kind != 3 <;> rfl
  rw [e3] at e ⊢
  exact List.filter_eq_self.2 (List.length_filter_eq_length_iff.1 e))
theorem fwd_age {b p : Bun} {n el a g : Int} (h : fwdS b n el = (p, 0)) (ha : ageS b = (a, g)) : ageS p = if g = 0 then (a + el, 0) else (a, g) := by
  obtain ⟨_, _, h1, _, _⟩ := fwd_facts h
  have hg : (getS b 1).2 = g := congrArg Prod.snd ha
  rw [hg, ha] at h1
  by_cases z : g = 0
  · rw [if_pos z] at h1 ⊢; exact ageS_eq h1
  · rw [if_neg z] at h1 ⊢; unfold ageS at ha ⊢; rw [h1]; exact ha
theorem fwd_hop {b p : Bun} {n el l c g : Int} (h : fwdS b n el = (p, 0)) (ha : hopS b = (l, c, g)) : hopS p = if g = 0 then (l, c + 1, 0) else (l, c, g) := by
  obtain ⟨_, _, _, h1, _⟩ := fwd_facts h
  have hg : (getS b 2).2 = g := congrArg (fun q => q.2.2) ha
  rw [hg, ha] at h1
  by_cases z : g = 0
  · rw [if_pos z] at h1 ⊢; exact hopS_eq h1
  · rw [if_neg z] at h1 ⊢; unfold hopS at ha ⊢; rw [h1]; exact ha
theorem fwd_chk {b p : Bun} {n el : Int} (h : fwdS b n el = (p, 0)) : chkE b = 0 := (fwdE_zero (fwdS_ok h).1).1.1
set_option maxRecDepth 100000 in
set_option maxHeartbeats 16000000 in
theorem walkE (b : Bun) (u : Value) (m n x y : Int) (w : World) (wm : 0 ≤ m ∧ m ≤ 255) (wn : 0 ≤ n ∧ n ≤ 255) (wx : 0 ≤ x ∧ x ≤ 65535) (wy : 0 ≤ y ∧ y ≤ 65535) (hr : RBlks w w.heap.size u b.blocks) (hf : Fits b) (m1 n1 : Int) (hm1 : m.tmod 16 = m1) (m1a : 0 ≤ m1) (m1b : m1 < 16) (hn1 : n.tmod 16 = n1) (n1a : 0 ≤ n1) (n1b : n1 < 16) (PE : Int) (hP : fwdS b m1 x = (zBun, PE)) (hPE : PE ≠ 0) :
    Calls Try.prog 7 #[.agg (bunC b u).toArray, .int .u8 m, .int .u8 n, .int .u16 x, .int .u16 y] w (Says w) := by
  obtain ⟨wm1, wm2⟩ := wm
  obtain ⟨wn1, wn2⟩ := wn
  obtain ⟨wx1, wx2⟩ := wx
  obtain ⟨wy1, wy2⟩ := wy
  obtain ⟨⟨Q, QE⟩, hQ⟩ : ∃ q, fwdS zBun n1 y = q := ⟨_, rfl⟩
  have HP := Lib.hid hP
  have HQ := Lib.hid hQ
  have k2 : (PE != 0) = true := by rw [bne_iff_ne]; exact hPE
  clear hP hQ hPE
  obtain ⟨ua, uc, rfl, _⟩ := id hr
  have HR := Lib.hid hr
  have HF := Lib.hid hf
  clear hr hf
  go_enter Try.func7, Try.ntmps7
  simp only [bunC]
  go_wp2_with fail
  refine (bgreat_any b _ _ (HR.out.below' (balloc0 (Below.refl _ _))) HF.out).mono ?_
  rintro e w1 ⟨g, rfl, hb1⟩
  have hB1 : Below w.heap.size w w1 := btrans0 (balloc0 (Below.refl _ _)) hb1
  have y1 := hb1.size
  (try simp at y1)
  have zb1 : w.heap.size < w1.heap.size := by omega
  have Ab : w1.heap[w.heap.size]? = some (.cells (bunC b (.slice ua b.blocks.length uc)).toArray 28 (0, 0)) := (hb1.block _ (by first | exact zb0 | (simp; done) | (simp; omega) | omega)).trans (by repeat (first | exact HAb.out | exact heap_new | exact heap_new' (by first | rfl | (simp; done)) | refine (Below.heap_alloc _ _ _ (by first | omega | (simp; done) | (simp; omega))).trans ?_))
  have cab := fun o => cellB Ab o
  have HAb := Lib.hid Ab
  (try simp only [bunC] at cab)
  clear Ab
  clear hb1
  cases g
  case true =>
    go_wp2_with fail
    refine (awake_any _).mono ?_
    rintro e w99 ⟨rfl, hb99⟩
    go_wp2
    go_ret
    exact ⟨rfl, (by repeat' (first | with_reducible (first | refine bset ?_ ?_ | exact Below.refl _ _ | assumption | refine bdrewN ?_ _ | refine bdrew ?_ | refine balloc0 ?_ | refine balloc ?_ ?_ | (apply btrans0; rotate_left; assumption) | (apply btrans; rotate_left; assumption)) | exact Below.refl _ _ | assumption | (apply btrans0; rotate_left; assumption) | (apply btrans; rotate_left; assumption) | (simp; done) | omega | (simp; omega)))⟩
  go_wp2_with fail
  refine (forward_any b _ m1 x _ (HR.out.below' (hB1)) HF.out).mono ?_
  unfold FwdPost
  rw [HP.out]
  simp only
  rintro e w2 ⟨v2, rfl, hv2, hb2⟩
  have hB2 : Below w.heap.size w w2 := btrans0 (hB1) hb2
  have y2 := hb2.size
  (try simp at y2)
  have zb2 : w.heap.size < w2.heap.size := by omega
  have Ab : w2.heap[w.heap.size]? = some (.cells (bunC b (.slice ua b.blocks.length uc)).toArray 28 (0, 0)) := (hb2.block _ (by first | exact zb1 | (simp; done) | (simp; omega) | omega)).trans (by repeat (first | exact HAb.out | exact heap_new | exact heap_new' (by first | rfl | (simp; done)) | refine (Below.heap_alloc _ _ _ (by first | omega | (simp; done) | (simp; omega))).trans ?_))
  clear cab HAb
  have cab := fun o => cellB Ab o
  have HAb := Lib.hid Ab
  (try simp only [bunC] at cab)
  clear Ab
  obtain ⟨va2, vc2, rfl, _⟩ := id hv2
  have HV2 := Lib.hid hv2
  clear hv2
  clear hb2
  simp only [bunC, zBun, List.length_nil]
  go_wp2_with fail
  refine (forward_any zBun _ n1 y _ (HV2.out.below' (balloc0 (Below.refl _ _))) fits_z).mono ?_
  unfold FwdPost
  rw [HQ.out]
  simp only
  rintro e w3 ⟨v3, rfl, hv3, hb3⟩
  have hB3 : Below w.heap.size w w3 := btrans0 (balloc0 (hB2)) hb3
  have hK2_3 : Below w2.heap.size w2 w3 := btrans0 (balloc0 (Below.refl _ _)) hb3
  have y3 := hb3.size
  (try simp at y3)
  have zb3 : w.heap.size < w3.heap.size := by omega
  have Ab : w3.heap[w.heap.size]? = some (.cells (bunC b (.slice ua b.blocks.length uc)).toArray 28 (0, 0)) := (hb3.block _ (by first | exact zb2 | (simp; done) | (simp; omega) | omega)).trans (by repeat (first | exact HAb.out | exact heap_new | exact heap_new' (by first | rfl | (simp; done)) | refine (Below.heap_alloc _ _ _ (by first | omega | (simp; done) | (simp; omega))).trans ?_))
  clear cab HAb
  have cab := fun o => cellB Ab o
  have HAb := Lib.hid Ab
  (try simp only [bunC] at cab)
  clear Ab
  have zP3 : w2.heap.size < w3.heap.size := by omega
  have AP : w3.heap[w2.heap.size]? = some (.cells #[.int .i64 0, .int .i64 0, .int .i64 0, .int .i64 0, .int .i64 0, .int .i64 0, .int .i64 0, .int .i64 0, .int .i64 0, .int .i64 0, .slice va2 0 vc2, .string (B [])] 28 (0, 0)) := (hb3.block _ (by first | exact zP2 | (simp; done) | (simp; omega) | omega)).trans (by repeat (first | exact HAP.out | exact heap_new | exact heap_new' (by first | rfl | (simp; done)) | refine (Below.heap_alloc _ _ _ (by first | omega | (simp; done) | (simp; omega))).trans ?_))
  have caP := fun o => cellB AP o
  have HAP := Lib.hid AP
  (try simp only [bunC] at caP)
  clear AP
  obtain ⟨va3, vc3, rfl, _⟩ := id hv3
  have HV3 := Lib.hid hv3
  clear hv3
  clear hb3
  go_wp2_with fail
  refine (lsame_any zBun (.slice va2 0 vc2) (.slice none 0 0) _ (HV2.out.below' (balloc0 (hK2_3))) (RBlks.nil _ _)).mono ?_
  rintro e w4 ⟨rfl, hb4⟩
  have hB4 : Below w.heap.size w w4 := btrans0 (balloc0 (hB3)) hb4
  have hK2_4 : Below w2.heap.size w2 w4 := btrans0 (balloc0 (hK2_3)) hb4
  have hK3_4 : Below w3.heap.size w3 w4 := btrans0 (balloc0 (Below.refl _ _)) hb4
  have y4 := hb4.size
  (try simp at y4)
  have zb4 : w.heap.size < w4.heap.size := by omega
  have Ab : w4.heap[w.heap.size]? = some (.cells (bunC b (.slice ua b.blocks.length uc)).toArray 28 (0, 0)) := (hb4.block _ (by first | exact zb3 | (simp; done) | (simp; omega) | omega)).trans (by repeat (first | exact HAb.out | exact heap_new | exact heap_new' (by first | rfl | (simp; done)) | refine (Below.heap_alloc _ _ _ (by first | omega | (simp; done) | (simp; omega))).trans ?_))
  clear cab HAb
  have cab := fun o => cellB Ab o
  have HAb := Lib.hid Ab
  (try simp only [bunC] at cab)
  clear Ab
  have zP4 : w2.heap.size < w4.heap.size := by omega
  have AP : w4.heap[w2.heap.size]? = some (.cells #[.int .i64 0, .int .i64 0, .int .i64 0, .int .i64 0, .int .i64 0, .int .i64 0, .int .i64 0, .int .i64 0, .int .i64 0, .int .i64 0, .slice va2 0 vc2, .string (B [])] 28 (0, 0)) := (hb4.block _ (by first | exact zP3 | (simp; done) | (simp; omega) | omega)).trans (by repeat (first | exact HAP.out | exact heap_new | exact heap_new' (by first | rfl | (simp; done)) | refine (Below.heap_alloc _ _ _ (by first | omega | (simp; done) | (simp; omega))).trans ?_))
  clear caP HAP
  have caP := fun o => cellB AP o
  have HAP := Lib.hid AP
  (try simp only [bunC] at caP)
  clear AP
  have zQ4 : w3.heap.size < w4.heap.size := by omega
  have AQ : w4.heap[w3.heap.size]? = some (.cells (bunC Q (.slice va3 Q.blocks.length vc3)).toArray 28 (0, 0)) := (hb4.block _ (by first | exact zQ3 | (simp; done) | (simp; omega) | omega)).trans (by repeat (first | exact HAQ.out | exact heap_new | exact heap_new' (by first | rfl | (simp; done)) | refine (Below.heap_alloc _ _ _ (by first | omega | (simp; done) | (simp; omega))).trans ?_))
  have caQ := fun o => cellB AQ o
  have HAQ := Lib.hid AQ
  (try simp only [bunC] at caQ)
  clear AQ
  clear hb4
  go_wp2_with fail
  refine (awake_any _).mono ?_
  rintro e w99 ⟨rfl, hb99⟩
  go_wp2
  go_ret
  exact ⟨rfl, (by repeat' (first | with_reducible (first | refine bset ?_ ?_ | exact Below.refl _ _ | assumption | refine bdrewN ?_ _ | refine bdrew ?_ | refine balloc0 ?_ | refine balloc ?_ ?_ | (apply btrans0; rotate_left; assumption) | (apply btrans; rotate_left; assumption)) | exact Below.refl _ _ | assumption | (apply btrans0; rotate_left; assumption) | (apply btrans; rotate_left; assumption) | (simp; done) | omega | (simp; omega)))⟩
set_option maxRecDepth 100000 in
set_option maxHeartbeats 16000000 in
theorem walkR (b : Bun) (u : Value) (m n x y : Int) (w : World) (wm : 0 ≤ m ∧ m ≤ 255) (wn : 0 ≤ n ∧ n ≤ 255) (wx : 0 ≤ x ∧ x ≤ 65535) (wy : 0 ≤ y ∧ y ≤ 65535) (hr : RBlks w w.heap.size u b.blocks) (hf : Fits b) (m1 n1 : Int) (hm1 : m.tmod 16 = m1) (m1a : 0 ≤ m1) (m1b : m1 < 16) (hn1 : n.tmod 16 = n1) (n1a : 0 ≤ n1) (n1b : n1 < 16) (hP : fwdS b m1 x = (b, 0)) (hr3 : rest3 b.blocks = b.blocks) :
    Calls Try.prog 7 #[.agg (bunC b u).toArray, .int .u8 m, .int .u8 n, .int .u16 x, .int .u16 y] w (Says w) := by
  obtain ⟨wm1, wm2⟩ := wm
  obtain ⟨wn1, wn2⟩ := wn
  obtain ⟨wx1, wx2⟩ := wx
  obtain ⟨wy1, wy2⟩ := wy
  obtain ⟨⟨Q, QE⟩, hQ⟩ : ∃ q, fwdS b n1 y = q := ⟨_, rfl⟩
  obtain ⟨⟨a1, ga⟩, hag⟩ : ∃ q, ageS b = q := ⟨_, rfl⟩
  obtain ⟨⟨lim, cnt, gh⟩, hho⟩ : ∃ q, hopS b = q := ⟨_, rfl⟩
  have HP := Lib.hid hP
  have HQ := Lib.hid hQ
  have HAG := Lib.hid hag
  have HHO := Lib.hid hho
  have HCB := Lib.hid (fwd_chk hP)
  have fp := fits_fwd hP hf
  have FP := Lib.hid fp
  have HQA : Hid (QE = 0 → ageS Q = if ga = 0 then (a1 + x + y, 0) else (a1, ga)) := Lib.hid (fun z => by
    subst z
    have e := fwd_age hP hag
    by_cases z : ga = 0
    · rw [if_pos z] at e ⊢
      have := fwd_age hQ e
      rwa [if_pos rfl] at this
    · rw [if_neg z] at e ⊢
      have := fwd_age hQ e
      rwa [if_neg z] at this)
  have HQH : Hid (QE = 0 → hopS Q = if gh = 0 then (lim, cnt + 2, 0) else (lim, cnt, gh)) := Lib.hid (fun z => by
    subst z
    have e := fwd_hop hP hho
    by_cases z : gh = 0
    · rw [if_pos z] at e ⊢
      have := fwd_hop hQ e
      rw [if_pos rfl] at this
      rw [this, show cnt + 1 + 1 = cnt + 2 by omega]
    · rw [if_neg z] at e ⊢
      have := fwd_hop hQ e
      rwa [if_neg z] at this)
  have FQ := Lib.hid (fits_fwd hQ fp)
  have HA0 : Hid (ga = 0 → 0 ≤ a1 ∧ a1 ≤ 1099511627776) := Lib.hid (fun z => by subst z; exact age_facts hag)
  have HH0 : Hid (gh = 0 → 0 ≤ cnt ∧ cnt ≤ 255) := Lib.hid (fun z => by subst z; have := hop_facts hho; omega)
  have HBB : Hid (({ b with blocks := rest3 b.blocks } : Bun) = b) := Lib.hid (by rw [hr3])
  have HLN := Lib.hid (blk_len (fwd_chk hP))
  clear hP hQ hag hho fp hr3
  obtain ⟨ua, uc, rfl, _⟩ := id hr
  have HR := Lib.hid hr
  have HF := Lib.hid hf
  clear hr hf
  go_enter Try.func7, Try.ntmps7
  simp only [bunC]
  go_wp2_with fail
  refine (bgreat_any b _ _ (HR.out.below' (balloc0 (Below.refl _ _))) HF.out).mono ?_
  rintro e w1 ⟨g, rfl, hb1⟩
  have hB1 : Below w.heap.size w w1 := btrans0 (balloc0 (Below.refl _ _)) hb1
  have y1 := hb1.size
  (try simp at y1)
  have zb1 : w.heap.size < w1.heap.size := by omega
  have Ab : w1.heap[w.heap.size]? = some (.cells (bunC b (.slice ua b.blocks.length uc)).toArray 28 (0, 0)) := (hb1.block _ (by first | exact zb0 | (simp; done) | (simp; omega) | omega)).trans (by repeat (first | exact HAb.out | exact heap_new | exact heap_new' (by first | rfl | (simp; done)) | refine (Below.heap_alloc _ _ _ (by first | omega | (simp; done) | (simp; omega))).trans ?_))
  have cab := fun o => cellB Ab o
  have HAb := Lib.hid Ab
  (try simp only [bunC] at cab)
  clear Ab
  clear hb1
  cases g
  case true =>
    go_wp2_with fail
    refine (awake_any _).mono ?_
    rintro e w99 ⟨rfl, hb99⟩
    go_wp2
    go_ret
    exact ⟨rfl, (by repeat' (first | with_reducible (first | refine bset ?_ ?_ | exact Below.refl _ _ | assumption | refine bdrewN ?_ _ | refine bdrew ?_ | refine balloc0 ?_ | refine balloc ?_ ?_ | (apply btrans0; rotate_left; assumption) | (apply btrans; rotate_left; assumption)) | exact Below.refl _ _ | assumption | (apply btrans0; rotate_left; assumption) | (apply btrans; rotate_left; assumption) | (simp; done) | omega | (simp; omega)))⟩
  go_wp2_with fail
  refine (forward_any b _ m1 x _ (HR.out.below' (hB1)) HF.out).mono ?_
  unfold FwdPost
  rw [HP.out]
  simp only
  rintro e w2 ⟨v2, rfl, hv2, hb2⟩
  have hB2 : Below w.heap.size w w2 := btrans0 (hB1) hb2
  have y2 := hb2.size
  (try simp at y2)
  have zb2 : w.heap.size < w2.heap.size := by omega
  have Ab : w2.heap[w.heap.size]? = some (.cells (bunC b (.slice ua b.blocks.length uc)).toArray 28 (0, 0)) := (hb2.block _ (by first | exact zb1 | (simp; done) | (simp; omega) | omega)).trans (by repeat (first | exact HAb.out | exact heap_new | exact heap_new' (by first | rfl | (simp; done)) | refine (Below.heap_alloc _ _ _ (by first | omega | (simp; done) | (simp; omega))).trans ?_))
  clear cab HAb
  have cab := fun o => cellB Ab o
  have HAb := Lib.hid Ab
  (try simp only [bunC] at cab)
  clear Ab
  obtain ⟨va2, vc2, rfl, _⟩ := id hv2
  have HV2 := Lib.hid hv2
  clear hv2
  clear hb2
  go_wp2_with fail
  refine (forward_any b _ n1 y _ (HV2.out.below' (balloc0 (Below.refl _ _))) FP.out).mono ?_
  unfold FwdPost
  rw [HQ.out]
  simp only
  rintro e w3 ⟨v3, rfl, hv3, hb3⟩
  have hB3 : Below w.heap.size w w3 := btrans0 (balloc0 (hB2)) hb3
  have hK2_3 : Below w2.heap.size w2 w3 := btrans0 (balloc0 (Below.refl _ _)) hb3
  have y3 := hb3.size
  (try simp at y3)
  have zb3 : w.heap.size < w3.heap.size := by omega
  have Ab : w3.heap[w.heap.size]? = some (.cells (bunC b (.slice ua b.blocks.length uc)).toArray 28 (0, 0)) := (hb3.block _ (by first | exact zb2 | (simp; done) | (simp; omega) | omega)).trans (by repeat (first | exact HAb.out | exact heap_new | exact heap_new' (by first | rfl | (simp; done)) | refine (Below.heap_alloc _ _ _ (by first | omega | (simp; done) | (simp; omega))).trans ?_))
  clear cab HAb
  have cab := fun o => cellB Ab o
  have HAb := Lib.hid Ab
  (try simp only [bunC] at cab)
  clear Ab
  have zP3 : w2.heap.size < w3.heap.size := by omega
  have AP : w3.heap[w2.heap.size]? = some (.cells (bunC b (.slice va2 b.blocks.length vc2)).toArray 28 (0, 0)) := (hb3.block _ (by first | exact zP2 | (simp; done) | (simp; omega) | omega)).trans (by repeat (first | exact HAP.out | exact heap_new | exact heap_new' (by first | rfl | (simp; done)) | refine (Below.heap_alloc _ _ _ (by first | omega | (simp; done) | (simp; omega))).trans ?_))
  have caP := fun o => cellB AP o
  have HAP := Lib.hid AP
  (try simp only [bunC] at caP)
  clear AP
  obtain ⟨va3, vc3, rfl, _⟩ := id hv3
  have HV3 := Lib.hid hv3
  clear hv3
  clear hb3
  go_wp2
  have AQ : (w3.alloc (.cells (bunC Q (.slice va3 Q.blocks.length vc3)).toArray 28)).heap[w3.heap.size]? = some (.cells (bunC Q (.slice va3 Q.blocks.length vc3)).toArray 28 (0, 0)) := heap_new
  have AP : (w3.alloc (.cells (bunC Q (.slice va3 Q.blocks.length vc3)).toArray 28)).heap[w2.heap.size]? = _ := (Below.heap_alloc _ _ _ zP3).trans HAP.out
  have AB : (w3.alloc (.cells (bunC Q (.slice va3 Q.blocks.length vc3)).toArray 28)).heap[w.heap.size]? = _ := (Below.heap_alloc _ _ _ zb3).trans HAb.out
  have B9 : Below w.heap.size w (w3.alloc (.cells (bunC Q (.slice va3 Q.blocks.length vc3)).toArray 28)) := balloc0 hB3
  have R2 := HV2.out.below' (balloc0 (o := .cells (bunC Q (.slice va3 Q.blocks.length vc3)).toArray 28) hK2_3)
  have R3 := HV3.out.below' (balloc0 (o := .cells (bunC Q (.slice va3 Q.blocks.length vc3)).toArray 28) (Below.refl _ _))
  have z9 : w3.heap.size < (w3.alloc (.cells (bunC Q (.slice va3 Q.blocks.length vc3)).toArray 28)).heap.size := by simp
  simp only [bunC] at AQ AP AB B9 R2 R3 z9
  generalize w3.alloc (.cells _ _) = W9 at *
  have zb9 : w.heap.size < W9.heap.size := by omega
  have zP9 : w2.heap.size < W9.heap.size := by omega
  have HR9 := Lib.hid (HR.out.below' B9)
  have HX9 := Lib.hid R2
  have HQ9 := Lib.hid R3
  have cb := fun o => cellB AB o
  have cp := fun o => cellB AP o
  have HAB := Lib.hid AB
  have HAP9 := Lib.hid AP
  have HAQ9 := Lib.hid AQ
  clear AB AP AQ R2 R3 cab caP
  refine wp_region_plan (fun V => Below (W9).heap.size (W9) V) [1, 2, 1, 2, 0, 1, 1, 3, 0, 0] [0, 2, 1, 3, 4, 5, 6, 7, 8, 9] (by kernel_rfl) (by kernel_rfl) ?_ ?_
  case refine_1 => exact (by repeat' (first | with_reducible (first | refine bset ?_ ?_ | exact Below.refl _ _ | assumption | refine bdrewN ?_ _ | refine bdrew ?_ | refine balloc0 ?_ | refine balloc ?_ ?_ | (apply btrans0; rotate_left; assumption) | (apply btrans; rotate_left; assumption)) | exact Below.refl _ _ | assumption | (apply btrans0; rotate_left; assumption) | (apply btrans; rotate_left; assumption) | (simp; done) | omega | (simp; omega)))
  (iterate 2 (first | (refine plan_held rfl (by decide) (by rfl) (fun w1 hS => by (try (obtain ⟨_, _⟩ := bcell (hS rfl))); go_simp; rfl) ?_; simp only [Act.put, List.setIfInBounds_toArray, List.set_cons_zero, List.set_cons_succ]) | (refine plan_skip rfl (by decide) (by rfl) ?_; simp only [Act.put, List.setIfInBounds_toArray, List.set_cons_zero, List.set_cons_succ])))
  (refine plan_keep rfl rfl (by rfl) (fun K hK => ?_); go_simp)
  refine (lawRest_any b _ _ (HR9.out.below' (by repeat' (first | with_reducible (first | refine bset ?_ ?_ | exact Below.refl _ _ | assumption | refine bdrewN ?_ _ | refine bdrew ?_ | refine balloc0 ?_ | refine balloc ?_ ?_ | (apply btrans0; rotate_left; assumption) | (apply btrans; rotate_left; assumption)) | exact Below.refl _ _ | assumption | (apply btrans0; rotate_left; assumption) | (apply btrans; rotate_left; assumption) | (simp; done) | omega | (simp; omega)))) HLN.out).mono ?_
  unfold RestPost
  rw [HBB.out]
  rintro e wc57 ⟨ux, rfl, hrx, hbc57⟩
  have HRX := Lib.hid hrx
  clear hrx
  (refine hK _ _ (by exact (by repeat' (first | with_reducible (first | refine bset ?_ ?_ | exact Below.refl _ _ | assumption | refine bdrewN ?_ _ | refine bdrew ?_ | refine balloc0 ?_ | refine balloc ?_ ?_ | (apply btrans0; rotate_left; assumption) | (apply btrans; rotate_left; assumption)) | exact Below.refl _ _ | assumption | (apply btrans0; rotate_left; assumption) | (apply btrans; rotate_left; assumption) | (simp; done) | omega | (simp; omega)))) ?_; clear hK K; (try simp only [Act.put, List.setIfInBounds_toArray, List.set_cons_zero, List.set_cons_succ]))
  (refine plan_keep rfl rfl (by rfl) (fun K hK => ?_); go_simp)
  refine (lsame_any b _ _ _ (HRX.out.below' (by repeat' (first | with_reducible (first | refine bset ?_ ?_ | exact Below.refl _ _ | assumption | refine bdrewN ?_ _ | refine bdrew ?_ | refine balloc0 ?_ | refine balloc ?_ ?_ | (apply btrans0; rotate_left; assumption) | (apply btrans; rotate_left; assumption)) | exact Below.refl _ _ | assumption | (apply btrans0; rotate_left; assumption) | (apply btrans; rotate_left; assumption) | (simp; done) | omega | (simp; omega)))) (HR9.out.below' (by repeat' (first | with_reducible (first | refine bset ?_ ?_ | exact Below.refl _ _ | assumption | refine bdrewN ?_ _ | refine bdrew ?_ | refine balloc0 ?_ | refine balloc ?_ ?_ | (apply btrans0; rotate_left; assumption) | (apply btrans; rotate_left; assumption)) | exact Below.refl _ _ | assumption | (apply btrans0; rotate_left; assumption) | (apply btrans; rotate_left; assumption) | (simp; done) | omega | (simp; omega))))).mono ?_
  rintro e wc59 ⟨rfl, hbc59⟩
  (refine hK _ _ (by exact (by repeat' (first | with_reducible (first | refine bset ?_ ?_ | exact Below.refl _ _ | assumption | refine bdrewN ?_ _ | refine bdrew ?_ | refine balloc0 ?_ | refine balloc ?_ ?_ | (apply btrans0; rotate_left; assumption) | (apply btrans; rotate_left; assumption)) | exact Below.refl _ _ | assumption | (apply btrans0; rotate_left; assumption) | (apply btrans; rotate_left; assumption) | (simp; done) | omega | (simp; omega)))) ?_; clear hK K; (try simp only [Act.put, List.setIfInBounds_toArray, List.set_cons_zero, List.set_cons_succ]))
  (iterate 3 (first | (refine plan_held rfl (by decide) (by rfl) (fun w1 hS => by (try (obtain ⟨_, _⟩ := bcell (hS rfl))); go_simp; rfl) ?_; simp only [Act.put, List.setIfInBounds_toArray, List.set_cons_zero, List.set_cons_succ]) | (refine plan_skip rfl (by decide) (by rfl) ?_; simp only [Act.put, List.setIfInBounds_toArray, List.set_cons_zero, List.set_cons_succ])))
  (refine plan_late rfl rfl (by rfl) (fun K hK => ?_); go_simp)
  refine (lsame_any b _ _ _ (HX9.out.below' (by repeat' (first | with_reducible (first | refine bset ?_ ?_ | exact Below.refl _ _ | assumption | refine bdrewN ?_ _ | refine bdrew ?_ | refine balloc0 ?_ | refine balloc ?_ ?_ | (apply btrans0; rotate_left; assumption) | (apply btrans; rotate_left; assumption)) | exact Below.refl _ _ | assumption | (apply btrans0; rotate_left; assumption) | (apply btrans; rotate_left; assumption) | (simp; done) | omega | (simp; omega)))) (HR9.out.below' (by repeat' (first | with_reducible (first | refine bset ?_ ?_ | exact Below.refl _ _ | assumption | refine bdrewN ?_ _ | refine bdrew ?_ | refine balloc0 ?_ | refine balloc ?_ ?_ | (apply btrans0; rotate_left; assumption) | (apply btrans; rotate_left; assumption)) | exact Below.refl _ _ | assumption | (apply btrans0; rotate_left; assumption) | (apply btrans; rotate_left; assumption) | (simp; done) | omega | (simp; omega))))).mono ?_
  rintro e wc63 ⟨rfl, hbc63⟩
  (refine hK _ _ ?_; clear hK K; (try simp only [Act.put, List.setIfInBounds_toArray, List.set_cons_zero, List.set_cons_succ]))
  (iterate 2 (first | (refine plan_held rfl (by decide) (by rfl) (fun w1 hS => by (try (obtain ⟨_, _⟩ := bcell (hS rfl))); go_simp; rfl) ?_; simp only [Act.put, List.setIfInBounds_toArray, List.set_cons_zero, List.set_cons_succ]) | (refine plan_skip rfl (by decide) (by rfl) ?_; simp only [Act.put, List.setIfInBounds_toArray, List.set_cons_zero, List.set_cons_succ])))
  refine plan_done ?_
  have hK9 : Below W9.heap.size W9 wc63 := by clear B9 hB1 hB2 hB3; exact (by repeat' (first | with_reducible (first | refine bset ?_ ?_ | exact Below.refl _ _ | assumption | refine bdrewN ?_ _ | refine bdrew ?_ | refine balloc0 ?_ | refine balloc ?_ ?_ | (apply btrans0; rotate_left; assumption) | (apply btrans; rotate_left; assumption)) | exact Below.refl _ _ | assumption | (apply btrans0; rotate_left; assumption) | (apply btrans; rotate_left; assumption) | (simp; done) | omega | (simp; omega)))
  have hB4 : Below w.heap.size w wc63 := btrans0 B9 hK9
  have y4 := hK9.size
  have AB := (hK9.block _ zb9).trans HAB.out
  have AQ := (hK9.block _ z9).trans HAQ9.out
  have HAb4 := Lib.hid AB
  have HAQ4 := Lib.hid AQ
  have cb4 := fun o => cellB AB o
  (try simp only [bunC] at cb4)
  clear AB AQ cb cp
  go_wp2_with fail
  refine (age_any b _ _ (HR9.out.below' hK9) HF.out).mono ?_
  rw [HAG.out]
  simp only
  rintro e w5 ⟨rfl, hb5⟩
  have hB5 : Below w.heap.size w w5 := btrans0 hB4 hb5
  have hK5 : Below W9.heap.size W9 w5 := btrans0 hK9 hb5
  have y5 := hb5.size
  have AB := (hb5.block _ (by omega)).trans HAb4.out
  have cb5 := fun o => cellB AB o
  (try simp only [bunC] at cb5)
  have HAb5 := Lib.hid AB
  have HAQ5 := Lib.hid ((hb5.block _ (by omega)).trans HAQ4.out)
  clear AB cb4 hb5
  go_wp2_with fail
  refine (hops_any b _ _ (HR9.out.below' hK5) HF.out).mono ?_
  rw [HHO.out]
  simp only
  rintro e w6 ⟨rfl, hb6⟩
  have hB6 : Below w.heap.size w w6 := btrans0 hB5 hb6
  have hK6 : Below W9.heap.size W9 w6 := btrans0 hK5 hb6
  have y6 := hb6.size
  have AQ := (hb6.block _ (by omega)).trans HAQ5.out
  have cq6 := fun o => cellB AQ o
  (try simp only [bunC] at cq6)
  have HAQ6 := Lib.hid AQ
  clear AQ cb5 hb6
  by_cases q : QE = 0
  case neg =>
    have q2 : (QE != 0) = true := by rw [bne_iff_ne]; exact q
    go_wp2_with fail
    refine (awake_any _).mono ?_
    rintro e w99 ⟨rfl, hb99⟩
    go_wp2
    go_ret
    exact ⟨rfl, (by repeat' (first | with_reducible (first | refine bset ?_ ?_ | exact Below.refl _ _ | assumption | refine bdrewN ?_ _ | refine bdrew ?_ | refine balloc0 ?_ | refine balloc ?_ ?_ | (apply btrans0; rotate_left; assumption) | (apply btrans; rotate_left; assumption)) | exact Below.refl _ _ | assumption | (apply btrans0; rotate_left; assumption) | (apply btrans; rotate_left; assumption) | (simp; done) | omega | (simp; omega)))⟩
  subst q
  have hqa := HQA.out rfl
  have hqh := HQH.out rfl
  by_cases z1 : ga = 0
  case pos =>
    subst z1
    rw [if_pos rfl] at hqa
    by_cases z2 : gh = 0
    case pos =>
      subst z2
      rw [if_pos rfl] at hqh
      have HQA2 := Lib.hid hqa
      obtain ⟨p1, p2⟩ := HA0.out rfl
      have hw1 : IntKind.i64.wrap (a1 + x) = a1 + x := by rw [IntKind.wrap_i64]; omega
      have hw2 : IntKind.i64.wrap (a1 + x + y) = a1 + x + y := by rw [IntKind.wrap_i64]; omega
      have HQH2 := Lib.hid hqh
      obtain ⟨o1, o2⟩ := HH0.out rfl
      have hw3 : IntKind.i64.wrap (cnt + 2) = cnt + 2 := by rw [IntKind.wrap_i64]; omega
      clear hqa hqh
      go_wp2_with fail
      refine (age_any Q _ _ (HQ9.out.below' hK6) FQ.out).mono ?_
      rw [HQA2.out]
      simp only
      rintro e w7 ⟨rfl, hb7⟩
      have hB7 : Below w.heap.size w w7 := btrans0 hB6 hb7
      have hK7 : Below W9.heap.size W9 w7 := btrans0 hK6 hb7
      have y7 := hb7.size
      have AQ := (hb7.block _ (by omega)).trans HAQ6.out
      have cq7 := fun o => cellB AQ o
      (try simp only [bunC] at cq7)
      clear AQ cq6 hb7
      go_wp2_with fail
      refine (hops_any Q _ _ (HQ9.out.below' hK7) FQ.out).mono ?_
      rw [HQH2.out]
      simp only
      rintro e w8 ⟨rfl, hb8⟩
      have hB8 : Below w.heap.size w w8 := btrans0 hB7 hb8
      clear hb8
      go_wp2_with fail
      refine (awake_any _).mono ?_
      rintro e w99 ⟨rfl, hb99⟩
      go_wp2
      go_ret
      exact ⟨rfl, (by repeat' (first | with_reducible (first | refine bset ?_ ?_ | exact Below.refl _ _ | assumption | refine bdrewN ?_ _ | refine bdrew ?_ | refine balloc0 ?_ | refine balloc ?_ ?_ | (apply btrans0; rotate_left; assumption) | (apply btrans; rotate_left; assumption)) | exact Below.refl _ _ | assumption | (apply btrans0; rotate_left; assumption) | (apply btrans; rotate_left; assumption) | (simp; done) | omega | (simp; omega)))⟩
    rw [if_neg z2] at hqh
    have HQA2 := Lib.hid hqa
    obtain ⟨p1, p2⟩ := HA0.out rfl
    have hw1 : IntKind.i64.wrap (a1 + x) = a1 + x := by rw [IntKind.wrap_i64]; omega
    have hw2 : IntKind.i64.wrap (a1 + x + y) = a1 + x + y := by rw [IntKind.wrap_i64]; omega
    have HQH2 := Lib.hid hqh
    have g2 : (gh != 0) = true := by rw [bne_iff_ne]; exact z2
    clear hqa hqh z2
    go_wp2_with fail
    refine (age_any Q _ _ (HQ9.out.below' hK6) FQ.out).mono ?_
    rw [HQA2.out]
    simp only
    rintro e w7 ⟨rfl, hb7⟩
    have hB7 : Below w.heap.size w w7 := btrans0 hB6 hb7
    have hK7 : Below W9.heap.size W9 w7 := btrans0 hK6 hb7
    have y7 := hb7.size
    have AQ := (hb7.block _ (by omega)).trans HAQ6.out
    have cq7 := fun o => cellB AQ o
    (try simp only [bunC] at cq7)
    clear AQ cq6 hb7
    go_wp2_with fail
    refine (hops_any Q _ _ (HQ9.out.below' hK7) FQ.out).mono ?_
    rw [HQH2.out]
    simp only
    rintro e w8 ⟨rfl, hb8⟩
    have hB8 : Below w.heap.size w w8 := btrans0 hB7 hb8
    clear hb8
    go_wp2_with fail
    refine (awake_any _).mono ?_
    rintro e w99 ⟨rfl, hb99⟩
    go_wp2
    go_ret
    exact ⟨rfl, (by repeat' (first | with_reducible (first | refine bset ?_ ?_ | exact Below.refl _ _ | assumption | refine bdrewN ?_ _ | refine bdrew ?_ | refine balloc0 ?_ | refine balloc ?_ ?_ | (apply btrans0; rotate_left; assumption) | (apply btrans; rotate_left; assumption)) | exact Below.refl _ _ | assumption | (apply btrans0; rotate_left; assumption) | (apply btrans; rotate_left; assumption) | (simp; done) | omega | (simp; omega)))⟩
  rw [if_neg z1] at hqa
  by_cases z2 : gh = 0
  case pos =>
    subst z2
    rw [if_pos rfl] at hqh
    have HQA2 := Lib.hid hqa
    have g1 : (ga != 0) = true := by rw [bne_iff_ne]; exact z1
    have HQH2 := Lib.hid hqh
    obtain ⟨o1, o2⟩ := HH0.out rfl
    have hw3 : IntKind.i64.wrap (cnt + 2) = cnt + 2 := by rw [IntKind.wrap_i64]; omega
    clear hqa hqh z1
    go_wp2_with fail
    refine (age_any Q _ _ (HQ9.out.below' hK6) FQ.out).mono ?_
    rw [HQA2.out]
    simp only
    rintro e w7 ⟨rfl, hb7⟩
    have hB7 : Below w.heap.size w w7 := btrans0 hB6 hb7
    have hK7 : Below W9.heap.size W9 w7 := btrans0 hK6 hb7
    have y7 := hb7.size
    have AQ := (hb7.block _ (by omega)).trans HAQ6.out
    have cq7 := fun o => cellB AQ o
    (try simp only [bunC] at cq7)
    clear AQ cq6 hb7
    go_wp2_with fail
    refine (hops_any Q _ _ (HQ9.out.below' hK7) FQ.out).mono ?_
    rw [HQH2.out]
    simp only
    rintro e w8 ⟨rfl, hb8⟩
    have hB8 : Below w.heap.size w w8 := btrans0 hB7 hb8
    clear hb8
    go_wp2_with fail
    refine (awake_any _).mono ?_
    rintro e w99 ⟨rfl, hb99⟩
    go_wp2
    go_ret
    exact ⟨rfl, (by repeat' (first | with_reducible (first | refine bset ?_ ?_ | exact Below.refl _ _ | assumption | refine bdrewN ?_ _ | refine bdrew ?_ | refine balloc0 ?_ | refine balloc ?_ ?_ | (apply btrans0; rotate_left; assumption) | (apply btrans; rotate_left; assumption)) | exact Below.refl _ _ | assumption | (apply btrans0; rotate_left; assumption) | (apply btrans; rotate_left; assumption) | (simp; done) | omega | (simp; omega)))⟩
  rw [if_neg z2] at hqh
  have HQA2 := Lib.hid hqa
  have g1 : (ga != 0) = true := by rw [bne_iff_ne]; exact z1
  have HQH2 := Lib.hid hqh
  have g2 : (gh != 0) = true := by rw [bne_iff_ne]; exact z2
  clear hqa hqh z1 z2
  go_wp2_with fail
  refine (age_any Q _ _ (HQ9.out.below' hK6) FQ.out).mono ?_
  rw [HQA2.out]
  simp only
  rintro e w7 ⟨rfl, hb7⟩
  have hB7 : Below w.heap.size w w7 := btrans0 hB6 hb7
  have hK7 : Below W9.heap.size W9 w7 := btrans0 hK6 hb7
  have y7 := hb7.size
  have AQ := (hb7.block _ (by omega)).trans HAQ6.out
  have cq7 := fun o => cellB AQ o
  (try simp only [bunC] at cq7)
  clear AQ cq6 hb7
  go_wp2_with fail
  refine (hops_any Q _ _ (HQ9.out.below' hK7) FQ.out).mono ?_
  rw [HQH2.out]
  simp only
  rintro e w8 ⟨rfl, hb8⟩
  have hB8 : Below w.heap.size w w8 := btrans0 hB7 hb8
  clear hb8
  go_wp2_with fail
  refine (awake_any _).mono ?_
  rintro e w99 ⟨rfl, hb99⟩
  go_wp2
  go_ret
  exact ⟨rfl, (by repeat' (first | with_reducible (first | refine bset ?_ ?_ | exact Below.refl _ _ | assumption | refine bdrewN ?_ _ | refine bdrew ?_ | refine balloc0 ?_ | refine balloc ?_ ?_ | (apply btrans0; rotate_left; assumption) | (apply btrans; rotate_left; assumption)) | exact Below.refl _ _ | assumption | (apply btrans0; rotate_left; assumption) | (apply btrans; rotate_left; assumption) | (simp; done) | omega | (simp; omega)))⟩
set_option maxRecDepth 100000 in
set_option maxHeartbeats 16000000 in
theorem walkN (b : Bun) (u : Value) (m n x y : Int) (w : World) (wm : 0 ≤ m ∧ m ≤ 255) (wn : 0 ≤ n ∧ n ≤ 255) (wx : 0 ≤ x ∧ x ≤ 65535) (wy : 0 ≤ y ∧ y ≤ 65535) (hr : RBlks w w.heap.size u b.blocks) (hf : Fits b) (m1 n1 : Int) (hm1 : m.tmod 16 = m1) (m1a : 0 ≤ m1) (m1b : m1 < 16) (hn1 : n.tmod 16 = n1) (n1a : 0 ≤ n1) (n1b : n1 < 16) (P : Bun) (hP : fwdS b m1 x = (P, 0)) (hr3 : rest3 b.blocks ≠ b.blocks) :
    Calls Try.prog 7 #[.agg (bunC b u).toArray, .int .u8 m, .int .u8 n, .int .u16 x, .int .u16 y] w (Says w) := by
  obtain ⟨wm1, wm2⟩ := wm
  obtain ⟨wn1, wn2⟩ := wn
  obtain ⟨wx1, wx2⟩ := wx
  obtain ⟨wy1, wy2⟩ := wy
  obtain ⟨⟨Q, QE⟩, hQ⟩ : ∃ q, fwdS P n1 y = q := ⟨_, rfl⟩
  obtain ⟨⟨a1, ga⟩, hag⟩ : ∃ q, ageS b = q := ⟨_, rfl⟩
  obtain ⟨⟨lim, cnt, gh⟩, hho⟩ : ∃ q, hopS b = q := ⟨_, rfl⟩
  have HP := Lib.hid hP
  have HQ := Lib.hid hQ
  have HAG := Lib.hid hag
  have HHO := Lib.hid hho
  have HCB := Lib.hid (fwd_chk hP)
  have fp := fits_fwd hP hf
  have FP := Lib.hid fp
  have HQA : Hid (QE = 0 → ageS Q = if ga = 0 then (a1 + x + y, 0) else (a1, ga)) := Lib.hid (fun z => by
    subst z
    have e := fwd_age hP hag
    by_cases z : ga = 0
    · rw [if_pos z] at e ⊢
      have := fwd_age hQ e
      rwa [if_pos rfl] at this
    · rw [if_neg z] at e ⊢
      have := fwd_age hQ e
      rwa [if_neg z] at this)
  have HQH : Hid (QE = 0 → hopS Q = if gh = 0 then (lim, cnt + 2, 0) else (lim, cnt, gh)) := Lib.hid (fun z => by
    subst z
    have e := fwd_hop hP hho
    by_cases z : gh = 0
    · rw [if_pos z] at e ⊢
      have := fwd_hop hQ e
      rw [if_pos rfl] at this
      rw [this, show cnt + 1 + 1 = cnt + 2 by omega]
    · rw [if_neg z] at e ⊢
      have := fwd_hop hQ e
      rwa [if_neg z] at this)
  have FQ := Lib.hid (fits_fwd hQ fp)
  have HA0 : Hid (ga = 0 → 0 ≤ a1 ∧ a1 ≤ 1099511627776) := Lib.hid (fun z => by subst z; exact age_facts hag)
  have HH0 : Hid (gh = 0 → 0 ≤ cnt ∧ cnt ≤ 255) := Lib.hid (fun z => by subst z; have := hop_facts hho; omega)
  have HNE := Lib.hid (rest3_len hr3)
  have HLN := Lib.hid (blk_len (fwd_chk hP))
  clear hP hQ hag hho fp hr3
  obtain ⟨ua, uc, rfl, _⟩ := id hr
  have HR := Lib.hid hr
  have HF := Lib.hid hf
  clear hr hf
  go_enter Try.func7, Try.ntmps7
  simp only [bunC]
  go_wp2_with fail
  refine (bgreat_any b _ _ (HR.out.below' (balloc0 (Below.refl _ _))) HF.out).mono ?_
  rintro e w1 ⟨g, rfl, hb1⟩
  have hB1 : Below w.heap.size w w1 := btrans0 (balloc0 (Below.refl _ _)) hb1
  have y1 := hb1.size
  (try simp at y1)
  have zb1 : w.heap.size < w1.heap.size := by omega
  have Ab : w1.heap[w.heap.size]? = some (.cells (bunC b (.slice ua b.blocks.length uc)).toArray 28 (0, 0)) := (hb1.block _ (by first | exact zb0 | (simp; done) | (simp; omega) | omega)).trans (by repeat (first | exact HAb.out | exact heap_new | exact heap_new' (by first | rfl | (simp; done)) | refine (Below.heap_alloc _ _ _ (by first | omega | (simp; done) | (simp; omega))).trans ?_))
  have cab := fun o => cellB Ab o
  have HAb := Lib.hid Ab
  (try simp only [bunC] at cab)
  clear Ab
  clear hb1
  cases g
  case true =>
    go_wp2_with fail
    refine (awake_any _).mono ?_
    rintro e w99 ⟨rfl, hb99⟩
    go_wp2
    go_ret
    exact ⟨rfl, (by repeat' (first | with_reducible (first | refine bset ?_ ?_ | exact Below.refl _ _ | assumption | refine bdrewN ?_ _ | refine bdrew ?_ | refine balloc0 ?_ | refine balloc ?_ ?_ | (apply btrans0; rotate_left; assumption) | (apply btrans; rotate_left; assumption)) | exact Below.refl _ _ | assumption | (apply btrans0; rotate_left; assumption) | (apply btrans; rotate_left; assumption) | (simp; done) | omega | (simp; omega)))⟩
  go_wp2_with fail
  refine (forward_any b _ m1 x _ (HR.out.below' (hB1)) HF.out).mono ?_
  unfold FwdPost
  rw [HP.out]
  simp only
  rintro e w2 ⟨v2, rfl, hv2, hb2⟩
  have hB2 : Below w.heap.size w w2 := btrans0 (hB1) hb2
  have y2 := hb2.size
  (try simp at y2)
  have zb2 : w.heap.size < w2.heap.size := by omega
  have Ab : w2.heap[w.heap.size]? = some (.cells (bunC b (.slice ua b.blocks.length uc)).toArray 28 (0, 0)) := (hb2.block _ (by first | exact zb1 | (simp; done) | (simp; omega) | omega)).trans (by repeat (first | exact HAb.out | exact heap_new | exact heap_new' (by first | rfl | (simp; done)) | refine (Below.heap_alloc _ _ _ (by first | omega | (simp; done) | (simp; omega))).trans ?_))
  clear cab HAb
  have cab := fun o => cellB Ab o
  have HAb := Lib.hid Ab
  (try simp only [bunC] at cab)
  clear Ab
  obtain ⟨va2, vc2, rfl, _⟩ := id hv2
  have HV2 := Lib.hid hv2
  clear hv2
  clear hb2
  go_wp2_with fail
  refine (forward_any P _ n1 y _ (HV2.out.below' (balloc0 (Below.refl _ _))) FP.out).mono ?_
  unfold FwdPost
  rw [HQ.out]
  simp only
  rintro e w3 ⟨v3, rfl, hv3, hb3⟩
  have hB3 : Below w.heap.size w w3 := btrans0 (balloc0 (hB2)) hb3
  have hK2_3 : Below w2.heap.size w2 w3 := btrans0 (balloc0 (Below.refl _ _)) hb3
  have y3 := hb3.size
  (try simp at y3)
  have zb3 : w.heap.size < w3.heap.size := by omega
  have Ab : w3.heap[w.heap.size]? = some (.cells (bunC b (.slice ua b.blocks.length uc)).toArray 28 (0, 0)) := (hb3.block _ (by first | exact zb2 | (simp; done) | (simp; omega) | omega)).trans (by repeat (first | exact HAb.out | exact heap_new | exact heap_new' (by first | rfl | (simp; done)) | refine (Below.heap_alloc _ _ _ (by first | omega | (simp; done) | (simp; omega))).trans ?_))
  clear cab HAb
  have cab := fun o => cellB Ab o
  have HAb := Lib.hid Ab
  (try simp only [bunC] at cab)
  clear Ab
  have zP3 : w2.heap.size < w3.heap.size := by omega
  have AP : w3.heap[w2.heap.size]? = some (.cells (bunC P (.slice va2 P.blocks.length vc2)).toArray 28 (0, 0)) := (hb3.block _ (by first | exact zP2 | (simp; done) | (simp; omega) | omega)).trans (by repeat (first | exact HAP.out | exact heap_new | exact heap_new' (by first | rfl | (simp; done)) | refine (Below.heap_alloc _ _ _ (by first | omega | (simp; done) | (simp; omega))).trans ?_))
  have caP := fun o => cellB AP o
  have HAP := Lib.hid AP
  (try simp only [bunC] at caP)
  clear AP
  obtain ⟨va3, vc3, rfl, _⟩ := id hv3
  have HV3 := Lib.hid hv3
  clear hv3
  clear hb3
  go_wp2
  have AQ : (w3.alloc (.cells (bunC Q (.slice va3 Q.blocks.length vc3)).toArray 28)).heap[w3.heap.size]? = some (.cells (bunC Q (.slice va3 Q.blocks.length vc3)).toArray 28 (0, 0)) := heap_new
  have AP : (w3.alloc (.cells (bunC Q (.slice va3 Q.blocks.length vc3)).toArray 28)).heap[w2.heap.size]? = _ := (Below.heap_alloc _ _ _ zP3).trans HAP.out
  have AB : (w3.alloc (.cells (bunC Q (.slice va3 Q.blocks.length vc3)).toArray 28)).heap[w.heap.size]? = _ := (Below.heap_alloc _ _ _ zb3).trans HAb.out
  have B9 : Below w.heap.size w (w3.alloc (.cells (bunC Q (.slice va3 Q.blocks.length vc3)).toArray 28)) := balloc0 hB3
  have R2 := HV2.out.below' (balloc0 (o := .cells (bunC Q (.slice va3 Q.blocks.length vc3)).toArray 28) hK2_3)
  have R3 := HV3.out.below' (balloc0 (o := .cells (bunC Q (.slice va3 Q.blocks.length vc3)).toArray 28) (Below.refl _ _))
  have z9 : w3.heap.size < (w3.alloc (.cells (bunC Q (.slice va3 Q.blocks.length vc3)).toArray 28)).heap.size := by simp
  simp only [bunC] at AQ AP AB B9 R2 R3 z9
  generalize w3.alloc (.cells _ _) = W9 at *
  have zb9 : w.heap.size < W9.heap.size := by omega
  have zP9 : w2.heap.size < W9.heap.size := by omega
  have HR9 := Lib.hid (HR.out.below' B9)
  have HX9 := Lib.hid R2
  have HQ9 := Lib.hid R3
  have cb := fun o => cellB AB o
  have cp := fun o => cellB AP o
  have HAB := Lib.hid AB
  have HAP9 := Lib.hid AP
  have HAQ9 := Lib.hid AQ
  clear AB AP AQ R2 R3 cab caP
  refine wp_region_plan (fun V => Below (W9).heap.size (W9) V) [1, 2, 1, 2, 0, 1, 1, 3, 0, 0] [0, 2, 1, 3, 4, 5, 6, 7, 8, 9] (by kernel_rfl) (by kernel_rfl) ?_ ?_
  case refine_1 => exact (by repeat' (first | with_reducible (first | refine bset ?_ ?_ | exact Below.refl _ _ | assumption | refine bdrewN ?_ _ | refine bdrew ?_ | refine balloc0 ?_ | refine balloc ?_ ?_ | (apply btrans0; rotate_left; assumption) | (apply btrans; rotate_left; assumption)) | exact Below.refl _ _ | assumption | (apply btrans0; rotate_left; assumption) | (apply btrans; rotate_left; assumption) | (simp; done) | omega | (simp; omega)))
  (iterate 2 (first | (refine plan_held rfl (by decide) (by rfl) (fun w1 hS => by (try (obtain ⟨_, _⟩ := bcell (hS rfl))); go_simp; rfl) ?_; simp only [Act.put, List.setIfInBounds_toArray, List.set_cons_zero, List.set_cons_succ]) | (refine plan_skip rfl (by decide) (by rfl) ?_; simp only [Act.put, List.setIfInBounds_toArray, List.set_cons_zero, List.set_cons_succ])))
  (refine plan_keep rfl rfl (by rfl) (fun K hK => ?_); go_simp)
  refine (lawRest_any b _ _ (HR9.out.below' (by repeat' (first | with_reducible (first | refine bset ?_ ?_ | exact Below.refl _ _ | assumption | refine bdrewN ?_ _ | refine bdrew ?_ | refine balloc0 ?_ | refine balloc ?_ ?_ | (apply btrans0; rotate_left; assumption) | (apply btrans; rotate_left; assumption)) | exact Below.refl _ _ | assumption | (apply btrans0; rotate_left; assumption) | (apply btrans; rotate_left; assumption) | (simp; done) | omega | (simp; omega)))) HLN.out).mono ?_
  unfold RestPost
  rintro e wc57 ⟨ux, rfl, hrx, hbc57⟩
  have HRX := Lib.hid hrx
  clear hrx
  (refine hK _ _ (by exact (by repeat' (first | with_reducible (first | refine bset ?_ ?_ | exact Below.refl _ _ | assumption | refine bdrewN ?_ _ | refine bdrew ?_ | refine balloc0 ?_ | refine balloc ?_ ?_ | (apply btrans0; rotate_left; assumption) | (apply btrans; rotate_left; assumption)) | exact Below.refl _ _ | assumption | (apply btrans0; rotate_left; assumption) | (apply btrans; rotate_left; assumption) | (simp; done) | omega | (simp; omega)))) ?_; clear hK K; (try simp only [Act.put, List.setIfInBounds_toArray, List.set_cons_zero, List.set_cons_succ]))
  (refine plan_keep rfl rfl (by rfl) (fun K hK => ?_); go_simp)
  refine (lsame_len b (rest3 b.blocks) _ _ _ (HRX.out.below' (by repeat' (first | with_reducible (first | refine bset ?_ ?_ | exact Below.refl _ _ | assumption | refine bdrewN ?_ _ | refine bdrew ?_ | refine balloc0 ?_ | refine balloc ?_ ?_ | (apply btrans0; rotate_left; assumption) | (apply btrans; rotate_left; assumption)) | exact Below.refl _ _ | assumption | (apply btrans0; rotate_left; assumption) | (apply btrans; rotate_left; assumption) | (simp; done) | omega | (simp; omega)))) (HR9.out.below' (by repeat' (first | with_reducible (first | refine bset ?_ ?_ | exact Below.refl _ _ | assumption | refine bdrewN ?_ _ | refine bdrew ?_ | refine balloc0 ?_ | refine balloc ?_ ?_ | (apply btrans0; rotate_left; assumption) | (apply btrans; rotate_left; assumption)) | exact Below.refl _ _ | assumption | (apply btrans0; rotate_left; assumption) | (apply btrans; rotate_left; assumption) | (simp; done) | omega | (simp; omega)))) HNE.out).mono ?_
  rintro e wc59 ⟨rfl, hbc59⟩
  (refine hK _ _ (by exact (by repeat' (first | with_reducible (first | refine bset ?_ ?_ | exact Below.refl _ _ | assumption | refine bdrewN ?_ _ | refine bdrew ?_ | refine balloc0 ?_ | refine balloc ?_ ?_ | (apply btrans0; rotate_left; assumption) | (apply btrans; rotate_left; assumption)) | exact Below.refl _ _ | assumption | (apply btrans0; rotate_left; assumption) | (apply btrans; rotate_left; assumption) | (simp; done) | omega | (simp; omega)))) ?_; clear hK K; (try simp only [Act.put, List.setIfInBounds_toArray, List.set_cons_zero, List.set_cons_succ]))
  (iterate 3 (first | (refine plan_held rfl (by decide) (by rfl) (fun w1 hS => by (try (obtain ⟨_, _⟩ := bcell (hS rfl))); go_simp; rfl) ?_; simp only [Act.put, List.setIfInBounds_toArray, List.set_cons_zero, List.set_cons_succ]) | (refine plan_skip rfl (by decide) (by rfl) ?_; simp only [Act.put, List.setIfInBounds_toArray, List.set_cons_zero, List.set_cons_succ])))
  (refine plan_skipL rfl (by decide) (by rfl) ?_; simp only [Act.put, List.setIfInBounds_toArray, List.set_cons_zero, List.set_cons_succ])
  (iterate 2 (first | (refine plan_held rfl (by decide) (by rfl) (fun w1 hS => by (try (obtain ⟨_, _⟩ := bcell (hS rfl))); go_simp; rfl) ?_; simp only [Act.put, List.setIfInBounds_toArray, List.set_cons_zero, List.set_cons_succ]) | (refine plan_skip rfl (by decide) (by rfl) ?_; simp only [Act.put, List.setIfInBounds_toArray, List.set_cons_zero, List.set_cons_succ])))
  refine plan_done ?_
  have hK9 : Below W9.heap.size W9 wc59 := by clear B9 hB1 hB2 hB3; exact (by repeat' (first | with_reducible (first | refine bset ?_ ?_ | exact Below.refl _ _ | assumption | refine bdrewN ?_ _ | refine bdrew ?_ | refine balloc0 ?_ | refine balloc ?_ ?_ | (apply btrans0; rotate_left; assumption) | (apply btrans; rotate_left; assumption)) | exact Below.refl _ _ | assumption | (apply btrans0; rotate_left; assumption) | (apply btrans; rotate_left; assumption) | (simp; done) | omega | (simp; omega)))
  have hB4 : Below w.heap.size w wc59 := btrans0 B9 hK9
  have y4 := hK9.size
  have AB := (hK9.block _ zb9).trans HAB.out
  have AQ := (hK9.block _ z9).trans HAQ9.out
  have HAb4 := Lib.hid AB
  have HAQ4 := Lib.hid AQ
  have cb4 := fun o => cellB AB o
  (try simp only [bunC] at cb4)
  clear AB AQ cb cp
  go_wp2_with fail
  refine (age_any b _ _ (HR9.out.below' hK9) HF.out).mono ?_
  rw [HAG.out]
  simp only
  rintro e w5 ⟨rfl, hb5⟩
  have hB5 : Below w.heap.size w w5 := btrans0 hB4 hb5
  have hK5 : Below W9.heap.size W9 w5 := btrans0 hK9 hb5
  have y5 := hb5.size
  have AB := (hb5.block _ (by omega)).trans HAb4.out
  have cb5 := fun o => cellB AB o
  (try simp only [bunC] at cb5)
  have HAb5 := Lib.hid AB
  have HAQ5 := Lib.hid ((hb5.block _ (by omega)).trans HAQ4.out)
  clear AB cb4 hb5
  go_wp2_with fail
  refine (hops_any b _ _ (HR9.out.below' hK5) HF.out).mono ?_
  rw [HHO.out]
  simp only
  rintro e w6 ⟨rfl, hb6⟩
  have hB6 : Below w.heap.size w w6 := btrans0 hB5 hb6
  have hK6 : Below W9.heap.size W9 w6 := btrans0 hK5 hb6
  have y6 := hb6.size
  have AQ := (hb6.block _ (by omega)).trans HAQ5.out
  have cq6 := fun o => cellB AQ o
  (try simp only [bunC] at cq6)
  have HAQ6 := Lib.hid AQ
  clear AQ cb5 hb6
  by_cases q : QE = 0
  case neg =>
    have q2 : (QE != 0) = true := by rw [bne_iff_ne]; exact q
    go_wp2_with fail
    refine (awake_any _).mono ?_
    rintro e w99 ⟨rfl, hb99⟩
    go_wp2
    go_ret
    exact ⟨rfl, (by repeat' (first | with_reducible (first | refine bset ?_ ?_ | exact Below.refl _ _ | assumption | refine bdrewN ?_ _ | refine bdrew ?_ | refine balloc0 ?_ | refine balloc ?_ ?_ | (apply btrans0; rotate_left; assumption) | (apply btrans; rotate_left; assumption)) | exact Below.refl _ _ | assumption | (apply btrans0; rotate_left; assumption) | (apply btrans; rotate_left; assumption) | (simp; done) | omega | (simp; omega)))⟩
  subst q
  have hqa := HQA.out rfl
  have hqh := HQH.out rfl
  by_cases z1 : ga = 0
  case pos =>
    subst z1
    rw [if_pos rfl] at hqa
    by_cases z2 : gh = 0
    case pos =>
      subst z2
      rw [if_pos rfl] at hqh
      have HQA2 := Lib.hid hqa
      obtain ⟨p1, p2⟩ := HA0.out rfl
      have hw1 : IntKind.i64.wrap (a1 + x) = a1 + x := by rw [IntKind.wrap_i64]; omega
      have hw2 : IntKind.i64.wrap (a1 + x + y) = a1 + x + y := by rw [IntKind.wrap_i64]; omega
      have HQH2 := Lib.hid hqh
      obtain ⟨o1, o2⟩ := HH0.out rfl
      have hw3 : IntKind.i64.wrap (cnt + 2) = cnt + 2 := by rw [IntKind.wrap_i64]; omega
      clear hqa hqh
      go_wp2_with fail
      refine (age_any Q _ _ (HQ9.out.below' hK6) FQ.out).mono ?_
      rw [HQA2.out]
      simp only
      rintro e w7 ⟨rfl, hb7⟩
      have hB7 : Below w.heap.size w w7 := btrans0 hB6 hb7
      have hK7 : Below W9.heap.size W9 w7 := btrans0 hK6 hb7
      have y7 := hb7.size
      have AQ := (hb7.block _ (by omega)).trans HAQ6.out
      have cq7 := fun o => cellB AQ o
      (try simp only [bunC] at cq7)
      clear AQ cq6 hb7
      go_wp2_with fail
      refine (hops_any Q _ _ (HQ9.out.below' hK7) FQ.out).mono ?_
      rw [HQH2.out]
      simp only
      rintro e w8 ⟨rfl, hb8⟩
      have hB8 : Below w.heap.size w w8 := btrans0 hB7 hb8
      clear hb8
      go_wp2_with fail
      refine (awake_any _).mono ?_
      rintro e w99 ⟨rfl, hb99⟩
      go_wp2
      go_ret
      exact ⟨rfl, (by repeat' (first | with_reducible (first | refine bset ?_ ?_ | exact Below.refl _ _ | assumption | refine bdrewN ?_ _ | refine bdrew ?_ | refine balloc0 ?_ | refine balloc ?_ ?_ | (apply btrans0; rotate_left; assumption) | (apply btrans; rotate_left; assumption)) | exact Below.refl _ _ | assumption | (apply btrans0; rotate_left; assumption) | (apply btrans; rotate_left; assumption) | (simp; done) | omega | (simp; omega)))⟩
    rw [if_neg z2] at hqh
    have HQA2 := Lib.hid hqa
    obtain ⟨p1, p2⟩ := HA0.out rfl
    have hw1 : IntKind.i64.wrap (a1 + x) = a1 + x := by rw [IntKind.wrap_i64]; omega
    have hw2 : IntKind.i64.wrap (a1 + x + y) = a1 + x + y := by rw [IntKind.wrap_i64]; omega
    have HQH2 := Lib.hid hqh
    have g2 : (gh != 0) = true := by rw [bne_iff_ne]; exact z2
    clear hqa hqh z2
    go_wp2_with fail
    refine (age_any Q _ _ (HQ9.out.below' hK6) FQ.out).mono ?_
    rw [HQA2.out]
    simp only
    rintro e w7 ⟨rfl, hb7⟩
    have hB7 : Below w.heap.size w w7 := btrans0 hB6 hb7
    have hK7 : Below W9.heap.size W9 w7 := btrans0 hK6 hb7
    have y7 := hb7.size
    have AQ := (hb7.block _ (by omega)).trans HAQ6.out
    have cq7 := fun o => cellB AQ o
    (try simp only [bunC] at cq7)
    clear AQ cq6 hb7
    go_wp2_with fail
    refine (hops_any Q _ _ (HQ9.out.below' hK7) FQ.out).mono ?_
    rw [HQH2.out]
    simp only
    rintro e w8 ⟨rfl, hb8⟩
    have hB8 : Below w.heap.size w w8 := btrans0 hB7 hb8
    clear hb8
    go_wp2_with fail
    refine (awake_any _).mono ?_
    rintro e w99 ⟨rfl, hb99⟩
    go_wp2
    go_ret
    exact ⟨rfl, (by repeat' (first | with_reducible (first | refine bset ?_ ?_ | exact Below.refl _ _ | assumption | refine bdrewN ?_ _ | refine bdrew ?_ | refine balloc0 ?_ | refine balloc ?_ ?_ | (apply btrans0; rotate_left; assumption) | (apply btrans; rotate_left; assumption)) | exact Below.refl _ _ | assumption | (apply btrans0; rotate_left; assumption) | (apply btrans; rotate_left; assumption) | (simp; done) | omega | (simp; omega)))⟩
  rw [if_neg z1] at hqa
  by_cases z2 : gh = 0
  case pos =>
    subst z2
    rw [if_pos rfl] at hqh
    have HQA2 := Lib.hid hqa
    have g1 : (ga != 0) = true := by rw [bne_iff_ne]; exact z1
    have HQH2 := Lib.hid hqh
    obtain ⟨o1, o2⟩ := HH0.out rfl
    have hw3 : IntKind.i64.wrap (cnt + 2) = cnt + 2 := by rw [IntKind.wrap_i64]; omega
    clear hqa hqh z1
    go_wp2_with fail
    refine (age_any Q _ _ (HQ9.out.below' hK6) FQ.out).mono ?_
    rw [HQA2.out]
    simp only
    rintro e w7 ⟨rfl, hb7⟩
    have hB7 : Below w.heap.size w w7 := btrans0 hB6 hb7
    have hK7 : Below W9.heap.size W9 w7 := btrans0 hK6 hb7
    have y7 := hb7.size
    have AQ := (hb7.block _ (by omega)).trans HAQ6.out
    have cq7 := fun o => cellB AQ o
    (try simp only [bunC] at cq7)
    clear AQ cq6 hb7
    go_wp2_with fail
    refine (hops_any Q _ _ (HQ9.out.below' hK7) FQ.out).mono ?_
    rw [HQH2.out]
    simp only
    rintro e w8 ⟨rfl, hb8⟩
    have hB8 : Below w.heap.size w w8 := btrans0 hB7 hb8
    clear hb8
    go_wp2_with fail
    refine (awake_any _).mono ?_
    rintro e w99 ⟨rfl, hb99⟩
    go_wp2
    go_ret
    exact ⟨rfl, (by repeat' (first | with_reducible (first | refine bset ?_ ?_ | exact Below.refl _ _ | assumption | refine bdrewN ?_ _ | refine bdrew ?_ | refine balloc0 ?_ | refine balloc ?_ ?_ | (apply btrans0; rotate_left; assumption) | (apply btrans; rotate_left; assumption)) | exact Below.refl _ _ | assumption | (apply btrans0; rotate_left; assumption) | (apply btrans; rotate_left; assumption) | (simp; done) | omega | (simp; omega)))⟩
  rw [if_neg z2] at hqh
  have HQA2 := Lib.hid hqa
  have g1 : (ga != 0) = true := by rw [bne_iff_ne]; exact z1
  have HQH2 := Lib.hid hqh
  have g2 : (gh != 0) = true := by rw [bne_iff_ne]; exact z2
  clear hqa hqh z1 z2
  go_wp2_with fail
  refine (age_any Q _ _ (HQ9.out.below' hK6) FQ.out).mono ?_
  rw [HQA2.out]
  simp only
  rintro e w7 ⟨rfl, hb7⟩
  have hB7 : Below w.heap.size w w7 := btrans0 hB6 hb7
  have hK7 : Below W9.heap.size W9 w7 := btrans0 hK6 hb7
  have y7 := hb7.size
  have AQ := (hb7.block _ (by omega)).trans HAQ6.out
  have cq7 := fun o => cellB AQ o
  (try simp only [bunC] at cq7)
  clear AQ cq6 hb7
  go_wp2_with fail
  refine (hops_any Q _ _ (HQ9.out.below' hK7) FQ.out).mono ?_
  rw [HQH2.out]
  simp only
  rintro e w8 ⟨rfl, hb8⟩
  have hB8 : Below w.heap.size w w8 := btrans0 hB7 hb8
  clear hb8
  go_wp2_with fail
  refine (awake_any _).mono ?_
  rintro e w99 ⟨rfl, hb99⟩
  go_wp2
  go_ret
  exact ⟨rfl, (by repeat' (first | with_reducible (first | refine bset ?_ ?_ | exact Below.refl _ _ | assumption | refine bdrewN ?_ _ | refine bdrew ?_ | refine balloc0 ?_ | refine balloc ?_ ?_ | (apply btrans0; rotate_left; assumption) | (apply btrans; rotate_left; assumption)) | exact Below.refl _ _ | assumption | (apply btrans0; rotate_left; assumption) | (apply btrans; rotate_left; assumption) | (simp; done) | omega | (simp; omega)))⟩
theorem walk (b : Bun) (u : Value) (m n x y : Int) (w : World) (hr : RBlks w w.heap.size u b.blocks) (hf : Fits b) (wm : 0 ≤ m ∧ m ≤ 255) (wn : 0 ≤ n ∧ n ≤ 255) (wx : 0 ≤ x ∧ x ≤ 65535) (wy : 0 ≤ y ∧ y ≤ 65535) :
    Calls Try.prog 7 #[.agg (bunC b u).toArray, .int .u8 m, .int .u8 n, .int .u16 x, .int .u16 y] w (Says w) := by
  obtain ⟨m1, hm1, m1a, m1b⟩ := tmod_fact m 16 wm.1 (by omega)
  obtain ⟨n1, hn1, n1a, n1b⟩ := tmod_fact n 16 wn.1 (by omega)
  obtain ⟨⟨P, PE⟩, hP⟩ : ∃ q, fwdS b m1 x = q := ⟨_, rfl⟩
  by_cases e : PE = 0
  case neg =>
    obtain rfl := fwdS_bad hP e
    exact walkE b u m n x y w wm wn wx wy hr hf m1 n1 hm1 m1a m1b hn1 n1a n1b PE hP e
  subst e
  by_cases hr3 : rest3 b.blocks = b.blocks
  · obtain rfl := fwd_plain hP hr3
    exact walkR _ u m n x y w wm wn wx wy hr hf m1 n1 hm1 m1a m1b hn1 n1a n1b hP hr3
  · exact walkN b u m n x y w wm wn wx wy hr hf m1 n1 hm1 m1a m1b hn1 n1a n1b P hP hr3

set_option maxRecDepth 100000 in
theorem lifted (os : Os) (started : os.Started) (H : Type) (enc : TypeId × Value → H) :
    ReturnsInHanded {} Try.checked os 7 .any (Rows.extensionForwardsSpec.pre6 enc Try.prog Try.f7 Rows.extensionForwardsRow.domain false) (Rows.extensionForwardsSpec.post enc Try.prog Try.f7 false true false false) := by
  refine returnsInHanded_of_change (C := Try.checked) own started (by kernel_rfl) Try.func7
    (ChangeSpec.witness6 (enc := enc) (C := Try.checked) false ⟨#[], #[.agg #[.int .i64 0, .int .i64 0, .int .i64 0, .int .i64 0, .int .i64 0, .int .i64 0, .int .i64 0, .int .i64 0, .int .i64 0, .int .i64 0, .slice none 0 0, .string (B [])], .int .u8 0, .int .u8 0, .int .u16 0, .int .u16 0], []⟩ 8 (by kernel_rfl) (by kernel_rfl) (by kernel_rfl) (by kernel_rfl)) ?_
  intro W base args ds gs before hval0 hW hcnd _
  have hval : ∀ (j : Nat) t v, Try.f7.params[j]? = some t → args[j]? = some v → Value.okWide Try.prog W .any base t v := hval0
  have hW' := hW
  obtain ⟨p, q, hA0, hV, rfl, hfz, hnd⟩ := hW
  have hA : DataW.TrodAll enc Try.prog W 0 (fun _ => true) true Try.f7.params.toList args.toList ds p := hA0
  rw [Try.params7] at hA hval
  obtain ⟨v0, vs0, d0, ds0, p0, q0, hargs, rfl, rfl, h0, r0⟩ := trodAll_cons hA
  obtain ⟨v1, vs1, d1, ds1, p1, q1, rfl, rfl, rfl, h1, r1⟩ := trodAll_cons r0
  obtain ⟨v2, vs2, d2, ds2, p2, q2, rfl, rfl, rfl, h2, r2⟩ := trodAll_cons r1
  obtain ⟨v3, vs3, d3, ds3, p3, q3, rfl, rfl, rfl, h3, r3⟩ := trodAll_cons r2
  obtain ⟨v4, vs4, d4, ds4, p4, q4, rfl, rfl, rfl, h4, r4⟩ := trodAll_cons r3
  obtain ⟨rfl, rfl, rfl⟩ := trodAll_nil r4
  obtain rfl : args = #[v0, v1, v2, v3, v4] := by cases args; simp_all
  obtain ⟨x0, u0, rfl, hr0, hf0⟩ := open_bun (hval 0 28 v0 rfl rfl) h0
  obtain ⟨x1, rfl, _, _, wx1⟩ := open_int Try.underlying5 (hval 1 5 v1 rfl rfl) h1
  obtain ⟨x2, rfl, _, _, wx2⟩ := open_int Try.underlying5 (hval 2 5 v2 rfl rfl) h2
  obtain ⟨x3, rfl, _, _, wx3⟩ := open_int Try.underlying49 (hval 3 49 v3 rfl rfl) h3
  obtain ⟨x4, rfl, _, _, wx4⟩ := open_int Try.underlying49 (hval 4 49 v4 rfl rfl) h4
  refine (walk x0 u0 x1 x2 x3 x4 W hr0 hf0 (by have := wx1; simp [Lit.wf, IntKind.min, IntKind.max, IntKind.signed, IntKind.bits] at this; omega) (by have := wx2; simp [Lit.wf, IntKind.min, IntKind.max, IntKind.signed, IntKind.bits] at this; omega) (by have := wx3; simp [Lit.wf, IntKind.min, IntKind.max, IntKind.signed, IntKind.bits] at this; omega) (by have := wx4; simp [Lit.wf, IntKind.min, IntKind.max, IntKind.signed, IntKind.bits] at this; omega)).mono fun e W' ⟨he, hB⟩ => ?_
  subst he
  refine ⟨_, rfl, law_post (by kernel_rfl) (by kernel_rfl) rfl Try.underlying4 rfl ?_ hW' hB⟩
  intro es hes
  match es, hes with
  | [_, _, _, _, _], _ => rfl

theorem proved : Rows.ExtensionForwardsSaid :=
  OpenClaim.holds_of_wide 7 Try.f7 rfl rfl rfl rfl rfl rfl rfl ⟨rfl, rfl, rfl, rfl, rfl⟩ rfl rfl rfl rfl rfl (by kernel_rfl) Try.func7 (by kernel_rfl)
    (of_decide_eq_true (by kernel_rfl)) (by unfold Func.isWrapper; first | (rw [if_pos (by decide +kernel)]; kernel_rfl) | (rw [if_neg (by decide +kernel)]; exact ⟨rfl, rfl⟩))
    (fun os started H enc _ => lifted os started H enc)
#print axioms proved
end Go.Proofs.Ythgokfceakbjlaa.extensionForwards
