/- Joined by port.py: XSjm XUa -/
import Derived.BigQuiet
import Derived.BigRegion
import Derived.Test.YthlbddcllikolaaGreatSv
import Derived.Deep.DeepCutAuto
import Derived.Deep.CutBlock
import Derived.Test.YthlbddcllikolaaGreatJa
import Derived.Test.YthlbddcllikolaaGreatJb
import Derived.Test.YthlbddcllikolaaGreatJc
import Derived.Test.YthlbddcllikolaaGreatJh
import Derived.Test.YthlbddcllikolaaGreatJm
import Derived.Test.YthlbddcllikolaaGreatJo
import Derived.Test.YthlbddcllikolaaGreatJs
import Derived.Test.YthlbddcllikolaaGreatJp
import Derived.Test.YthlbddcllikolaaGreatJu
import Derived.Test.YthlbddcllikolaaGreatJw
import Derived.Test.YthlbddcllikolaaGreatSb
import Derived.Test.YthlbddcllikolaaGreatSe
import Derived.Test.YthlbddcllikolaaGreatSg
import Derived.Test.YthlbddcllikolaaGreatSh
import Derived.Test.YthlbddcllikolaaGreatSi
import Derived.Test.YthlbddcllikolaaGreatSj
import Derived.Test.YthlbddcllikolaaGreatSm
import Derived.Test.YthlbddcllikolaaGreatRT
import Derived.Test.YthlbddcllikolaaGreatSp
set_option linter.unusedVariables false
set_option linter.unusedSimpArgs false
/-! XSjm -/
namespace Go.Proofs.YthlbddcllikolaaGreat
open Go Go.RowKit Iv
attribute [local go_sem] Oper.semAt_some
attribute [local go_sem] B_getElem B_size B_app B_extract B_get B_toList
theorem fun_sub : FunB (fun p q => p && !q) 71 := by
  refine ⟨enters_of Tryz.func71 (by kernel_rfl) rfl, fun p q W => ?_⟩
  cases p <;> cases q
  all_goals
    go_enter Tryz.func71, Tryz.ntmps71
    go_wp2
    go_ret
    exact ⟨rfl, belowA⟩
def missP (p : Par) : List Sp × Int := if chkP p ≠ 0 then ([], 1) else minS [(0, (p.data.length : Int))] p.known
set_option maxRecDepth 100000 in
theorem sub_any (a b : List Sp) (u v : Value) (w : World) (ha : RSps w w.heap.size u a) (hb : RSps w w.heap.size v b) :
    Calls Tryz.prog 38 #[u, v] w (SpsPostF (combS (fun p q => p && !q) a b) w) := by
  have HA := Lib.hid ha
  have HB := Lib.hid hb
  obtain ⟨a1, c1, rfl⟩ : ∃ a1 c1, u = .slice a1 a.length c1 := by obtain ⟨a1, c1, h, _⟩ := ha; exact ⟨a1, c1, h⟩
  obtain ⟨a2, c2, rfl⟩ : ∃ a2 c2, v = .slice a2 b.length c2 := by obtain ⟨a1, c1, h, _⟩ := hb; exact ⟨a1, c1, h⟩
  clear ha hb
  obtain ⟨S, hS⟩ : ∃ q, combS (fun p q => p && !q) a b = q := ⟨_, rfl⟩
  have HS := Lib.hid hS
  rw [hS]
  clear hS
  go_enter Tryz.func38, Tryz.ntmps38
  go_wp2_with fail
  refine (comb_any (fun p q => p && !q) rfl _ fun_sub a b _ _ _ HA.out HB.out).mono ?_
  rw [HS.out]
  rintro e w1 ⟨r, rfl, hr, hf1, hb1⟩
  have HF1 := Lib.hid hf1
  obtain ⟨ra, rc, rfl⟩ : ∃ a1 c1, r = .slice a1 S.1.length c1 := by obtain ⟨a1, c1, h, _⟩ := hr; exact ⟨a1, c1, h⟩
  have HR := Lib.hid hr
  clear hr hf1
  go_wp2
  go_ret2
  exact ⟨_, rfl, HR.out, HF1.out, hb1⟩
end Go.Proofs.YthlbddcllikolaaGreat
/-! XUa -/
namespace Go.Proofs.YthlbddcllikolaaGreat
open Go Go.RowKit Iv
attribute [local go_sem] Oper.semAt_some
attribute [local go_sem] B_getElem B_size B_app B_extract B_get B_toList
theorem neSpI (a b c d : Int) (w : World) : Sem.run Tryz.prog (Go.binOp .neq 52 (.agg #[.int .i64 a, .int .i64 b]) (.agg #[.int .i64 c, .int .i64 d])) w = .ok (.bool (a != c || b != d)) w := by
  go_simp
  by_cases h1 : a = c <;> by_cases h2 : b = d <;> simp [h1, h2]
attribute [local go_sem ↓] neSpI
theorem missP_1 {p : Par} (h : chkP p ≠ 0) : missP p = ([], 1) := if_pos h
theorem missP_2 {p : Par} (h : chkP p = 0) : missP p = minS [(0, (p.data.length : Int))] p.known := if_neg (by simp [h])
theorem missP_sub {p : Par} (h : chkP p = 0) : chkSp p.known = 0 ∧ chkSp [(0, (p.data.length : Int))] = 0 ∧ 0 < p.data.length ∧ p.data.length ≤ 4096 := by
  obtain ⟨h1, h2, h3, h4⟩ := chkP_zero h
  have h5 : 1 ≤ p.data.length := by
    unfold chkP at h
    split at h
    · cases h
    · split at h
      · cases h
      · omega
  exact ⟨h3, chk_one (by show (0 : Int) < p.data.length; omega) (by show (-1152921504606846976 : Int) ≤ 0; omega) (by show (p.data.length : Int) ≤ 1152921504606846976; omega), h5, h2⟩
theorem resP_1 {p : Par} (h : chkP p ≠ 0) : resP p = (zBun, 1) := if_pos h
theorem resP_2 {p : Par} (h : chkP p = 0) (h2 : ¬ (p.known.length = 1 ∧ p.known[0]? = some (0, (p.data.length : Int)))) : resP p = (zBun, 25) := (if_neg (by simp [h])).trans (if_neg h2)
theorem resP_3 {p : Par} (h : chkP p = 0) (h2 : p.known.length = 1 ∧ p.known[0]? = some (0, (p.data.length : Int))) : resP p = ({ p.head with payload := p.data }, 0) := (if_neg (by simp [h])).trans (if_pos h2)
/-- a tuple of a bundle and an error -/
def ResPost (N : Nat) (v : Value) (r : Bun × Int) (w : World) (e : Ending) (w' : World) : Prop := ∃ u, e = .returned (.tuple #[.agg (bunC r.1 u).toArray, .int .i64 r.2]) ∧ (u = .slice none 0 0 ∨ u = v) ∧ RBlks w' N u r.1.blocks ∧ Below w.heap.size w w'
set_option maxRecDepth 100000 in
set_option maxHeartbeats 32000000 in
theorem miss_any (p : Par) (ub uk : Value) (w : World) (h : RBlks w w.heap.size ub p.head.blocks) (k : RSps w w.heap.size uk p.known) (hf : Fits p.head) (hd : p.data.length ≤ maxLen) :
    Calls Tryz.prog 14 #[.agg (parC p ub uk).toArray] w (SpsPostF (missP p) w) := by
  obtain ⟨b, kn, dt⟩ := p
  simp only at h k hf hd
  obtain ⟨a, c, rfl, _⟩ := id h
  obtain ⟨ka, kc, rfl, kh1, kh2, kh3, kh4⟩ := id k
  have HR := Lib.hid h
  have HK := Lib.hid k
  have HF := Lib.hid hf
  have HD := Lib.hid hd
  have K4 := Lib.hid kh4
  unfold maxLen at hd
  clear h k hf kh3 kh4
  obtain ⟨V, hV⟩ : ∃ q, missP ⟨b, kn, dt⟩ = q := ⟨_, rfl⟩
  have HVV := Lib.hid hV
  rw [hV]
  clear hV
  obtain ⟨E, hE⟩ : ∃ q, chkP ⟨b, kn, dt⟩ = q := ⟨_, rfl⟩
  have HE := Lib.hid hE
  go_enter Tryz.func14, Tryz.ntmps14
  simp only [parC, bunC, List.cons_append, List.nil_append]
  go_wp2_with fail
  refine (chkP_any ⟨b, kn, dt⟩ _ _ _ (HR.out.below (C := w.heap.size) (by exact belowA) (Nat.le_refl _) (by simp <;> omega)) (HK.out.below (C := w.heap.size) (by exact belowA) (Nat.le_refl _) (by simp <;> omega)) HF.out HD.out).mono ?_
  rw [HE.out]
  rintro e w1 ⟨rfl, hb⟩
  have b1 : Below w.heap.size w w1 := btrans0 (by exact belowA) hb
  have z1 : w.heap.size < w1.heap.size := by have := hb.size; simp at this; omega
  have P1 : Hid (w1.heap[w.heap.size]? = some (.cells #[.int .i64 b.src, .int .i64 b.crt, .int .i64 b.seq, .int .i64 b.off, .int .i64 b.tot, .int .i64 b.dk, .int .i64 b.dn, .int .i64 b.life, .int .i64 b.prio, .int .i64 b.flags, .slice a b.blocks.length c, .string (B b.payload), .slice ka kn.length kc, .string (B dt)] 45 (0, 0))) := Lib.hid ((hb.block _ (by simp)).trans heap_new)
  have cp := fun o => cellB P1.out o
  clear hb
  by_cases z : E = 0
  case neg =>
    have HV : Hid (V = ([], 1)) := Lib.hid (by rw [← HVV.out]; exact missP_1 (by rw [HE.out]; exact z))
    have z' : (E != 0) = true := by rw [bne_iff_ne]; exact z
    clear hE z
    go_wp2
    go_ret2
    rw [HV.out]
    exact ⟨_, rfl, RSps.nil _ _, rfrom_nil _ _ _, belowA⟩
  subst z
  have hs := missP_sub hE
  have HKC := Lib.hid hs.1
  have HX : Hid (chkSp [(0, (dt.length : Int))] = 0) := Lib.hid hs.2.1
  obtain ⟨L, hL⟩ : ∃ q, both [(0, (dt.length : Int))] (outs 1152921504606846976 (-1152921504606846976) kn) = q := ⟨_, rfl⟩
  have HM : Hid (minS [(0, (dt.length : Int))] kn = limS L) := Lib.hid (by unfold minS; rw [hL])
  have HV0 : Hid (V = limS L) := Lib.hid (by rw [← HVV.out, ← HM.out]; exact missP_2 hE)
  clear hs hL hE
  go_wp2_with fail
  refine (sub_any [(0, (dt.length : Int))] kn _ _ _ (RSps.one (t := 52) (f := (0, 0)) (by exact heap_new) rfl) (HK.out.below (C := w.heap.size) (by exact belowA) (Nat.le_refl _) (by simp <;> omega))).mono ?_
  rw [(comb_sub HKC.out HX.out).trans HM.out]
  rintro e w2 ⟨r, rfl, hr, hfr, hb⟩
  obtain ⟨ra, rc, rfl⟩ : ∃ ra rc, r = .slice ra (limS L).1.length rc := by obtain ⟨a, c, h, _⟩ := hr; exact ⟨a, c, h⟩
  have b2 : Below w.heap.size w w2 := btrans0 (by exact belowA) hb
  have R2 := Lib.hid hr
  have F2 : Hid (RFrom w.heap.size (.slice ra (limS L).1.length rc)) := Lib.hid (hfr.le (by first | omega | (simp <;> omega)))
  clear hfr
  clear hr hb cp
  by_cases l : 1000 < L.length
  · have e2 : limS L = ([], 4) := if_pos l
    rw [e2] at HV0 R2 ⊢
    simp only at R2 ⊢
    clear l F2
    go_wp2
    go_ret2
    rw [HV0.out]
    exact ⟨_, rfl, RSps.nil _ _, rfrom_nil _ _ _, belowA⟩
  · have e2 : limS L = (L, 0) := if_neg l
    rw [e2] at HV0 R2 F2 ⊢
    simp only at R2 F2 ⊢
    clear l
    go_wp2
    go_ret2
    rw [HV0.out]
    exact ⟨_, rfl, R2.out, F2.out, belowA⟩
set_option maxRecDepth 100000 in
set_option maxHeartbeats 32000000 in
theorem res_any (p : Par) (ub uk : Value) (N : Nat) (w : World) (hN : N ≤ w.heap.size) (h : RBlks w N ub p.head.blocks) (k : RSps w w.heap.size uk p.known) (hf : Fits p.head) (hd : p.data.length ≤ maxLen) :
    Calls Tryz.prog 16 #[.agg (parC p ub uk).toArray] w (ResPost N ub (resP p) w) := by
  obtain ⟨b, kn, dt⟩ := p
  simp only at h k hf hd
  obtain ⟨a, c, rfl, _⟩ := id h
  obtain ⟨ka, kc, rfl, kh1, kh2, kh3, kh4⟩ := id k
  have HRN := Lib.hid h
  have HR := Lib.hid (RBlks.wide h hN)
  have HK := Lib.hid k
  have HF := Lib.hid hf
  have HD := Lib.hid hd
  have K4 := Lib.hid kh4
  unfold maxLen at hd
  clear h k hf kh3 kh4
  obtain ⟨V, hV⟩ : ∃ q, resP ⟨b, kn, dt⟩ = q := ⟨_, rfl⟩
  have HVV := Lib.hid hV
  rw [hV]
  clear hV
  obtain ⟨E, hE⟩ : ∃ q, chkP ⟨b, kn, dt⟩ = q := ⟨_, rfl⟩
  have HE := Lib.hid hE
  go_enter Tryz.func16, Tryz.ntmps16
  simp only [parC, bunC, List.cons_append, List.nil_append]
  go_wp2_with fail
  refine (chkP_any ⟨b, kn, dt⟩ _ _ _ (HR.out.below (C := w.heap.size) (by exact belowA) (Nat.le_refl _) (by simp <;> omega)) (HK.out.below (C := w.heap.size) (by exact belowA) (Nat.le_refl _) (by simp <;> omega)) HF.out HD.out).mono ?_
  rw [HE.out]
  rintro e w1 ⟨rfl, hb⟩
  have b1 : Below w.heap.size w w1 := btrans0 (by exact belowA) hb
  have z1 : w.heap.size + 1 < w1.heap.size := by have := hb.size; simp at this; omega
  have P1 : Hid (w1.heap[w.heap.size]? = some (.cells #[.int .i64 b.src, .int .i64 b.crt, .int .i64 b.seq, .int .i64 b.off, .int .i64 b.tot, .int .i64 b.dk, .int .i64 b.dn, .int .i64 b.life, .int .i64 b.prio, .int .i64 b.flags, .slice a b.blocks.length c, .string (B b.payload), .slice ka kn.length kc, .string (B dt)] 45 (0, 0))) := Lib.hid ((hb.block _ (by simp; omega)).trans ((Below.heap_alloc _ _ _ (by simp)).trans heap_new))
  have R1 : Hid (w1.heap[w.heap.size + 1]? = some (.cells #[.int .i64 0, .int .i64 0, .int .i64 0, .int .i64 0, .int .i64 0, .int .i64 0, .int .i64 0, .int .i64 0, .int .i64 0, .int .i64 0, .slice none 0 0, .string ⟨#[]⟩] 28 (0, 0))) := Lib.hid ((hb.block _ (by simp)).trans (heap_new' (by simp)))
  have y1 : w.heap.size < w1.heap.size := by omega
  have cp := fun o => cellB P1.out o
  have cr := fun o => cellB R1.out o
  have fr := fun o => frozenB R1.out o
  clear hb
  by_cases z : E = 0
  case neg =>
    have HV : Hid (V = (zBun, 1)) := Lib.hid (by rw [← HVV.out]; exact resP_1 (by rw [HE.out]; exact z))
    have z' : (E != 0) = true := by rw [bne_iff_ne]; exact z
    clear hE z
    go_wp2
    refine bodyPost_ret (v := .tuple #[.agg #[.int .i64 0, .int .i64 0, .int .i64 0, .int .i64 0, .int .i64 0, .int .i64 0, .int .i64 0, .int .i64 0, .int .i64 0, .int .i64 0, .slice none 0 0, .string ⟨#[]⟩], .int .i64 1]) (by simp [results, Tryz.results16, go_sem, World.cell?_setCell_same', cr, z1]) rfl ?_
    rw [HV.out]
    exact ⟨_, rfl, .inl rfl, RBlks.nil _ _, belowA⟩
  subst z
  clear hE
  by_cases l : kn.length = 1
  case neg =>
    have HV : Hid (V = (zBun, 25)) := Lib.hid (by rw [← HVV.out]; exact resP_2 HE.out (fun h => l h.1))
    have l1 : ((kn.length : Int) != 1) = true := by rw [bne_iff_ne]; omega
    clear l
    go_upto_region 3 with fail
    go_quiet (fail)
    go_wp2
    refine bodyPost_ret (v := .tuple #[.agg #[.int .i64 0, .int .i64 0, .int .i64 0, .int .i64 0, .int .i64 0, .int .i64 0, .int .i64 0, .int .i64 0, .int .i64 0, .int .i64 0, .slice none 0 0, .string ⟨#[]⟩], .int .i64 25]) (by simp [results, Tryz.results16, go_sem, World.cell?_setCell_same', cr, z1]) rfl ?_
    rw [HV.out]
    exact ⟨_, rfl, .inl rfl, RBlks.nil _ _, belowA⟩
  obtain ⟨kb, ko, rfl, hkb, hkc⟩ := K4.out (by omega)
  obtain ⟨x, hx⟩ : ∃ x, kn[0]? = some x := ⟨_, List.getElem?_eq_getElem (by omega)⟩
  have HX := Lib.hid hx
  have q0 : w1.cell? ⟨kb, ko, none⟩ = some (.int .i64 x.1) := by have := (b1.cell (p := ⟨kb, ko + 0 * 2, none⟩) hkb).trans (sp0 hkc hx); simpa using this
  have q1 : w1.cell? ⟨kb, ko + 1, none⟩ = some (.int .i64 x.2) := by have := (b1.cell (p := ⟨kb, ko + 0 * 2 + 1, none⟩) hkb).trans (sp1 hkc hx); simpa using this
  have l1 : ((kn.length : Int) != 1) = false := by rw [bne_eq_false_iff_eq]; omega
  have n0 : (0 : Int) < (kn.length : Int) := by omega
  have n0' : 0 < kn.length := by omega
  have HL := Lib.hid l
  clear hkc hx l
  by_cases s : x = (0, (dt.length : Int))
  case neg =>
    have HV : Hid (V = (zBun, 25)) := Lib.hid (by rw [← HVV.out]; exact resP_2 HE.out (fun h => s (by have := HX.out.symm.trans h.2; exact Option.some.inj this)))
    have s1 : (x.1 != 0 || x.2 != (dt.length : Int)) = true := by
      by_cases y : x.1 = 0
      · by_cases y2 : x.2 = (dt.length : Int)
        · exact absurd (by cases x; simp only at y y2; rw [y, y2]) s
        · simp [y2]
      · simp [y]
    clear s
    go_upto_region 3 with fail
    go_quiet (fail)
    go_wp2
    refine bodyPost_ret (v := .tuple #[.agg #[.int .i64 0, .int .i64 0, .int .i64 0, .int .i64 0, .int .i64 0, .int .i64 0, .int .i64 0, .int .i64 0, .int .i64 0, .int .i64 0, .slice none 0 0, .string ⟨#[]⟩], .int .i64 25]) (by simp [results, Tryz.results16, go_sem, World.cell?_setCell_same', cr, z1]) rfl ?_
    rw [HV.out]
    exact ⟨_, rfl, .inl rfl, RBlks.nil _ _, belowA⟩
  subst s
  have s1 : ((0 : Int) != 0 || (dt.length : Int) != (dt.length : Int)) = false := by simp
  have HV : Hid (V = (⟨b.src, b.crt, b.seq, b.off, b.tot, b.dk, b.dn, b.life, b.prio, b.flags, b.blocks, dt⟩, 0)) := Lib.hid (by rw [← HVV.out]; exact resP_3 HE.out ⟨HL.out, HX.out⟩)

  simp only at q0 q1
  go_upto_region 3 with fail
  go_quiet (fail)
  go_upto_region 5 with fail
  obtain ⟨w2, hw2⟩ : ∃ q, w1.drewN nq = q := ⟨_, rfl⟩
  rw [hw2]
  have b2 : Below w.heap.size w w2 := by rw [← hw2]; exact belowA
  have z2 : w.heap.size + 1 < w2.heap.size := by rw [← hw2]; exact z1
  have y2 : w.heap.size < w2.heap.size := by omega
  have P2 : Hid (w2.heap[w.heap.size]? = some (.cells #[.int .i64 b.src, .int .i64 b.crt, .int .i64 b.seq, .int .i64 b.off, .int .i64 b.tot, .int .i64 b.dk, .int .i64 b.dn, .int .i64 b.life, .int .i64 b.prio, .int .i64 b.flags, .slice a b.blocks.length c, .string (B b.payload), .slice (some ⟨kb, ko, none⟩) kn.length kc, .string (B dt)] 45 (0, 0))) := Lib.hid (by rw [← hw2]; exact P1.out)
  have R2 : Hid (w2.heap[w.heap.size + 1]? = some (.cells #[.int .i64 0, .int .i64 0, .int .i64 0, .int .i64 0, .int .i64 0, .int .i64 0, .int .i64 0, .int .i64 0, .int .i64 0, .int .i64 0, .slice none 0 0, .string ⟨#[]⟩] 28 (0, 0))) := Lib.hid (by rw [← hw2]; exact R1.out)
  clear hw2 cp cr fr
  clear q0 q1
  have cp := fun o => cellB P2.out o
  have cr := fun o => cellB R2.out o
  have fr := fun o => frozenB R2.out o
  go_wp2
  refine bodyPost_ret (v := .tuple #[.agg #[.int .i64 b.src, .int .i64 b.crt, .int .i64 b.seq, .int .i64 b.off, .int .i64 b.tot, .int .i64 b.dk, .int .i64 b.dn, .int .i64 b.life, .int .i64 b.prio, .int .i64 b.flags, .slice a b.blocks.length c, .string (B dt)], .int .i64 0]) (by simp [results, Tryz.results16, go_sem, World.cell?_setCell_same', cr, z2]) rfl ?_
  rw [HV.out]
  exact ⟨_, rfl, .inr rfl, HRN.out.keep (fun q o hq => (by exact belowA : Below w.heap.size w _).cell (by show q < w.heap.size; omega)) (Nat.le_refl _), belowA⟩
end Go.Proofs.YthlbddcllikolaaGreat
