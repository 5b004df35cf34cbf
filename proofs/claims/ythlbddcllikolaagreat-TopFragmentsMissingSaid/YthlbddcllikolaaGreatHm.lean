/- TopFragmentsSent, TopFragmentsMissing: the walk of TopFragmentsMissing (printed by gen/g30.py) -/
import Derived.Deep.CutBlock
import Derived.Deep.DeepCutAuto
import Derived.Test.YthlbddcllikolaaGreatHc
import Derived.Test.YthlbddcllikolaaGreatHd
import Derived.Test.YthlbddcllikolaaGreatUf
import Derived.Test.YthlbddcllikolaaGreatUq
import Derived.Test.YthlbddcllikolaaGreatUa
import Derived.Test.YthlbddcllikolaaGreatJn
import Derived.Test.YthlbddcllikolaaGreatVf
set_option linter.unusedVariables false
set_option linter.unusedSimpArgs false
namespace Go.Proofs.YthlbddcllikolaaGreat
open Go Go.RowKit Go.Shelf Iv
attribute [local go_sem] B_getElem B_size B_app B_extract B_get B_toList
attribute [local go_sem] Oper.semAt_some
theorem OwnBV.ownX {w : World} {b N g n cap : Nat} {us : List BV} (h : OwnBV w b N (.slice (some ⟨g, 0, none⟩) n cap) us) (hn : us.length = n) (hN : N ≤ g) : OwnX w b (.slice (some ⟨g, 0, none⟩) n cap) us := by
  have hs : g < w.heap.size := by
    rcases h.1.2 with ⟨e1, e2⟩ | ⟨g', cap', cur, e1, e2, e3, e4⟩
    · cases e1
    · cases e1; exact (Array.getElem?_eq_some_iff.1 e3).1
  exact ⟨h.1, fun r hr => (RBlksD.of (h.2 r hr)).keep (fun _ _ _ => rfl) fun q (hq : q < N) => ⟨by omega, fun e => by have e2 : g = q := Option.some.inj e; omega⟩⟩
/-- the partial bundle in its box, in the loop -/
def MI (wD wr : World) (G : Nat) (p : Par) (ub uk : Value) : Prop :=
  wr.heap[G]? = some (.cells (parC p ub uk).toArray 45 (0, 0)) ∧ RBlksD wr (fun q => q < G) ub p.head.blocks ∧ RSps wr wr.heap.size uk p.known ∧ (RNe G uk ∨ p.known = []) ∧ (Fits p.head ∧ p.data.length ≤ maxLen) ∧ wD.heap.size ≤ G ∧ Below wD.heap.size wD wr
theorem MI.step {wD wr w' W : World} {G : Nat} {p p' : Par} {ub uk ub' uk' : Value} (h : MI wD wr G p ub uk) (hb : Below wr.heap.size wr w') (hR : RBlksD w' (fun q => q < G) ub' p'.head.blocks) (hK : RSps w' w'.heap.size uk' p'.known) (hN : RNe G uk') (hF : Fits p'.head ∧ p'.data.length ≤ maxLen)
    (hW : W.heap[G]? = some (.cells (parC p' ub' uk').toArray 45 (0, 0))) (hbW : ∀ B, B ≤ G → Below B w' W) (hsW : W.heap.size = w'.heap.size) (hoW : ∀ q, q ≠ G → W.heap[q]? = w'.heap[q]?) : MI wD W G p' ub' uk' := by
  obtain ⟨h1, h2, h3, h4, h5, h6, h7⟩ := h
  refine ⟨hW, hR.keep (fun b o hD => World.cell?_of_block (hoW b (by have hD : b < G := hD; omega))) (fun _ h => h), hK.keepNe hN hoW (by omega), .inl hN, hF, h6, (btrans0 h7 hb).trans (hbW _ (by omega))⟩
theorem OwnX.cap {w : World} {base g n cap : Nat} {us : List BV} (h : OwnX w base (.slice (some ⟨g, 0, none⟩) n cap) us) : n ≤ cap ∧ cap ≤ maxLen := by
  rcases h.1.2 with ⟨e1, e2⟩ | ⟨g', cap', cur, e1, e2, e3, e4, e5, _⟩
  · cases e1
  · have e6 := e1
    simp only [Value.slice.injEq, Option.some.injEq, Addr.mk.injEq, and_true, true_and] at e6
    obtain ⟨rfl, rfl, rfl⟩ := e6
    exact ⟨e4, e5⟩
set_option maxRecDepth 100000 in
set_option maxHeartbeats 16000000 in
theorem miss_walk (b : Bun) (u : Value) (m t c : Int) (w : World) (hr : RBlks w w.heap.size u b.blocks) (hf : Fits b) (m0 : 0 ≤ m) (m1 : m < 256) (t0 : 0 ≤ t) (t1 : t < 65536) (c0 : 0 ≤ c) (c1 : c < 256) :
    Calls Tryz.prog 4 #[.agg (bunC b u).toArray, .int .u8 m, .int .u16 t, .int .u8 c] w (Says w) := by
  obtain ⟨ba, bc, rfl, -⟩ := id hr
  have HR0 := Lib.hid hr
  have HF := Lib.hid hf
  clear hr hf
  go_enter Tryz.func4, Tryz.ntmps4
  simp only [bunC]
  go_upto_region 1 with fail
  obtain ⟨w1, hw1⟩ : ∃ q, (w.alloc (.cells (bunC b (.slice ba b.blocks.length bc)).toArray 28 (0, 0))) = q := ⟨_, rfl⟩
  simp only [bunC, parC, zBun, spC, List.cons_append, List.nil_append, List.length_nil] at hw1
  rw [hw1]
  have y1 : w.heap.size < w1.heap.size := by rw [← hw1]; first | (simp; done) | (simp; omega)
  have B1 : Below w.heap.size w w1 := by rw [← hw1]; exact balloc0 (Below.refl _ _)
  have L0_1 : Below w.heap.size w w1 := B1
  have Xb1 : Hid (w1.heap[w.heap.size]? = some (.cells (bunC b (.slice ba b.blocks.length bc)).toArray 28 (0, 0))) := Lib.hid (by rw [← hw1]; exact heap_new)
  have zb1 : w.heap.size < w1.heap.size := by rw [← hw1]; first | (simp; done) | (simp; omega)
  clear hw1
  have cb := fun o => cellB Xb1.out o
  (try simp only [bunC, parC, zBun, spC, List.cons_append, List.nil_append, List.length_nil] at cb)
  go_wp2_with fail
  refine (whole_any b _ _ _ (HR0.out.below' (L0_1)) HF.out (by omega) (by omega)).mono ?_
  unfold WholePost
  rintro e w2 ⟨rw_, rfl, hbig, hb2⟩
  have B2 : Below w.heap.size w w2 := btrans0 B1 hb2
  have y2 : w1.heap.size ≤ w2.heap.size := by have := hb2.size; (try simp at this); omega
  have L0_2 : Below w.heap.size w w2 := btrans0 L0_1 hb2
  have Xb2 : Hid (w2.heap[w.heap.size]? = some (.cells (bunC b (.slice ba b.blocks.length bc)).toArray 28 (0, 0))) := Lib.hid ((hb2.block _ (by first | omega | (simp; omega))).trans (Xb1.out))
  have zb2 : w.heap.size < w2.heap.size := by omega
  clear cb
  have HBG := Lib.hid hbig
  clear hbig
  clear hb2
  have cb := fun o => cellB Xb2.out o
  (try simp only [bunC, parC, zBun, spC, List.cons_append, List.nil_append, List.length_nil] at cb)
  cases rw_ with
  | false =>
    go_wp2_with fail
    refine (awake30 _).mono ?_
    rintro e w99 ⟨rfl, hb99⟩
    go_wp2
    go_ret
    exact ⟨rfl, belowA⟩
  | true =>
  have HB0 := Lib.hid (HBG.out rfl)
  clear HBG
  go_wp2_with fail
  refine (parts_any b _ _ _ _ (HR0.out.below' (L0_2)) HF.out HB0.out (by omega) t0 t1).mono ?_
  unfold PartsPost
  rintro e w3 ⟨us, v0, rfl, hox, hul, hul2, hfr, hadj, hb3⟩
  have B3 : Below w.heap.size w w3 := btrans0 B2 hb3
  have y3 : w2.heap.size ≤ w3.heap.size := by have := hb3.size; (try simp at this); omega
  have L0_3 : Below w.heap.size w w3 := btrans0 L0_2 hb3
  have Xb3 : Hid (w3.heap[w.heap.size]? = some (.cells (bunC b (.slice ba b.blocks.length bc)).toArray 28 (0, 0))) := Lib.hid ((hb3.block _ (by first | omega | (simp; omega))).trans (Xb2.out))
  have zb3 : w.heap.size < w3.heap.size := by omega
  clear cb
  have K23 : Below w2.heap.size w2 w3 := hb3
  obtain ⟨g, cap, rfl⟩ := hox.shape (by omega)
  have HOW3 := Lib.hid hox
  have HFR3 := Lib.hid hfr
  have HADJ3 := Lib.hid hadj
  clear hox hfr hadj
  obtain ⟨nn, hnn⟩ : ∃ q, us.length = q := ⟨_, rfl⟩
  rw [hnn] at HOW3 hul hul2 ⊢
  have HUL3 := Lib.hid hnn
  clear hnn
  have dn : decide ((nn : Int) < 2) = false := decide_eq_false (by omega)
  have dn1 : ¬ (nn : Int) < 2 := by omega
  have dn2 : ¬ nn < 2 := by omega
  clear hb3
  have cb := fun o => cellB Xb3.out o
  (try simp only [bunC, parC, zBun, spC, List.cons_append, List.nil_append, List.length_nil] at cb)
  obtain ⟨l, hl⟩ : ∃ q, us.map (·.1) = q := ⟨_, rfl⟩
  rw [hl] at HFR3 HADJ3
  have HLL : Hid (l.length = nn) := Lib.hid (by rw [← hl, List.length_map]; exact HUL3.out)
  have HBU3 : Hid (RBuns w3 w3.heap.size (.slice (some ⟨g, 0, none⟩) nn cap) l) := Lib.hid (by rw [← hl]; exact HOW3.out.buns)
  have HMP := Lib.hid hl
  clear hl
  have n0 : ¬ nn = 0 := by omega
  have n1 : 0 < nn := by omega
  have n2 : ¬ (nn : Int) = 0 := by omega
  have n3 : (0 : Int) < (nn : Int) := by omega
  obtain ⟨d, hd, hdn0⟩ := mod_nat c n1
  have hd3 : c.tmod (nn : Int) = (d : Int) := by rw [Int.tmod_eq_emod_of_nonneg c0]; exact hd
  have hd2 : (IntKind.i64.wrap c).tmod (nn : Int) = (d : Int) := by rw [show IntKind.i64.wrap c = c by unfold IntKind.wrap; simp [IntKind.signed, IntKind.bits]; omega]; exact hd3
  have d0 : (0 : Int) ≤ (d : Int) := by omega
  have d1 : (d : Int) < (nn : Int) := by omega
  have zg3 : g < w3.heap.size := HOW3.out.lt
  have zg2 : w2.heap.size ≤ g := HOW3.out.ge
  obtain ⟨y, hy⟩ : ∃ y, l[d]? = some y := ⟨_, List.getElem?_eq_getElem (by have := HLL.out; omega)⟩
  have HY := Lib.hid hy
  clear hy
  go_wp2_with fail
  refine (clone_buns l _ _ HBU3.out (by rw [HLL.out]; omega) (by rw [HLL.out]; omega)).mono ?_
  unfold ClonePostB
  rw [HLL.out]
  rintro e w4 ⟨g1, cap1, vs, rfl, hvs, hg1, hov, hb4⟩
  have B4 : Below w.heap.size w w4 := btrans0 B3 hb4
  have y4 : w3.heap.size ≤ w4.heap.size := by have := hb4.size; (try simp at this); omega
  have L0_4 : Below w.heap.size w w4 := btrans0 L0_3 hb4
  have L3_4 : Below w3.heap.size w3 w4 := btrans0 (Below.refl _ _) hb4
  have Xb4 : Hid (w4.heap[w.heap.size]? = some (.cells (bunC b (.slice ba b.blocks.length bc)).toArray 28 (0, 0))) := Lib.hid ((hb4.block _ (by first | omega | (simp; omega))).trans (Xb3.out))
  have zb4 : w.heap.size < w4.heap.size := by omega
  clear cb
  have HVL : Hid (vs.length = nn) := Lib.hid (by rw [← HLL.out, ← hvs, List.length_map])
  have HVS := Lib.hid hvs
  have HV4 := Lib.hid (hov.ownX HVL.out hg1)
  clear hvs hov
  have zg1 : g1 < w4.heap.size := HV4.out.lt
  clear hb4
  have cb := fun o => cellB Xb4.out o
  (try simp only [bunC, parC, zBun, spC, List.cons_append, List.nil_append, List.length_nil] at cb)
  go_wp2_with fail
  refine (del_any vs nn w3.heap.size g1 cap1 d _ HVL.out HV4.out (by omega) (by omega)).mono ?_
  unfold DelBPost
  rintro e w5 ⟨rfl, hox, hb5⟩
  have B5 : Below w.heap.size w w5 := B4.trans (hb5.mono (by omega))
  have L0_5 : Below w.heap.size w w5 := B5
  have L3_5 : Below w3.heap.size w3 w5 := L3_4.trans (hb5.mono hg1)
  have y5 : w4.heap.size ≤ w5.heap.size := hb5.size
  have Xb5 : Hid (w5.heap[w.heap.size]? = some (.cells (bunC b (.slice ba b.blocks.length bc)).toArray 28 (0, 0))) := Lib.hid ((hb5.block _ (by omega)).trans Xb4.out)
  have zb5 : w.heap.size < w5.heap.size := by omega
  clear cb hb5
  obtain ⟨vs2, hv2⟩ : ∃ q, vs.take d ++ vs.drop (d + 1) = q := ⟨_, rfl⟩
  rw [hv2] at hox
  obtain ⟨N, hN⟩ : ∃ q, nn - 1 = q := ⟨_, rfl⟩
  rw [hN] at hox ⊢
  have N1 : 1 ≤ N := by omega
  have N24 : N ≤ 23 := by omega
  have HV2M : Hid (vs2.map (·.1) = without l d) := Lib.hid (by rw [← hv2, List.map_append, List.map_take, List.map_drop, HVS.out]; rfl)
  have HV2L : Hid (vs2.length = N) := Lib.hid (by rw [← hv2, List.length_append, List.length_take, List.length_drop, HVL.out]; omega)
  have HV5 := Lib.hid hox
  clear hox hv2 hN
  obtain ⟨⟨x, ux⟩, rs, hvr⟩ : ∃ a rs, vs2 = a :: rs := by
    cases vs2 with
    | nil => have := HV2L.out; simp at this; omega
    | cons a rs => exact ⟨a, rs, rfl⟩
  subst hvr
  obtain ⟨r, hr⟩ : ∃ q, rs.map (·.1) = q := ⟨_, rfl⟩
  have HW : Hid (without l d = x :: r) := Lib.hid (by rw [← HV2M.out, ← hr]; rfl)
  have HRM := Lib.hid hr
  have HRL : Hid (r.length + 1 = N) := Lib.hid (by rw [← hr, List.length_map, ← HV2L.out]; rfl)
  clear hr
  have HMF := Lib.hid (miss_facts HB0.out HFR3.out HADJ3.out (by rw [HLL.out]; omega) HY.out HW.out)
  have HFX : Hid (FragOf b x) := Lib.hid (HFR3.out x ((without_mem HY.out x).1 (.inl (by rw [HW.out]; simp))))
  have HFY : Hid (FragOf b y) := Lib.hid (HFR3.out y (List.mem_of_getElem? HY.out))
  have hxb : RBlksD w5 (fun q => q < w5.heap.size ∧ q ≠ g1) ux x.blocks := HV5.out.row (List.mem_cons_self ..)
  obtain ⟨ax, nx, rfl, -⟩ := id hxb
  have HXB5 : Hid (RBlks w5 w5.heap.size (.slice ax x.blocks.length nx) x.blocks) := Lib.hid (hxb.to fun q hq => hq.1)
  clear hxb
  have p0 : w5.cell? ⟨g1, 0, none⟩ = some (.int .i64 x.src) := by simpa using HV5.out.cell (i := 0) (d := 0) HV2L.out rfl rfl
  have p1 : w5.cell? ⟨g1, 1, none⟩ = some (.int .i64 x.crt) := by simpa using HV5.out.cell (i := 0) (d := 1) HV2L.out rfl rfl
  have p2 : w5.cell? ⟨g1, 2, none⟩ = some (.int .i64 x.seq) := by simpa using HV5.out.cell (i := 0) (d := 2) HV2L.out rfl rfl
  have p3 : w5.cell? ⟨g1, 3, none⟩ = some (.int .i64 x.off) := by simpa using HV5.out.cell (i := 0) (d := 3) HV2L.out rfl rfl
  have p4 : w5.cell? ⟨g1, 4, none⟩ = some (.int .i64 x.tot) := by simpa using HV5.out.cell (i := 0) (d := 4) HV2L.out rfl rfl
  have p5 : w5.cell? ⟨g1, 5, none⟩ = some (.int .i64 x.dk) := by simpa using HV5.out.cell (i := 0) (d := 5) HV2L.out rfl rfl
  have p6 : w5.cell? ⟨g1, 6, none⟩ = some (.int .i64 x.dn) := by simpa using HV5.out.cell (i := 0) (d := 6) HV2L.out rfl rfl
  have p7 : w5.cell? ⟨g1, 7, none⟩ = some (.int .i64 x.life) := by simpa using HV5.out.cell (i := 0) (d := 7) HV2L.out rfl rfl
  have p8 : w5.cell? ⟨g1, 8, none⟩ = some (.int .i64 x.prio) := by simpa using HV5.out.cell (i := 0) (d := 8) HV2L.out rfl rfl
  have p9 : w5.cell? ⟨g1, 9, none⟩ = some (.int .i64 x.flags) := by simpa using HV5.out.cell (i := 0) (d := 9) HV2L.out rfl rfl
  have p10 : w5.cell? ⟨g1, 10, none⟩ = some (.slice ax x.blocks.length nx) := by simpa using HV5.out.cell (i := 0) (d := 10) HV2L.out rfl rfl
  have p11 : w5.cell? ⟨g1, 11, none⟩ = some (.string (B x.payload)) := by simpa using HV5.out.cell (i := 0) (d := 11) HV2L.out rfl rfl
  have m0_ : (0 : Int) < (N : Int) := by omega
  have m1_ : 0 < N := by omega
  obtain ⟨P0, hP0⟩ : ∃ q, newP x = (q, 0) := ⟨(newP x).1, Prod.ext rfl HMF.out.1⟩
  have HP0 := Lib.hid hP0
  clear hP0
  have cb := fun o => cellB Xb5.out o
  (try simp only [bunC, parC, zBun, spC, List.cons_append, List.nil_append, List.length_nil] at cb)
  go_wp2_with fail
  refine (new_any x _ w5.heap.size _ (Nat.le_refl _) HXB5.out (fits_valid HFX.out.valid)).mono ?_
  rw [HP0.out]
  rintro e w6 ⟨ub, uk, rfl, hrb, hk, hkf, hb6⟩
  have B6 : Below w.heap.size w w6 := btrans0 B5 hb6
  have y6 : w5.heap.size ≤ w6.heap.size := by have := hb6.size; (try simp at this); omega
  have L0_6 : Below w.heap.size w w6 := btrans0 L0_5 hb6
  have L3_6 : Below w3.heap.size w3 w6 := btrans0 L3_5 hb6
  have L5_6 : Below w5.heap.size w5 w6 := btrans0 (Below.refl _ _) hb6
  have Xb6 : Hid (w6.heap[w.heap.size]? = some (.cells (bunC b (.slice ba b.blocks.length bc)).toArray 28 (0, 0))) := Lib.hid ((hb6.block _ (by first | omega | (simp; omega))).trans (Xb5.out))
  have zb6 : w.heap.size < w6.heap.size := by omega
  clear cb
  simp only at hrb hk
  obtain ⟨ua, uc, rfl, -⟩ := id hrb
  obtain ⟨ka, kc, rfl, -⟩ := id hk
  have HRB6 := Lib.hid hrb
  have HK6 := Lib.hid hk
  have HKF6 := Lib.hid hkf
  clear hrb hk hkf p0 p1 p2 p3 p4 p5 p6 p7 p8 p9 p10 p11
  clear hb6
  have cb := fun o => cellB Xb6.out o
  (try simp only [bunC, parC, zBun, spC, List.cons_append, List.nil_append, List.length_nil] at cb)
  simp only [parC, bunC, List.cons_append, List.nil_append]
  go_upto_region 10 with fail
  obtain ⟨w7, hw7⟩ : ∃ q, w6.alloc (.cells (parC P0 (.slice ua P0.head.blocks.length uc) (.slice ka P0.known.length kc)).toArray 45 (0, 0)) = q := ⟨_, rfl⟩
  (try simp only [bunC, parC, zBun, spC, List.cons_append, List.nil_append, List.length_nil] at hw7)
  rw [hw7]
  have y7 : w6.heap.size < w7.heap.size := by rw [← hw7]; simp
  have B7 : Below w.heap.size w w7 := by rw [← hw7]; exact balloc0 B6
  have L0_7 : Below w.heap.size w w7 := by rw [← hw7]; exact balloc0 L0_6
  have L3_7 : Below w3.heap.size w3 w7 := by rw [← hw7]; exact balloc0 L3_6
  have L5_7 : Below w5.heap.size w5 w7 := by rw [← hw7]; exact balloc0 L5_6
  have L6_7 : Below w6.heap.size w6 w7 := by rw [← hw7]; exact balloc0 (Below.refl _ _)
  have Xb7 : Hid (w7.heap[w.heap.size]? = some (.cells (bunC b (.slice ba b.blocks.length bc)).toArray 28 (0, 0))) := Lib.hid (by rw [← hw7]; exact (Below.heap_alloc _ _ _ (by omega)).trans Xb6.out)
  have zb7 : w.heap.size < w7.heap.size := by omega
  have Xm7 : Hid (w7.heap[w6.heap.size]? = some (.cells (parC P0 (.slice ua P0.head.blocks.length uc) (.slice ka P0.known.length kc)).toArray 45 (0, 0))) := Lib.hid (by rw [← hw7]; exact heap_new)
  have zm7 : w6.heap.size < w7.heap.size := by omega
  clear cb
  clear hw7
  have cb := fun o => cellB Xb7.out o
  have cm := fun o => cellB Xm7.out o
  (try simp only [bunC, parC, zBun, spC, List.cons_append, List.nil_append, List.length_nil] at cb cm)
  have HMI7 : Hid (MI w5 w7 w6.heap.size P0 (.slice ua P0.head.blocks.length uc) (.slice ka P0.known.length kc)) := Lib.hid ⟨Xm7.out, HRB6.out.keep (fun q o hD => L6_7.cell (p := ⟨q, o, none⟩) (by show q < w6.heap.size; rcases hD with hD | hD <;> omega)) (fun q hD => by rcases hD with hD | hD <;> omega), HK6.out.below' L6_7, by
    rcases Nat.eq_zero_or_pos P0.known.length with z | z
    · exact .inr (List.eq_nil_of_length_eq_zero z)
    · exact .inl (RNe.bnd HK6.out (Nat.le_refl _) z), by have := newP_fits x; rw [HP0.out] at this; exact this, by omega, L5_7⟩
  have hcp := HV5.out.cap
  unfold maxLen at hcp
  obtain ⟨hc1, hc2⟩ := hcp
  obtain ⟨AO, hAO, hAR⟩ : ∃ AO, (if cap1 = 1 then (some ⟨g1, 0, none⟩ : Option Addr) else some ⟨g1, 12, none⟩) = some ⟨g1, AO, none⟩ ∧ (1 < N → AO = 12) := by
    by_cases hc : cap1 = 1
    · exact ⟨0, by simp [hc], fun z => by omega⟩
    · exact ⟨12, by simp [hc], fun _ => rfl⟩
  have HAR := Lib.hid hAR
  clear hAR
  obtain ⟨M, hM⟩ : ∃ q, N - 1 = q := ⟨_, rfl⟩
  have hMr : r.length = M := by have := HRL.out; omega
  have HMr := Lib.hid hMr
  clear hMr
  have z1N : (1 : Int) ≤ (N : Int) := by omega
  go_upto_region 11 with fail
  (try rw [hM])
  have hMN : M + 1 = N := by omega
  have M24 : M ≤ 23 := by omega
  have HMN := Lib.hid hMN
  clear hM hAO hMN
  clear cb cm
  go_loopw [15, 70] (fun ev iv wr => ∃ (k : Nat) (P : Par) (ub uk : Value), k ≤ M ∧ ev = .int .i64 0 ∧ iv = .int .i64 k ∧ Hid (addAll (r.take k) (newP x) = (P, 0)) ∧ Hid (MI w5 wr w6.heap.size P ub uk) ∧ Below w5.heap.size w5 wr ∧ w7.heap.size ≤ wr.heap.size) (fun _ iv _ => M - (intOf iv).toNat)
  case atStart => exact ⟨0, P0, _, _, Nat.zero_le _, rfl, rfl, Lib.hid (by rw [List.take_zero]; exact HP0.out), HMI7, L5_7, Nat.le_refl _⟩
  case round =>
    obtain ⟨k, P, ub, uk, hk, rfl, rfl, HA, HJ, K8, y8⟩ := hrel
    obtain ⟨w8, rfl⟩ : ∃ q, q = wr := ⟨_, rfl⟩
    obtain ⟨i1, i2, i3, i4, i5, i6, i7⟩ := id HJ.out
    obtain ⟨ua, uc, rfl, -⟩ := id i2
    obtain ⟨ka, kc, rfl, -⟩ := id i3
    have zG : w6.heap.size < w8.heap.size := (Array.getElem?_eq_some_iff.1 i1).1
    have Xm8 := Lib.hid i1
    have HRB8 := Lib.hid i2
    have HK8 := Lib.hid i3
    have HFT := Lib.hid i5
    have B8 : Below w.heap.size w w8 := btrans B5 K8 (by omega)
    clear i1 i2 i3 i4 i5 i6 i7
    by_cases hlt : k < M
    · obtain ⟨⟨z, uz⟩, hz⟩ : ∃ q, rs[k]? = some q := ⟨_, List.getElem?_eq_getElem (by have := HMr.out; rw [← HRM.out, List.length_map] at this; omega)⟩
      have HZ : Hid (r[k]? = some z) := Lib.hid (by rw [← HRM.out, List.getElem?_map, hz]; rfl)
      have hzb : RBlksD w5 (fun q => q < w5.heap.size ∧ q ≠ g1) uz z.blocks := HV5.out.row (List.mem_cons_of_mem _ (List.mem_of_getElem? hz))
      obtain ⟨az, nz, rfl, -⟩ := id hzb
      have HZB8 : Hid (RBlks w8 w5.heap.size (.slice az z.blocks.length nz) z.blocks) := Lib.hid ((hzb.to fun q hq => hq.1).keep (fun q o hq => K8.cell (p := ⟨q, o, none⟩) hq) (Nat.le_refl _))
      have HFZ : Hid (FragOf b z) := Lib.hid (HFR3.out z ((without_mem HY.out z).1 (.inl (by rw [HW.out]; exact List.mem_cons_of_mem _ (List.mem_of_getElem? HZ.out)))))
      have eAO : AO = 12 := HAR.out (by have := HMN.out; omega)
      have zg5 : g1 < w5.heap.size := HV5.out.lt
      have p0 : w8.cell? ⟨g1, AO + k * 12, none⟩ = some (.int .i64 z.src) := by rw [eAO]; exact (K8.cell (p := ⟨g1, 12 + k * 12, none⟩) zg5).trans (by have := HV5.out.cell (i := k + 1) (d := 0) HV2L.out hz rfl; rwa [show (k + 1) * 12 + 0 = 12 + k * 12 by omega] at this)
      have p1 : w8.cell? ⟨g1, AO + k * 12 + 1, none⟩ = some (.int .i64 z.crt) := by rw [eAO]; exact (K8.cell (p := ⟨g1, 12 + k * 12 + 1, none⟩) zg5).trans (by have := HV5.out.cell (i := k + 1) (d := 1) HV2L.out hz rfl; rwa [show (k + 1) * 12 + 1 = 12 + k * 12 + 1 by omega] at this)
      have p2 : w8.cell? ⟨g1, AO + k * 12 + 2, none⟩ = some (.int .i64 z.seq) := by rw [eAO]; exact (K8.cell (p := ⟨g1, 12 + k * 12 + 2, none⟩) zg5).trans (by have := HV5.out.cell (i := k + 1) (d := 2) HV2L.out hz rfl; rwa [show (k + 1) * 12 + 2 = 12 + k * 12 + 2 by omega] at this)
      have p3 : w8.cell? ⟨g1, AO + k * 12 + 3, none⟩ = some (.int .i64 z.off) := by rw [eAO]; exact (K8.cell (p := ⟨g1, 12 + k * 12 + 3, none⟩) zg5).trans (by have := HV5.out.cell (i := k + 1) (d := 3) HV2L.out hz rfl; rwa [show (k + 1) * 12 + 3 = 12 + k * 12 + 3 by omega] at this)
      have p4 : w8.cell? ⟨g1, AO + k * 12 + 4, none⟩ = some (.int .i64 z.tot) := by rw [eAO]; exact (K8.cell (p := ⟨g1, 12 + k * 12 + 4, none⟩) zg5).trans (by have := HV5.out.cell (i := k + 1) (d := 4) HV2L.out hz rfl; rwa [show (k + 1) * 12 + 4 = 12 + k * 12 + 4 by omega] at this)
      have p5 : w8.cell? ⟨g1, AO + k * 12 + 5, none⟩ = some (.int .i64 z.dk) := by rw [eAO]; exact (K8.cell (p := ⟨g1, 12 + k * 12 + 5, none⟩) zg5).trans (by have := HV5.out.cell (i := k + 1) (d := 5) HV2L.out hz rfl; rwa [show (k + 1) * 12 + 5 = 12 + k * 12 + 5 by omega] at this)
      have p6 : w8.cell? ⟨g1, AO + k * 12 + 6, none⟩ = some (.int .i64 z.dn) := by rw [eAO]; exact (K8.cell (p := ⟨g1, 12 + k * 12 + 6, none⟩) zg5).trans (by have := HV5.out.cell (i := k + 1) (d := 6) HV2L.out hz rfl; rwa [show (k + 1) * 12 + 6 = 12 + k * 12 + 6 by omega] at this)
      have p7 : w8.cell? ⟨g1, AO + k * 12 + 7, none⟩ = some (.int .i64 z.life) := by rw [eAO]; exact (K8.cell (p := ⟨g1, 12 + k * 12 + 7, none⟩) zg5).trans (by have := HV5.out.cell (i := k + 1) (d := 7) HV2L.out hz rfl; rwa [show (k + 1) * 12 + 7 = 12 + k * 12 + 7 by omega] at this)
      have p8 : w8.cell? ⟨g1, AO + k * 12 + 8, none⟩ = some (.int .i64 z.prio) := by rw [eAO]; exact (K8.cell (p := ⟨g1, 12 + k * 12 + 8, none⟩) zg5).trans (by have := HV5.out.cell (i := k + 1) (d := 8) HV2L.out hz rfl; rwa [show (k + 1) * 12 + 8 = 12 + k * 12 + 8 by omega] at this)
      have p9 : w8.cell? ⟨g1, AO + k * 12 + 9, none⟩ = some (.int .i64 z.flags) := by rw [eAO]; exact (K8.cell (p := ⟨g1, 12 + k * 12 + 9, none⟩) zg5).trans (by have := HV5.out.cell (i := k + 1) (d := 9) HV2L.out hz rfl; rwa [show (k + 1) * 12 + 9 = 12 + k * 12 + 9 by omega] at this)
      have p10 : w8.cell? ⟨g1, AO + k * 12 + 10, none⟩ = some (.slice az z.blocks.length nz) := by rw [eAO]; exact (K8.cell (p := ⟨g1, 12 + k * 12 + 10, none⟩) zg5).trans (by have := HV5.out.cell (i := k + 1) (d := 10) HV2L.out hz rfl; rwa [show (k + 1) * 12 + 10 = 12 + k * 12 + 10 by omega] at this)
      have p11 : w8.cell? ⟨g1, AO + k * 12 + 11, none⟩ = some (.string (B z.payload)) := by rw [eAO]; exact (K8.cell (p := ⟨g1, 12 + k * 12 + 11, none⟩) zg5).trans (by have := HV5.out.cell (i := k + 1) (d := 11) HV2L.out hz rfl; rwa [show (k + 1) * 12 + 11 = 12 + k * 12 + 11 by omega] at this)
      clear hz hzb eAO
      have k0 : (0 : Int) ≤ (k : Int) := by omega
      have k1 : (k : Int) < (M : Int) := by omega
      obtain ⟨Q, hQ⟩ : ∃ q, addP P z = (q, 0) := ⟨(addP P z).1, Prod.ext rfl (by have e := HMF.out.2.1 (k + 1) (by rw [HMr.out]; omega); rw [List.take_add_one, HZ.out, Option.toList_some, addAll_snoc (by rw [HA.out]), HA.out] at e; exact e)⟩
      have HA2 : Hid (addAll (r.take (k + 1)) (newP x) = (Q, 0)) := Lib.hid (by rw [List.take_add_one, HZ.out, Option.toList_some, addAll_snoc (by rw [HA.out]), HA.out]; exact hQ)
      have HF2 : Hid (Fits Q.head ∧ Q.data.length ≤ maxLen) := Lib.hid (by have := addP_fits P z; rw [hQ] at this; exact this)
      have HQ := Lib.hid hQ
      clear hQ
      have L0_8 : Below w.heap.size w w8 := B8
      have zm8 : w6.heap.size < w8.heap.size := zG
      have cm := fun o => cellB Xm8.out o
      (try simp only [bunC, parC, zBun, spC, List.cons_append, List.nil_append, List.length_nil] at cm)
      go_upto_region 13 with fail
      obtain ⟨w9, hw9⟩ : ∃ q, w8.alloc (.cells (bunC z (.slice az z.blocks.length nz)).toArray 28 (0, 0)) = q := ⟨_, rfl⟩
      (try simp only [bunC, parC, zBun, spC, List.cons_append, List.nil_append, List.length_nil] at hw9)
      rw [hw9]
      have y9 : w8.heap.size < w9.heap.size := by rw [← hw9]; simp
      have B9 : Below w.heap.size w w9 := by rw [← hw9]; exact balloc0 B8
      have L0_9 : Below w.heap.size w w9 := by rw [← hw9]; exact balloc0 L0_8
      have L8_9 : Below w8.heap.size w8 w9 := by rw [← hw9]; exact balloc0 (Below.refl _ _)
      have Xm9 : Hid (w9.heap[w6.heap.size]? = some (.cells (parC P (.slice ua P.head.blocks.length uc) (.slice ka P.known.length kc)).toArray 45 (0, 0))) := Lib.hid (by rw [← hw9]; exact (Below.heap_alloc _ _ _ (by omega)).trans Xm8.out)
      have zm9 : w6.heap.size < w9.heap.size := by omega
      have Xz9 : Hid (w9.heap[w8.heap.size]? = some (.cells (bunC z (.slice az z.blocks.length nz)).toArray 28 (0, 0))) := Lib.hid (by rw [← hw9]; exact heap_new)
      have zz9 : w8.heap.size < w9.heap.size := by omega
      clear cm
      clear hw9
      have cm := fun o => cellB Xm9.out o
      have cz := fun o => cellB Xz9.out o
      (try simp only [bunC, parC, zBun, spC, List.cons_append, List.nil_append, List.length_nil] at cm cz)
      clear p0 p1 p2 p3 p4 p5 p6 p7 p8 p9 p10 p11
      have HRB9 : Hid (RBlksD w9 (fun q => q < w6.heap.size) (.slice ua P.head.blocks.length uc) P.head.blocks) := Lib.hid (HRB8.out.keep (fun q o hq => L8_9.cell (p := ⟨q, o, none⟩) (by show q < w8.heap.size; have hq : q < w6.heap.size := hq; omega)) (fun _ h => h))
      have HZB9 : Hid (RBlks w9 w6.heap.size (.slice az z.blocks.length nz) z.blocks) := Lib.hid (HZB8.out.keep (fun q o hq => L8_9.cell (p := ⟨q, o, none⟩) (by show q < w8.heap.size; omega)) (by omega))
      have HK9 := Lib.hid (HK8.out.below' L8_9)
      go_wp2_with fail
      refine (add_any P z _ _ _ w6.heap.size _ (by omega) (HRB9.out.to fun q hq => hq) HK9.out HZB9.out HFT.out.1 HFT.out.2 (fits_valid HFZ.out.valid)).mono ?_
      rw [HQ.out]
      rintro e w10 ⟨ub2, uk2, rfl, hpick, hrb, hkn, hkf, hb10⟩
      simp only at hrb hkn
      obtain ⟨ua2, uc2, rfl, -⟩ := id hrb
      obtain ⟨ka2, kc2, rfl, -⟩ := id hkn
      simp only [parC, bunC, List.cons_append, List.nil_append]
      have G10 : Hid (w10.heap[w6.heap.size]? = some (.cells (parC P (.slice ua P.head.blocks.length uc) (.slice ka P.known.length kc)).toArray 45 (0, 0))) := Lib.hid ((hb10.block _ (by omega)).trans Xm9.out)
      have K10 : Below w8.heap.size w8 w10 := btrans0 L8_9 hb10
      have z10 : w6.heap.size < w10.heap.size := by have := hb10.size; omega
      have HNE := Lib.hid (RNe.from (g := w6.heap.size) hkf (by omega))
      have HRB10 := Lib.hid hrb
      have HK10 := Lib.hid hkn
      clear hpick hrb hkn hkf hb10 cm cz
      have cg := fun o => cellB G10.out o
      (try simp only [bunC, parC, zBun, spC, List.cons_append, List.nil_append, List.length_nil] at cg)
      have fg := fun o => frozenB G10.out o
      (try simp only [bunC, parC, zBun, spC, List.cons_append, List.nil_append, List.length_nil] at fg)
      have HX7 : Hid (∀ W : World, W.heap[w6.heap.size]? = some (.cells #[.int .i64 Q.head.src, .int .i64 Q.head.crt, .int .i64 Q.head.seq, .int .i64 Q.head.off, .int .i64 Q.head.tot, .int .i64 Q.head.dk, .int .i64 Q.head.dn, .int .i64 Q.head.life, .int .i64 Q.head.prio, .int .i64 Q.head.flags, .slice ua2 Q.head.blocks.length uc2, .string (B Q.head.payload), .slice ka2 Q.known.length kc2, .string (B Q.data)] 45 (0, 0)) → (∀ B, B ≤ w6.heap.size → Below B w10 W) → W.heap.size = w10.heap.size → (∀ q, q ≠ w6.heap.size → W.heap[q]? = w10.heap[q]?) → Hid (MI w5 W w6.heap.size Q (.slice ua2 Q.head.blocks.length uc2) (.slice ka2 Q.known.length kc2) ∧ w7.heap.size ≤ W.heap.size)) := Lib.hid (fun W hW hbW hsW hoW => Lib.hid ⟨MI.step HJ.out K10 (RBlksD.of HRB10.out) HK10.out HNE.out HF2.out hW hbW hsW hoW, by have := K10.size; omega⟩)
      go_wp2_with (refine wpList_store_block rfl 45 _ _ rfl w6.heap.size #[.int .i64 Q.head.src, .int .i64 Q.head.crt, .int .i64 Q.head.seq, .int .i64 Q.head.off, .int .i64 Q.head.tot, .int .i64 Q.head.dk, .int .i64 Q.head.dn, .int .i64 Q.head.life, .int .i64 Q.head.prio, .int .i64 Q.head.flags, .slice ua2 Q.head.blocks.length uc2, .string (B Q.head.payload), .slice ka2 Q.known.length kc2, .string (B Q.data)] _ 45 rfl rfl G10.out rfl (by kernel_rfl) (by simp [Value.oneCell']) ?_; intro W hW hbW hsW hoW; have H7 := HX7.out W hW hbW hsW hoW; clear hW hbW hsW hoW cg fg HX7)
      go_roundw
      case rel => exact ⟨k + 1, Q, _, _, hlt, rfl, by go_num, HA2, Lib.hid H7.out.1, H7.out.1.2.2.2.2.2.2, H7.out.2⟩
      case measure => simp [intOf]; omega
    · have hkM0 : k = M := by omega
      have hkM := Lib.hid hkM0
      clear hkM0
      have HAF : Hid (addAll r (newP x) = (P, 0)) := Lib.hid (by have h := HA.out; rwa [List.take_of_length_le (by have := HMr.out; omega)] at h)
      clear HA
      have hgeI : ¬ (k : Int) < (M : Int) := by omega
      have HMS : Hid (missP P = ([(y.off, y.off + y.payload.length)], 0)) := Lib.hid (by have h := HMF.out.2.2.1; rw [HAF.out] at h; exact h)
      obtain ⟨Zb, hZb⟩ : ∃ q, zBun = q := ⟨_, rfl⟩
      have HALL : Hid (allP (x :: r) = (Zb, 25)) := Lib.hid (by rw [← hZb]; exact HMF.out.2.2.2.1)
      obtain ⟨Q, hQ⟩ : ∃ q, addP P y = (q, 0) := ⟨(addP P y).1, Prod.ext rfl (by have h := HMF.out.2.2.2.2.1; rw [HAF.out] at h; exact h)⟩
      have HRS : Hid (resP Q = (b, 0)) := Lib.hid (by have h := HMF.out.2.2.2.2.2; rw [HAF.out] at h; rw [hQ] at h; exact h)
      have HF2 : Hid (Fits Q.head ∧ Q.data.length ≤ maxLen) := Lib.hid (by have := addP_fits P y; rw [hQ] at this; exact this)
      have HQ := Lib.hid hQ
      clear hQ hZb
      obtain ⟨⟨y0, uy⟩, hyu⟩ : ∃ q, us[d]? = some q := ⟨_, List.getElem?_eq_getElem (by have := HUL3.out; omega)⟩
      have ey : y0 = y := by
        have e := HY.out
        rw [← HMP.out, List.getElem?_map, hyu] at e
        simpa using e
      subst ey
      have hyb : RBlksD w3 (fun q => q < w3.heap.size ∧ q ≠ g) uy y0.blocks := HOW3.out.row (List.mem_of_getElem? hyu)
      obtain ⟨ay, ny, rfl, -⟩ := id hyb
      have HYB3 : Hid (RBlks w3 w3.heap.size (.slice ay y0.blocks.length ny) y0.blocks) := Lib.hid (hyb.to fun q hq => hq.1)
      have q0 : w3.cell? ⟨g, d * 12, none⟩ = some (.int .i64 y0.src) := HOW3.out.cell (d := 0) HUL3.out hyu rfl
      have q1 : w3.cell? ⟨g, d * 12 + 1, none⟩ = some (.int .i64 y0.crt) := HOW3.out.cell (d := 1) HUL3.out hyu rfl
      have q2 : w3.cell? ⟨g, d * 12 + 2, none⟩ = some (.int .i64 y0.seq) := HOW3.out.cell (d := 2) HUL3.out hyu rfl
      have q3 : w3.cell? ⟨g, d * 12 + 3, none⟩ = some (.int .i64 y0.off) := HOW3.out.cell (d := 3) HUL3.out hyu rfl
      have q4 : w3.cell? ⟨g, d * 12 + 4, none⟩ = some (.int .i64 y0.tot) := HOW3.out.cell (d := 4) HUL3.out hyu rfl
      have q5 : w3.cell? ⟨g, d * 12 + 5, none⟩ = some (.int .i64 y0.dk) := HOW3.out.cell (d := 5) HUL3.out hyu rfl
      have q6 : w3.cell? ⟨g, d * 12 + 6, none⟩ = some (.int .i64 y0.dn) := HOW3.out.cell (d := 6) HUL3.out hyu rfl
      have q7 : w3.cell? ⟨g, d * 12 + 7, none⟩ = some (.int .i64 y0.life) := HOW3.out.cell (d := 7) HUL3.out hyu rfl
      have q8 : w3.cell? ⟨g, d * 12 + 8, none⟩ = some (.int .i64 y0.prio) := HOW3.out.cell (d := 8) HUL3.out hyu rfl
      have q9 : w3.cell? ⟨g, d * 12 + 9, none⟩ = some (.int .i64 y0.flags) := HOW3.out.cell (d := 9) HUL3.out hyu rfl
      have q10 : w3.cell? ⟨g, d * 12 + 10, none⟩ = some (.slice ay y0.blocks.length ny) := HOW3.out.cell (d := 10) HUL3.out hyu rfl
      have q11 : w3.cell? ⟨g, d * 12 + 11, none⟩ = some (.string (B y0.payload)) := HOW3.out.cell (d := 11) HUL3.out hyu rfl
      clear hyu hyb
      have L0_8 : Below w.heap.size w w8 := B8
      have L5_8 : Below w5.heap.size w5 w8 := K8
      have L3_8 : Below w3.heap.size w3 w8 := btrans L3_5 K8 (by omega)
      have L8_8 : Below w8.heap.size w8 w8 := Below.refl _ _
      have Xb8 : Hid (w8.heap[w.heap.size]? = some (.cells (bunC b (.slice ba b.blocks.length bc)).toArray 28 (0, 0))) := Lib.hid ((K8.block _ (by omega)).trans Xb5.out)
      have zb8 : w.heap.size < w8.heap.size := by omega
      have zm8 : w6.heap.size < w8.heap.size := zG
      have HBm8 : Hid (RBlks w8 w8.heap.size (.slice ua P.head.blocks.length uc) P.head.blocks) := Lib.hid (HRB8.out.to fun q hq => by have hq : q < w6.heap.size := hq; omega)
      have HVB5 : Hid (RBuns w5 w5.heap.size (.slice (some ⟨g1, 0, none⟩) N cap1) (x :: r)) := Lib.hid (by have h := HV5.out.buns; rw [List.map_cons, HRM.out] at h; exact h)
      have HFA : Hid (∀ z ∈ x :: r, Fits z) := Lib.hid (fun z hz => (HFR3.out z ((without_mem HY.out z).1 (.inl (by rw [HW.out]; exact hz)))).fits HF.out)
      have HSR : Hid (spanR y0 = (y0.off, y0.off + y0.payload.length, 0)) := Lib.hid (by unfold spanR; rw [if_neg (by rw [HFY.out.valid]; simp)])
      have zg8 : g < w8.heap.size := by omega
      have cb := fun o => cellB Xb8.out o
      have cm := fun o => cellB Xm8.out o
      (try simp only [bunC, parC, zBun, spC, List.cons_append, List.nil_append, List.length_nil] at cb cm)
      go_wp2_with fail
      refine (miss_any P _ _ _ (HBm8.out.below' (Below.refl _ _)) (HK8.out.below' (Below.refl _ _)) HFT.out.1 HFT.out.2).mono ?_
      unfold SpsPostF
      rw [HMS.out]
      rintro e w9 ⟨um, rfl, hm, hmf, hb9⟩
      have B9 : Below w.heap.size w w9 := btrans0 B8 hb9
      have y9 : w8.heap.size ≤ w9.heap.size := by have := hb9.size; (try simp at this); omega
      have L0_9 : Below w.heap.size w w9 := btrans0 L0_8 hb9
      have L3_9 : Below w3.heap.size w3 w9 := btrans0 L3_8 hb9
      have L5_9 : Below w5.heap.size w5 w9 := btrans0 L5_8 hb9
      have L8_9 : Below w8.heap.size w8 w9 := btrans0 (Below.refl _ _) hb9
      have Xb9 : Hid (w9.heap[w.heap.size]? = some (.cells (bunC b (.slice ba b.blocks.length bc)).toArray 28 (0, 0))) := Lib.hid ((hb9.block _ (by first | omega | (simp; omega))).trans (Xb8.out))
      have zb9 : w.heap.size < w9.heap.size := by omega
      have Xm9 : Hid (w9.heap[w6.heap.size]? = some (.cells (parC P (.slice ua P.head.blocks.length uc) (.slice ka P.known.length kc)).toArray 45 (0, 0))) := Lib.hid ((hb9.block _ (by first | omega | (simp; omega))).trans (Xm8.out))
      have zm9 : w6.heap.size < w9.heap.size := by omega
      clear cb cm
      simp only at hm
      obtain ⟨am, nm, rfl, -⟩ := id hm
      have HM9 := Lib.hid hm
      have HMN := Lib.hid (RNe.from (g := w6.heap.size) hmf (by omega))
      clear hm hmf
      clear hb9
      have cb := fun o => cellB Xb9.out o
      have cm := fun o => cellB Xm9.out o
      (try simp only [bunC, parC, zBun, spC, List.cons_append, List.nil_append, List.length_nil] at cb cm)
      go_wp2_with fail
      refine (all_any (x :: r) _ _ (HVB5.out.below' (L5_9)) HFA.out).mono ?_
      unfold AllPost
      rw [HALL.out]
      rintro e w10 ⟨uz, rfl, hz, hb10⟩
      have B10 : Below w.heap.size w w10 := btrans0 B9 hb10
      have y10 : w9.heap.size ≤ w10.heap.size := by have := hb10.size; (try simp at this); omega
      have L0_10 : Below w.heap.size w w10 := btrans0 L0_9 hb10
      have L3_10 : Below w3.heap.size w3 w10 := btrans0 L3_9 hb10
      have L5_10 : Below w5.heap.size w5 w10 := btrans0 L5_9 hb10
      have L8_10 : Below w8.heap.size w8 w10 := btrans0 L8_9 hb10
      have L9_10 : Below w9.heap.size w9 w10 := btrans0 (Below.refl _ _) hb10
      have Xb10 : Hid (w10.heap[w.heap.size]? = some (.cells (bunC b (.slice ba b.blocks.length bc)).toArray 28 (0, 0))) := Lib.hid ((hb10.block _ (by first | omega | (simp; omega))).trans (Xb9.out))
      have zb10 : w.heap.size < w10.heap.size := by omega
      have Xm10 : Hid (w10.heap[w6.heap.size]? = some (.cells (parC P (.slice ua P.head.blocks.length uc) (.slice ka P.known.length kc)).toArray 45 (0, 0))) := Lib.hid ((hb10.block _ (by first | omega | (simp; omega))).trans (Xm9.out))
      have zm10 : w6.heap.size < w10.heap.size := by omega
      clear cb cm
      simp only at hz
      obtain ⟨az, nz, rfl, -⟩ := id hz
      clear hz
      clear hb10
      have cb := fun o => cellB Xb10.out o
      have cm := fun o => cellB Xm10.out o
      (try simp only [bunC, parC, zBun, spC, List.cons_append, List.nil_append, List.length_nil] at cb cm)
      simp only [bunC]
      go_upto_region 18 with fail
      obtain ⟨w11, hw11⟩ : ∃ q, w10.alloc (.cells (bunC Zb (.slice az Zb.blocks.length nz)).toArray 28 (0, 0)) = q := ⟨_, rfl⟩
      (try simp only [bunC, parC, zBun, spC, List.cons_append, List.nil_append, List.length_nil] at hw11)
      rw [hw11]
      have y11 : w10.heap.size < w11.heap.size := by rw [← hw11]; simp
      have B11 : Below w.heap.size w w11 := by rw [← hw11]; exact balloc0 B10
      have L0_11 : Below w.heap.size w w11 := by rw [← hw11]; exact balloc0 L0_10
      have L3_11 : Below w3.heap.size w3 w11 := by rw [← hw11]; exact balloc0 L3_10
      have L5_11 : Below w5.heap.size w5 w11 := by rw [← hw11]; exact balloc0 L5_10
      have L8_11 : Below w8.heap.size w8 w11 := by rw [← hw11]; exact balloc0 L8_10
      have L9_11 : Below w9.heap.size w9 w11 := by rw [← hw11]; exact balloc0 L9_10
      have Xb11 : Hid (w11.heap[w.heap.size]? = some (.cells (bunC b (.slice ba b.blocks.length bc)).toArray 28 (0, 0))) := Lib.hid (by rw [← hw11]; exact (Below.heap_alloc _ _ _ (by omega)).trans Xb10.out)
      have zb11 : w.heap.size < w11.heap.size := by omega
      have Xm11 : Hid (w11.heap[w6.heap.size]? = some (.cells (parC P (.slice ua P.head.blocks.length uc) (.slice ka P.known.length kc)).toArray 45 (0, 0))) := Lib.hid (by rw [← hw11]; exact (Below.heap_alloc _ _ _ (by omega)).trans Xm10.out)
      have zm11 : w6.heap.size < w11.heap.size := by omega
      have Xa11 : Hid (w11.heap[w10.heap.size]? = some (.cells (bunC Zb (.slice az Zb.blocks.length nz)).toArray 28 (0, 0))) := Lib.hid (by rw [← hw11]; exact heap_new)
      have za11 : w10.heap.size < w11.heap.size := by omega
      clear cb cm
      clear hw11
      have cb := fun o => cellB Xb11.out o
      have cm := fun o => cellB Xm11.out o
      have ca := fun o => cellB Xa11.out o
      (try simp only [bunC, parC, zBun, spC, List.cons_append, List.nil_append, List.length_nil] at cb cm ca)
      have r0 : w11.cell? ⟨g, d * 12, none⟩ = some (.int .i64 y0.src) := (L3_11.cell (p := ⟨g, d * 12, none⟩) zg3).trans q0
      have r1 : w11.cell? ⟨g, d * 12 + 1, none⟩ = some (.int .i64 y0.crt) := (L3_11.cell (p := ⟨g, d * 12 + 1, none⟩) zg3).trans q1
      have r2 : w11.cell? ⟨g, d * 12 + 2, none⟩ = some (.int .i64 y0.seq) := (L3_11.cell (p := ⟨g, d * 12 + 2, none⟩) zg3).trans q2
      have r3 : w11.cell? ⟨g, d * 12 + 3, none⟩ = some (.int .i64 y0.off) := (L3_11.cell (p := ⟨g, d * 12 + 3, none⟩) zg3).trans q3
      have r4 : w11.cell? ⟨g, d * 12 + 4, none⟩ = some (.int .i64 y0.tot) := (L3_11.cell (p := ⟨g, d * 12 + 4, none⟩) zg3).trans q4
      have r5 : w11.cell? ⟨g, d * 12 + 5, none⟩ = some (.int .i64 y0.dk) := (L3_11.cell (p := ⟨g, d * 12 + 5, none⟩) zg3).trans q5
      have r6 : w11.cell? ⟨g, d * 12 + 6, none⟩ = some (.int .i64 y0.dn) := (L3_11.cell (p := ⟨g, d * 12 + 6, none⟩) zg3).trans q6
      have r7 : w11.cell? ⟨g, d * 12 + 7, none⟩ = some (.int .i64 y0.life) := (L3_11.cell (p := ⟨g, d * 12 + 7, none⟩) zg3).trans q7
      have r8 : w11.cell? ⟨g, d * 12 + 8, none⟩ = some (.int .i64 y0.prio) := (L3_11.cell (p := ⟨g, d * 12 + 8, none⟩) zg3).trans q8
      have r9 : w11.cell? ⟨g, d * 12 + 9, none⟩ = some (.int .i64 y0.flags) := (L3_11.cell (p := ⟨g, d * 12 + 9, none⟩) zg3).trans q9
      have r10 : w11.cell? ⟨g, d * 12 + 10, none⟩ = some (.slice ay y0.blocks.length ny) := (L3_11.cell (p := ⟨g, d * 12 + 10, none⟩) zg3).trans q10
      have r11 : w11.cell? ⟨g, d * 12 + 11, none⟩ = some (.string (B y0.payload)) := (L3_11.cell (p := ⟨g, d * 12 + 11, none⟩) zg3).trans q11
      go_wp2_with fail
      refine (spanr_any y0 _ _ (HYB3.out.below' (L3_11)) (fits_valid HFY.out.valid)).mono ?_
      rw [HSR.out]
      rintro e w12 ⟨rfl, hb12⟩
      have B12 : Below w.heap.size w w12 := btrans0 B11 hb12
      have y12 : w11.heap.size ≤ w12.heap.size := by have := hb12.size; (try simp at this); omega
      have L0_12 : Below w.heap.size w w12 := btrans0 L0_11 hb12
      have L3_12 : Below w3.heap.size w3 w12 := btrans0 L3_11 hb12
      have L5_12 : Below w5.heap.size w5 w12 := btrans0 L5_11 hb12
      have L8_12 : Below w8.heap.size w8 w12 := btrans0 L8_11 hb12
      have L9_12 : Below w9.heap.size w9 w12 := btrans0 L9_11 hb12
      have Xb12 : Hid (w12.heap[w.heap.size]? = some (.cells (bunC b (.slice ba b.blocks.length bc)).toArray 28 (0, 0))) := Lib.hid ((hb12.block _ (by first | omega | (simp; omega))).trans (Xb11.out))
      have zb12 : w.heap.size < w12.heap.size := by omega
      have Xm12 : Hid (w12.heap[w6.heap.size]? = some (.cells (parC P (.slice ua P.head.blocks.length uc) (.slice ka P.known.length kc)).toArray 45 (0, 0))) := Lib.hid ((hb12.block _ (by first | omega | (simp; omega))).trans (Xm11.out))
      have zm12 : w6.heap.size < w12.heap.size := by omega
      have Xa12 : Hid (w12.heap[w10.heap.size]? = some (.cells (bunC Zb (.slice az Zb.blocks.length nz)).toArray 28 (0, 0))) := Lib.hid ((hb12.block _ (by first | omega | (simp; omega))).trans (Xa11.out))
      have za12 : w10.heap.size < w12.heap.size := by omega
      clear cb cm ca
      clear r0 r1 r2 r3 r4 r5 r6 r7 r8 r9 r10 r11
      clear hb12
      have cb := fun o => cellB Xb12.out o
      have cm := fun o => cellB Xm12.out o
      have ca := fun o => cellB Xa12.out o
      (try simp only [bunC, parC, zBun, spC, List.cons_append, List.nil_append, List.length_nil] at cb cm ca)
      go_upto_region 19 with fail
      obtain ⟨w13, hw13⟩ : ∃ q, w12.alloc (.cells #[.int .i64 y0.off, .int .i64 (y0.off + y0.payload.length)] 52 (0, 0)) = q := ⟨_, rfl⟩
      (try simp only [bunC, parC, zBun, spC, List.cons_append, List.nil_append, List.length_nil] at hw13)
      rw [hw13]
      have y13 : w12.heap.size < w13.heap.size := by rw [← hw13]; simp
      have B13 : Below w.heap.size w w13 := by rw [← hw13]; exact balloc0 B12
      have L0_13 : Below w.heap.size w w13 := by rw [← hw13]; exact balloc0 L0_12
      have L3_13 : Below w3.heap.size w3 w13 := by rw [← hw13]; exact balloc0 L3_12
      have L5_13 : Below w5.heap.size w5 w13 := by rw [← hw13]; exact balloc0 L5_12
      have L8_13 : Below w8.heap.size w8 w13 := by rw [← hw13]; exact balloc0 L8_12
      have L9_13 : Below w9.heap.size w9 w13 := by rw [← hw13]; exact balloc0 L9_12
      have Xb13 : Hid (w13.heap[w.heap.size]? = some (.cells (bunC b (.slice ba b.blocks.length bc)).toArray 28 (0, 0))) := Lib.hid (by rw [← hw13]; exact (Below.heap_alloc _ _ _ (by omega)).trans Xb12.out)
      have zb13 : w.heap.size < w13.heap.size := by omega
      have Xm13 : Hid (w13.heap[w6.heap.size]? = some (.cells (parC P (.slice ua P.head.blocks.length uc) (.slice ka P.known.length kc)).toArray 45 (0, 0))) := Lib.hid (by rw [← hw13]; exact (Below.heap_alloc _ _ _ (by omega)).trans Xm12.out)
      have zm13 : w6.heap.size < w13.heap.size := by omega
      have Xa13 : Hid (w13.heap[w10.heap.size]? = some (.cells (bunC Zb (.slice az Zb.blocks.length nz)).toArray 28 (0, 0))) := Lib.hid (by rw [← hw13]; exact (Below.heap_alloc _ _ _ (by omega)).trans Xa12.out)
      have za13 : w10.heap.size < w13.heap.size := by omega
      have Xs13 : Hid (w13.heap[w12.heap.size]? = some (.cells #[.int .i64 y0.off, .int .i64 (y0.off + y0.payload.length)] 52 (0, 0))) := Lib.hid (by rw [← hw13]; exact heap_new)
      have zs13 : w12.heap.size < w13.heap.size := by omega
      clear cb cm ca
      clear hw13
      have cb := fun o => cellB Xb13.out o
      have cm := fun o => cellB Xm13.out o
      have ca := fun o => cellB Xa13.out o
      have cs := fun o => cellB Xs13.out o
      (try simp only [bunC, parC, zBun, spC, List.cons_append, List.nil_append, List.length_nil] at cb cm ca cs)
      have r0 : w13.cell? ⟨g, d * 12, none⟩ = some (.int .i64 y0.src) := (L3_13.cell (p := ⟨g, d * 12, none⟩) zg3).trans q0
      have r1 : w13.cell? ⟨g, d * 12 + 1, none⟩ = some (.int .i64 y0.crt) := (L3_13.cell (p := ⟨g, d * 12 + 1, none⟩) zg3).trans q1
      have r2 : w13.cell? ⟨g, d * 12 + 2, none⟩ = some (.int .i64 y0.seq) := (L3_13.cell (p := ⟨g, d * 12 + 2, none⟩) zg3).trans q2
      have r3 : w13.cell? ⟨g, d * 12 + 3, none⟩ = some (.int .i64 y0.off) := (L3_13.cell (p := ⟨g, d * 12 + 3, none⟩) zg3).trans q3
      have r4 : w13.cell? ⟨g, d * 12 + 4, none⟩ = some (.int .i64 y0.tot) := (L3_13.cell (p := ⟨g, d * 12 + 4, none⟩) zg3).trans q4
      have r5 : w13.cell? ⟨g, d * 12 + 5, none⟩ = some (.int .i64 y0.dk) := (L3_13.cell (p := ⟨g, d * 12 + 5, none⟩) zg3).trans q5
      have r6 : w13.cell? ⟨g, d * 12 + 6, none⟩ = some (.int .i64 y0.dn) := (L3_13.cell (p := ⟨g, d * 12 + 6, none⟩) zg3).trans q6
      have r7 : w13.cell? ⟨g, d * 12 + 7, none⟩ = some (.int .i64 y0.life) := (L3_13.cell (p := ⟨g, d * 12 + 7, none⟩) zg3).trans q7
      have r8 : w13.cell? ⟨g, d * 12 + 8, none⟩ = some (.int .i64 y0.prio) := (L3_13.cell (p := ⟨g, d * 12 + 8, none⟩) zg3).trans q8
      have r9 : w13.cell? ⟨g, d * 12 + 9, none⟩ = some (.int .i64 y0.flags) := (L3_13.cell (p := ⟨g, d * 12 + 9, none⟩) zg3).trans q9
      have r10 : w13.cell? ⟨g, d * 12 + 10, none⟩ = some (.slice ay y0.blocks.length ny) := (L3_13.cell (p := ⟨g, d * 12 + 10, none⟩) zg3).trans q10
      have r11 : w13.cell? ⟨g, d * 12 + 11, none⟩ = some (.string (B y0.payload)) := (L3_13.cell (p := ⟨g, d * 12 + 11, none⟩) zg3).trans q11
      have zgn : g < w13.heap.size := by omega
      refine wp_region_plan (fun V => Below w13.heap.size w13 V) [1, 0, 0, 0, 1, 3, 0, 0, 0, 3, 0] [0, 1, 2, 3, 4, 5, 6, 7, 8, 9, 10] (by kernel_rfl) (by kernel_rfl) ?_ ?_
      case refine_1 => exact belowA
      (iterate 5 (first | (refine plan_held rfl (by decide) (by rfl) (fun w1 hS => by (try (obtain ⟨_, _⟩ := bcell (hS rfl))); go_simp; rfl) ?_; simp only [Act.put, List.setIfInBounds_toArray, List.set_cons_zero, List.set_cons_succ]) | (refine plan_skip rfl (by decide) (by rfl) ?_; simp only [Act.put, List.setIfInBounds_toArray, List.set_cons_zero, List.set_cons_succ])))
      (refine plan_late rfl rfl (by rfl) (fun K hK => ?_); go_simp)
      refine (add_any P y0 _ _ _ w13.drew.heap.size _ (Nat.le_refl _) (HBm8.out.below' (bdrew L8_13)) (HK8.out.below' (bdrew L8_13)) (HYB3.out.below' (bdrew L3_13)) HFT.out.1 HFT.out.2 (fits_valid HFY.out.valid)).mono ?_
      rw [HQ.out]
      rintro e wc ⟨ub2, uk2, rfl, hpick, hrb, hkn, hkf, hbc⟩
      simp only at hrb hkn
      obtain ⟨ua2, uc2, rfl, -⟩ := id hrb
      obtain ⟨ka2, kc2, rfl, -⟩ := id hkn
      simp only [parC, bunC, List.cons_append, List.nil_append]
      have Kc : Below w13.heap.size w13 wc := btrans0 (bdrew (Below.refl _ _)) hbc
      have zc : w13.heap.size ≤ wc.heap.size := Kc.size
      have Gc : Hid (wc.heap[w6.heap.size]? = some (.cells (parC P (.slice ua P.head.blocks.length uc) (.slice ka P.known.length kc)).toArray 45 (0, 0))) := Lib.hid ((Kc.block _ (by omega)).trans Xm13.out)
      have HNE : Hid (RNe w6.heap.size (.slice ka2 Q.known.length kc2)) := Lib.hid (RNe.from hkf (by show w6.heap.size < w13.heap.size; omega))
      have HRBc : Hid (RBlksD wc (fun q => q < w6.heap.size) (.slice ua2 Q.head.blocks.length uc2) Q.head.blocks) := Lib.hid (rblks_pick hpick hrb (HRB8.out.keep (w' := w13.drew) (fun q o hq => L8_13.cell (p := ⟨q, o, none⟩) (by show q < w8.heap.size; have hq : q < w6.heap.size := hq; omega)) (fun _ h => h)) ((RBlksD.of HYB3.out).keep (w' := w13.drew) (fun q o hq => L3_13.cell (p := ⟨q, o, none⟩) hq) (fun q hq => by show q < w6.heap.size; have hq : q < w3.heap.size := hq; omega)))
      have HKNc := Lib.hid hkn
      clear hpick hrb hkn hkf hbc
      (refine hK _ _ ?_; clear hK K; (try simp only [Act.put, List.setIfInBounds_toArray, List.set_cons_zero, List.set_cons_succ]))
      (iterate 3 (first | (refine plan_held rfl (by decide) (by rfl) (fun w1 hS => by (try (obtain ⟨_, _⟩ := bcell (hS rfl))); go_simp; rfl) ?_; simp only [Act.put, List.setIfInBounds_toArray, List.set_cons_zero, List.set_cons_succ]) | (refine plan_skip rfl (by decide) (by rfl) ?_; simp only [Act.put, List.setIfInBounds_toArray, List.set_cons_zero, List.set_cons_succ])))
      refine plan_late rfl rfl (by rfl) (fun K hK => ?_)
      refine wp_store_block 45 _ _ rfl w6.heap.size #[.int .i64 Q.head.src, .int .i64 Q.head.crt, .int .i64 Q.head.seq, .int .i64 Q.head.off, .int .i64 Q.head.tot, .int .i64 Q.head.dk, .int .i64 Q.head.dn, .int .i64 Q.head.life, .int .i64 Q.head.prio, .int .i64 Q.head.flags, .slice ua2 Q.head.blocks.length uc2, .string (B Q.head.payload), .slice ka2 Q.known.length kc2, .string (B Q.data)] _ 45 rfl rfl Gc.out rfl (by kernel_rfl) (by simp [Value.oneCell']) ?_
      intro W hW hbW hsW hoW
      refine hK _ _ ?_
      clear hK K
      simp only [Act.put, List.setIfInBounds_toArray, List.set_cons_zero, List.set_cons_succ]
      obtain ⟨w20, rfl⟩ : ∃ q, q = W := ⟨_, rfl⟩
      have LC : Below w.heap.size w wc := btrans0 B13 Kc
      have B20 : Below w.heap.size w w20 := LC.trans (hbW _ (by omega))
      have y20 : w13.heap.size ≤ w20.heap.size := by omega
      have Xb20 : Hid (w20.heap[w.heap.size]? = some (.cells (bunC b (.slice ba b.blocks.length bc)).toArray 28 (0, 0))) := Lib.hid (((hbW _ (Nat.le_refl _)).block _ (by omega)).trans ((Kc.block _ (by omega)).trans Xb13.out))
      have Xs20 : Hid (w20.heap[w12.heap.size]? = some (.cells #[.int .i64 y0.off, .int .i64 (y0.off + y0.payload.length)] 52 (0, 0))) := Lib.hid ((hoW _ (by omega)).trans ((Kc.block _ (by omega)).trans Xs13.out))
      have Xm20 : Hid (w20.heap[w6.heap.size]? = some (.cells (parC Q (.slice ua2 Q.head.blocks.length uc2) (.slice ka2 Q.known.length kc2)).toArray 45 (0, 0))) := Lib.hid hW
      have zb20 : w.heap.size < w20.heap.size := by omega
      have zs20 : w12.heap.size < w20.heap.size := by omega
      have zm20 : w6.heap.size < w20.heap.size := by omega
      have HRF20 : Hid (RBlks w20 w20.heap.size (.slice ba b.blocks.length bc) b.blocks) := Lib.hid (HR0.out.below (C := w.heap.size) B20 (Nat.le_refl _) (by omega))
      have HMF20 : Hid (RSps w20 w20.heap.size _ _) := Lib.hid (RSps.keepNe (HM9.out.below' (btrans0 L9_13 Kc)) HMN.out hoW (by omega))
      have HBQ20 : Hid (RBlks w20 w20.heap.size (.slice ua2 Q.head.blocks.length uc2) Q.head.blocks) := Lib.hid ((HRBc.out.keep (fun q o hq => World.cell?_of_block (hoW q (by have hq : q < w6.heap.size := hq; omega))) (fun _ h => h) : RBlksD w20 (fun q => q < w6.heap.size) _ _).to fun q hq => by have hq : q < w6.heap.size := hq; omega)
      have HKQ20 : Hid (RSps w20 w20.heap.size (.slice ka2 Q.known.length kc2) Q.known) := Lib.hid (HKNc.out.keepNe HNE.out hoW (by omega))
      clear hW hbW hsW hoW cb cm ca cs r0 r1 r2 r3 r4 r5 r6 r7 r8 r9 r10 r11
      (iterate 1 (first | (refine plan_held rfl (by decide) (by rfl) (fun w1 hS => by (try (obtain ⟨_, _⟩ := bcell (hS rfl))); go_simp; rfl) ?_; simp only [Act.put, List.setIfInBounds_toArray, List.set_cons_zero, List.set_cons_succ]) | (refine plan_skip rfl (by decide) (by rfl) ?_; simp only [Act.put, List.setIfInBounds_toArray, List.set_cons_zero, List.set_cons_succ])))
      refine plan_done ?_
      as_aux_lemma =>
        have cb := fun o => cellB Xb20.out o
        have cs := fun o => cellB Xs20.out o
        have cm := fun o => cellB Xm20.out o
        (try simp only [bunC, parC, zBun, spC, List.cons_append, List.nil_append, List.length_nil] at cb cs cm)
        go_wp2_with fail
        refine (res_any Q _ _ w20.heap.size _ (Nat.le_refl _) (HBQ20.out.below' (Below.refl _ _)) (HKQ20.out.below' (Below.refl _ _)) HF2.out.1 HF2.out.2).mono ?_
        unfold ResPost
        rw [HRS.out]
        rintro e w21 ⟨ur, rfl, -, hz2, hb21⟩
        have B21 : Below w.heap.size w w21 := btrans0 B20 hb21
        have y21 : w20.heap.size ≤ w21.heap.size := by have := hb21.size; (try simp at this); omega
        have L20_21 : Below w20.heap.size w20 w21 := btrans0 (Below.refl _ _) hb21
        have Xb21 : Hid (w21.heap[w.heap.size]? = some (.cells (bunC b (.slice ba b.blocks.length bc)).toArray 28 (0, 0))) := Lib.hid ((hb21.block _ (by first | omega | (simp; omega))).trans (Xb20.out))
        have zb21 : w.heap.size < w21.heap.size := by omega
        have Xs21 : Hid (w21.heap[w12.heap.size]? = some (.cells #[.int .i64 y0.off, .int .i64 (y0.off + y0.payload.length)] 52 (0, 0))) := Lib.hid ((hb21.block _ (by first | omega | (simp; omega))).trans (Xs20.out))
        have zs21 : w12.heap.size < w21.heap.size := by omega
        have Xm21 : Hid (w21.heap[w6.heap.size]? = some (.cells (parC Q (.slice ua2 Q.head.blocks.length uc2) (.slice ka2 Q.known.length kc2)).toArray 45 (0, 0))) := Lib.hid ((hb21.block _ (by first | omega | (simp; omega))).trans (Xm20.out))
        have zm21 : w6.heap.size < w21.heap.size := by omega
        clear cb cs cm
        simp only at hz2
        obtain ⟨ar, nr, rfl, -⟩ := id hz2
        have HZR21 : Hid (RBlks w21 w21.heap.size (.slice ar b.blocks.length nr) b.blocks) := Lib.hid (hz2.wide (by omega))
        clear hz2
        clear hb21
        have cb := fun o => cellB Xb21.out o
        have cs := fun o => cellB Xs21.out o
        have cm := fun o => cellB Xm21.out o
        (try simp only [bunC, parC, zBun, spC, List.cons_append, List.nil_append, List.length_nil] at cb cs cm)
        simp only [bunC]
        go_upto_region 21 with fail
        obtain ⟨w22, hw22⟩ : ∃ q, w21.alloc (.cells (bunC b (.slice ar b.blocks.length nr)).toArray 28 (0, 0)) = q := ⟨_, rfl⟩
        (try simp only [bunC, parC, zBun, spC, List.cons_append, List.nil_append, List.length_nil] at hw22)
        rw [hw22]
        have y22 : w21.heap.size < w22.heap.size := by rw [← hw22]; simp
        have B22 : Below w.heap.size w w22 := by rw [← hw22]; exact balloc0 B21
        have L20_22 : Below w20.heap.size w20 w22 := by rw [← hw22]; exact balloc0 L20_21
        have L21_22 : Below w21.heap.size w21 w22 := by rw [← hw22]; exact balloc0 (Below.refl _ _)
        have Xb22 : Hid (w22.heap[w.heap.size]? = some (.cells (bunC b (.slice ba b.blocks.length bc)).toArray 28 (0, 0))) := Lib.hid (by rw [← hw22]; exact (Below.heap_alloc _ _ _ (by omega)).trans Xb21.out)
        have zb22 : w.heap.size < w22.heap.size := by omega
        have Xs22 : Hid (w22.heap[w12.heap.size]? = some (.cells #[.int .i64 y0.off, .int .i64 (y0.off + y0.payload.length)] 52 (0, 0))) := Lib.hid (by rw [← hw22]; exact (Below.heap_alloc _ _ _ (by omega)).trans Xs21.out)
        have zs22 : w12.heap.size < w22.heap.size := by omega
        have Xm22 : Hid (w22.heap[w6.heap.size]? = some (.cells (parC Q (.slice ua2 Q.head.blocks.length uc2) (.slice ka2 Q.known.length kc2)).toArray 45 (0, 0))) := Lib.hid (by rw [← hw22]; exact (Below.heap_alloc _ _ _ (by omega)).trans Xm21.out)
        have zm22 : w6.heap.size < w22.heap.size := by omega
        have Xr22 : Hid (w22.heap[w21.heap.size]? = some (.cells (bunC b (.slice ar b.blocks.length nr)).toArray 28 (0, 0))) := Lib.hid (by rw [← hw22]; exact heap_new)
        have zr22 : w21.heap.size < w22.heap.size := by omega
        clear cb cs cm
        clear hw22
        have cb := fun o => cellB Xb22.out o
        have cs := fun o => cellB Xs22.out o
        have cm := fun o => cellB Xm22.out o
        have cr := fun o => cellB Xr22.out o
        (try simp only [bunC, parC, zBun, spC, List.cons_append, List.nil_append, List.length_nil] at cb cs cm cr)
        go_wp2_with fail
        refine (eqSp_any [(y0.off, y0.off + y0.payload.length)] _ _ _ (HMF20.out.below' (balloc0 (L20_22))) (RSps.one heap_new rfl)).mono ?_
        rintro e w23 ⟨rfl, hb23⟩
        have B23 : Below w.heap.size w w23 := btrans0 (balloc0 B22) hb23
        have y23 : w22.heap.size ≤ w23.heap.size := by have := hb23.size; (try simp at this); omega
        have L20_23 : Below w20.heap.size w20 w23 := btrans0 (balloc0 L20_22) hb23
        have L21_23 : Below w21.heap.size w21 w23 := btrans0 (balloc0 L21_22) hb23
        have Xb23 : Hid (w23.heap[w.heap.size]? = some (.cells (bunC b (.slice ba b.blocks.length bc)).toArray 28 (0, 0))) := Lib.hid ((hb23.block _ (by first | omega | (simp; omega))).trans ((Below.heap_alloc _ _ _ (by first | omega | (simp; omega))).trans (Xb22.out)))
        have zb23 : w.heap.size < w23.heap.size := by omega
        have Xs23 : Hid (w23.heap[w12.heap.size]? = some (.cells #[.int .i64 y0.off, .int .i64 (y0.off + y0.payload.length)] 52 (0, 0))) := Lib.hid ((hb23.block _ (by first | omega | (simp; omega))).trans ((Below.heap_alloc _ _ _ (by first | omega | (simp; omega))).trans (Xs22.out)))
        have zs23 : w12.heap.size < w23.heap.size := by omega
        have Xm23 : Hid (w23.heap[w6.heap.size]? = some (.cells (parC Q (.slice ua2 Q.head.blocks.length uc2) (.slice ka2 Q.known.length kc2)).toArray 45 (0, 0))) := Lib.hid ((hb23.block _ (by first | omega | (simp; omega))).trans ((Below.heap_alloc _ _ _ (by first | omega | (simp; omega))).trans (Xm22.out)))
        have zm23 : w6.heap.size < w23.heap.size := by omega
        have Xr23 : Hid (w23.heap[w21.heap.size]? = some (.cells (bunC b (.slice ar b.blocks.length nr)).toArray 28 (0, 0))) := Lib.hid ((hb23.block _ (by first | omega | (simp; omega))).trans ((Below.heap_alloc _ _ _ (by first | omega | (simp; omega))).trans (Xr22.out)))
        have zr23 : w21.heap.size < w23.heap.size := by omega
        clear cb cs cm cr
        clear hb23
        have cb := fun o => cellB Xb23.out o
        have cs := fun o => cellB Xs23.out o
        have cm := fun o => cellB Xm23.out o
        have cr := fun o => cellB Xr23.out o
        (try simp only [bunC, parC, zBun, spC, List.cons_append, List.nil_append, List.length_nil] at cb cs cm cr)
        go_wp2_with fail
        refine (bsame_any b _ _ _ (HZR21.out.below' (L21_23)) (HRF20.out.below' (L20_23))).mono ?_
        rintro e w24 ⟨rfl, hb24⟩
        have B24 : Below w.heap.size w w24 := btrans0 B23 hb24
        have y24 : w23.heap.size ≤ w24.heap.size := by have := hb24.size; (try simp at this); omega
        have L20_24 : Below w20.heap.size w20 w24 := btrans0 L20_23 hb24
        have L21_24 : Below w21.heap.size w21 w24 := btrans0 L21_23 hb24
        have Xb24 : Hid (w24.heap[w.heap.size]? = some (.cells (bunC b (.slice ba b.blocks.length bc)).toArray 28 (0, 0))) := Lib.hid ((hb24.block _ (by first | omega | (simp; omega))).trans (Xb23.out))
        have zb24 : w.heap.size < w24.heap.size := by omega
        have Xs24 : Hid (w24.heap[w12.heap.size]? = some (.cells #[.int .i64 y0.off, .int .i64 (y0.off + y0.payload.length)] 52 (0, 0))) := Lib.hid ((hb24.block _ (by first | omega | (simp; omega))).trans (Xs23.out))
        have zs24 : w12.heap.size < w24.heap.size := by omega
        have Xm24 : Hid (w24.heap[w6.heap.size]? = some (.cells (parC Q (.slice ua2 Q.head.blocks.length uc2) (.slice ka2 Q.known.length kc2)).toArray 45 (0, 0))) := Lib.hid ((hb24.block _ (by first | omega | (simp; omega))).trans (Xm23.out))
        have zm24 : w6.heap.size < w24.heap.size := by omega
        have Xr24 : Hid (w24.heap[w21.heap.size]? = some (.cells (bunC b (.slice ar b.blocks.length nr)).toArray 28 (0, 0))) := Lib.hid ((hb24.block _ (by first | omega | (simp; omega))).trans (Xr23.out))
        have zr24 : w21.heap.size < w24.heap.size := by omega
        clear cb cs cm cr
        clear hb24
        have cb := fun o => cellB Xb24.out o
        have cs := fun o => cellB Xs24.out o
        have cm := fun o => cellB Xm24.out o
        have cr := fun o => cellB Xr24.out o
        (try simp only [bunC, parC, zBun, spC, List.cons_append, List.nil_append, List.length_nil] at cb cs cm cr)
        go_wp2_with fail
        refine (awake30 _).mono ?_
        rintro e w99 ⟨rfl, hb99⟩
        go_wp2
        go_ret
        exact ⟨rfl, belowA⟩
end Go.Proofs.YthlbddcllikolaaGreat
