/- TopFragmentsSent, TopFragmentsMissing: top30Parts (printed by gen/g30.py) -/
import Derived.Deep.CutBlock
import Derived.Deep.DeepCutAuto
import Derived.Test.YthlbddcllikolaaGreatHa
import Derived.Test.YthlbddcllikolaaGreatJs
import Derived.Test.YthlbddcllikolaaGreatJq
import Derived.Test.YthlbddcllikolaaGreatJr
set_option linter.unusedVariables false
set_option linter.unusedSimpArgs false
namespace Go.Proofs.YthlbddcllikolaaGreat
open Go Go.RowKit Go.Shelf Iv
attribute [local go_sem] B_getElem B_size B_app B_extract B_get B_toList
attribute [local go_sem] Oper.semAt_some
/-- what top30Parts gives -/
def PartsPost (b : Bun) (w : World) (e : Ending) (w' : World) : Prop := ∃ us v, e = .returned (.tuple #[v, .bool true]) ∧ OwnX w' w.heap.size v us ∧ 2 ≤ us.length ∧ us.length ≤ 24 ∧ (∀ z ∈ us.map (·.1), FragOf b z) ∧ Adj 0 (us.map (·.1)) (b.payload.length : Int) ∧ Below w.heap.size w w'
set_option maxRecDepth 100000 in
set_option maxHeartbeats 16000000 in
theorem parts_any (b : Bun) (u : Value) (m t : Int) (w : World) (hr : RBlks w w.heap.size u b.blocks) (hf : Fits b) (hb : Big b m) (m2 : m ≤ 256) (t0 : 0 ≤ t) (t1 : t < 65536) :
    Calls Tryz.prog 7 #[.agg (bunC b u).toArray, .int .i64 m, .int .u16 t] w (PartsPost b w) := by
  obtain ⟨ba, bc, rfl, -⟩ := id hr
  have HR0 := Lib.hid hr
  have HF := Lib.hid hf
  have HB := Lib.hid hb
  have m1 := hb.m1
  clear hr hf hb
  obtain ⟨l, hl, hlf, hla, l2, l12⟩ := split_big HB.out
  have HL := Lib.hid hl
  have HLF := Lib.hid hlf
  have HLA := Lib.hid hla
  clear hl hlf hla
  go_enter Tryz.func7, Tryz.ntmps7
  simp only [bunC]
  go_upto_region 1 with fail
  obtain ⟨w1, hw1⟩ : ∃ q, (w.alloc (.cells (bunC b (.slice ba b.blocks.length bc)).toArray 28 (0, 0))) = q := ⟨_, rfl⟩
  simp only [bunC, List.cons_append, List.nil_append, List.length_nil] at hw1
  rw [hw1]
  have y1 : w.heap.size < w1.heap.size := by rw [← hw1]; first | (simp; done) | (simp; omega)
  have B1 : Below w.heap.size w w1 := by rw [← hw1]; exact balloc0 (Below.refl _ _)
  have L0_1 : Below w.heap.size w w1 := B1
  have Xb1 : Hid (w1.heap[w.heap.size]? = some (.cells (bunC b (.slice ba b.blocks.length bc)).toArray 28 (0, 0))) := Lib.hid (by rw [← hw1]; exact heap_new)
  have zb1 : w.heap.size < w1.heap.size := by rw [← hw1]; first | (simp; done) | (simp; omega)
  clear hw1
  have cb := fun o => cellB Xb1.out o
  (try simp only [bunC, List.cons_append, List.nil_append, List.length_nil] at cb)
  go_wp2_with fail
  refine (split_any b _ m w.heap.size _ B1.size (HR0.out.below (C := w.heap.size) B1 (Nat.le_refl _) (Nat.le_refl _)) HF.out).mono ?_
  rw [HL.out]
  rintro e w2 ⟨v, rfl, hou, hb2⟩
  have B2 : Below w.heap.size w w2 := btrans0 B1 hb2
  have y2 : w1.heap.size ≤ w2.heap.size := by have := hb2.size; (try simp at this); omega
  have L0_2 : Below w.heap.size w w2 := btrans0 L0_1 hb2
  have Xb2 : Hid (w2.heap[w.heap.size]? = some (.cells (bunC b (.slice ba b.blocks.length bc)).toArray 28 (0, 0))) := Lib.hid ((hb2.block _ (by first | omega | (simp; omega))).trans (Xb1.out))
  have zb2 : w.heap.size < w2.heap.size := by omega
  clear cb
  simp only at hou
  obtain ⟨gl, cl, ls, rfl, hls, hpr⟩ := hou.prow (by omega)
  have HLS := Lib.hid hls
  have HPR : Hid (PRow w2 (fun q => q < w.heap.size ∨ (w1.heap.size ≤ q ∧ q < w2.heap.size)) gl ls) := Lib.hid hpr
  clear hou hls hpr
  clear hb2
  have cb := fun o => cellB Xb2.out o
  (try simp only [bunC, List.cons_append, List.nil_append, List.length_nil] at cb)
  clear cb
  go_upto_region 4 with fail
  go_loopw [30, 10] (fun iv ov wr => ∃ (k : Nat) (us : List BV) (p : Int), k ≤ l.length ∧ iv = .int .i64 k ∧ Hid (OwnX wr w2.heap.size ov us) ∧ Hid (k ≤ us.length ∧ us.length ≤ 2 * k ∧ (∀ z ∈ us.map (·.1), FragOf b z) ∧ Adj 0 (us.map (·.1)) p ∧ Adj p (l.drop k) (b.payload.length : Int)) ∧ Below w2.heap.size w2 wr) (fun iv _ _ => l.length - (intOf iv).toNat)
  case atStart => exact ⟨0, [], 0, Nat.zero_le _, rfl, Lib.hid ⟨World.ownsRow_nil _ _ _ _, fun r hr => (by cases hr)⟩, Lib.hid ⟨Nat.zero_le _, Nat.le_refl _, fun z hz => (by cases hz), rfl, by rw [List.drop_zero]; exact HLA.out⟩, Below.refl _ _⟩
  case round =>
    obtain ⟨k, us, p, hk, rfl, HOW, HPI, K3⟩ := hrel
    obtain ⟨w3, rfl⟩ : ∃ q, q = wr := ⟨_, rfl⟩
    have B3 : Below w.heap.size w w3 := btrans B2 K3 (by omega)
    have y3 : w2.heap.size ≤ w3.heap.size := K3.size
    by_cases hlt : k < l.length
    · obtain ⟨x, hx⟩ : ∃ x, l[k]? = some x := ⟨_, List.getElem?_eq_getElem hlt⟩
      obtain ⟨⟨x0, ux⟩, hrx⟩ : ∃ r, ls[k]? = some r := ⟨_, List.getElem?_eq_getElem (by have := congrArg List.length HLS.out; rw [List.length_map] at this; omega)⟩
      have ex : x0 = x := by have e := congrArg (fun q => q[k]?) HLS.out; simp only [List.getElem?_map, hrx, hx, Option.map_some, Option.some.injEq] at e; exact e
      subst ex
      have HPC : PRow w3 (fun q => q < w.heap.size ∨ (w1.heap.size ≤ q ∧ q < w2.heap.size)) gl ls := HPR.out.keep (fun q o hq => K3.cell (p := ⟨q, o, none⟩) (by show q < w2.heap.size; rcases hq with hq | hq <;> omega))
      have hcell := HPC.2.1 k _ hrx
      have hbx := HPC.2.2 _ (List.mem_of_getElem? hrx)
      simp only at hcell hbx
      obtain ⟨ax, nx, rfl, -⟩ := id hbx
      have HBD : Hid (RBlks w3 w2.heap.size (.slice ax x0.blocks.length nx) x0.blocks) := Lib.hid (hbx.to fun q hq => by rcases hq with hq | hq <;> omega)
      have HBX3 : Hid (RBlks w3 w3.heap.size (.slice ax x0.blocks.length nx) x0.blocks) := Lib.hid (HBD.out.keep (fun _ _ _ => rfl) y3)
      have HFX : Hid (FragOf b x0) := Lib.hid (HLF.out _ (List.mem_of_getElem? hx))
      have HDR : Hid (l.drop k = x0 :: l.drop (k + 1)) := Lib.hid (drop_cons hx)
      have p0 : w3.cell? ⟨gl, k * 12, none⟩ = some (.int .i64 x0.src) := hcell 0 _ rfl
      have p1 : w3.cell? ⟨gl, k * 12 + 1, none⟩ = some (.int .i64 x0.crt) := hcell 1 _ rfl
      have p2 : w3.cell? ⟨gl, k * 12 + 2, none⟩ = some (.int .i64 x0.seq) := hcell 2 _ rfl
      have p3 : w3.cell? ⟨gl, k * 12 + 3, none⟩ = some (.int .i64 x0.off) := hcell 3 _ rfl
      have p4 : w3.cell? ⟨gl, k * 12 + 4, none⟩ = some (.int .i64 x0.tot) := hcell 4 _ rfl
      have p5 : w3.cell? ⟨gl, k * 12 + 5, none⟩ = some (.int .i64 x0.dk) := hcell 5 _ rfl
      have p6 : w3.cell? ⟨gl, k * 12 + 6, none⟩ = some (.int .i64 x0.dn) := hcell 6 _ rfl
      have p7 : w3.cell? ⟨gl, k * 12 + 7, none⟩ = some (.int .i64 x0.life) := hcell 7 _ rfl
      have p8 : w3.cell? ⟨gl, k * 12 + 8, none⟩ = some (.int .i64 x0.prio) := hcell 8 _ rfl
      have p9 : w3.cell? ⟨gl, k * 12 + 9, none⟩ = some (.int .i64 x0.flags) := hcell 9 _ rfl
      have p10 : w3.cell? ⟨gl, k * 12 + 10, none⟩ = some (.slice ax x0.blocks.length nx) := hcell 10 _ rfl
      have p11 : w3.cell? ⟨gl, k * 12 + 11, none⟩ = some (.string (B x0.payload)) := hcell 11 _ rfl
      clear hcell hbx HPC hrx hx
      have i0 : (0 : Int) ≤ (k : Int) := by omega
      have i1 : (k : Int) < (l.length : Int) := by omega
      go_upto_region 6 with fail
      obtain ⟨w4, hw4⟩ : ∃ q, w3.alloc (.cells (bunC x0 (.slice ax x0.blocks.length nx)).toArray 28 (0, 0)) = q := ⟨_, rfl⟩
      (try simp only [bunC, List.cons_append, List.nil_append, List.length_nil] at hw4)
      rw [hw4]
      have y4 : w3.heap.size < w4.heap.size := by rw [← hw4]; simp
      have B4 : Below w.heap.size w w4 := by rw [← hw4]; exact balloc0 B3
      have L3_4 : Below w3.heap.size w3 w4 := by rw [← hw4]; exact balloc0 (Below.refl _ _)
      have Xx4 : Hid (w4.heap[w3.heap.size]? = some (.cells (bunC x0 (.slice ax x0.blocks.length nx)).toArray 28 (0, 0))) := Lib.hid (by rw [← hw4]; exact heap_new)
      have zx4 : w3.heap.size < w4.heap.size := by omega
      clear hw4
      have cx := fun o => cellB Xx4.out o
      (try simp only [bunC, List.cons_append, List.nil_append, List.length_nil] at cx)
      clear p0 p1 p2 p3 p4 p5 p6 p7 p8 p9 p10 p11
      go_upto_region 7 with fail
      obtain ⟨w5, hw5⟩ : ∃ q, w4.alloc (.cells (bunC x0 (.slice ax x0.blocks.length nx)).toArray 28 (0, 0)) = q := ⟨_, rfl⟩
      (try simp only [bunC, List.cons_append, List.nil_append, List.length_nil] at hw5)
      rw [hw5]
      have y5 : w4.heap.size < w5.heap.size := by rw [← hw5]; simp
      have B5 : Below w.heap.size w w5 := by rw [← hw5]; exact balloc0 B4
      have L3_5 : Below w3.heap.size w3 w5 := by rw [← hw5]; exact balloc0 L3_4
      have Xx5 : Hid (w5.heap[w3.heap.size]? = some (.cells (bunC x0 (.slice ax x0.blocks.length nx)).toArray 28 (0, 0))) := Lib.hid (by rw [← hw5]; exact (Below.heap_alloc _ _ _ (by omega)).trans Xx4.out)
      have zx5 : w3.heap.size < w5.heap.size := by omega
      have Xp_5 : Hid (w5.heap[w4.heap.size]? = some (.cells (bunC x0 (.slice ax x0.blocks.length nx)).toArray 28 (0, 0))) := Lib.hid (by rw [← hw5]; exact heap_new)
      have zp_5 : w4.heap.size < w5.heap.size := by omega
      clear cx
      clear hw5
      have cx := fun o => cellB Xx5.out o
      have cp_ := fun o => cellB Xp_5.out o
      (try simp only [bunC, List.cons_append, List.nil_append, List.length_nil] at cx cp_)
      go_cut [48] (fun s48 wx => w5 = wx ∧ ∃ f : Bool, s48 = .bool f ∧ (f = true → 2 ≤ x0.payload.length))
      case first =>
        by_cases c2 : 2 ≤ x0.payload.length
        · have c2i : (2 : Int) ≤ (x0.payload.length : Int) := by omega
          have d2 : decide ((2 : Int) ≤ (x0.payload.length : Int)) = true := decide_eq_true c2i
          go_wp2_with fail
          all_goals (go_meet; exact ⟨rfl, _, rfl, fun _ => c2⟩)
        · have c2i : ¬ (2 : Int) ≤ (x0.payload.length : Int) := by omega
          have d2 : decide ((2 : Int) ≤ (x0.payload.length : Int)) = false := decide_eq_false c2i
          go_wp2_with fail
          all_goals (go_meet; refine ⟨rfl, _, rfl, fun hq => ?_⟩; first | (exfalso; simp at hq; omega) | (exfalso; simp_all; done) | (exfalso; simp at hq; contradiction))
      case rest =>
        obtain ⟨rfl, f, rfl, hf2⟩ := hcut
        go_upto_if 48 with fail
        go_cut [13] (fun s13 wx => ∃ (gp cp : Nat) (rs : List BV), s13 = .slice (some ⟨gp, 0, none⟩) rs.length cp ∧ Hid (PRow wx (fun q => q < w2.heap.size ∨ (w3.heap.size ≤ q ∧ q < wx.heap.size)) gp rs) ∧ Hid ((∀ z ∈ rs.map (·.1), FragOf b z) ∧ Adj x0.off (rs.map (·.1)) (x0.off + x0.payload.length)) ∧ 1 ≤ rs.length ∧ rs.length ≤ 2 ∧ Below w3.heap.size w3 wx)
        case first =>
          cases f with
          | false =>
            go_wp2_with fail
            go_meet
            refine ⟨_, _, [(x0, (.slice ax x0.blocks.length nx))], rfl, Lib.hid (PRow.one Xp_5.out (.inr ⟨by omega, by omega⟩) ((RBlksD.of HBD.out).keep (fun q o hq => L3_5.cell (p := ⟨q, o, none⟩) (by show q < w3.heap.size; have hq : q < w2.heap.size := hq; omega)) (fun q hq => .inl hq))), Lib.hid ⟨fun z hz => ?_, ⟨rfl, rfl⟩⟩, Nat.le_refl _, by simp, L3_5⟩
            simp at hz
            subst hz
            exact HFX.out
          | true =>
            obtain ⟨l2_, hl2, hlf2, hla2, hl22⟩ := pieces_two HFX.out (hf2 rfl)
            have HL2 := Lib.hid hl2
            clear hl2 hf2
            go_wp2_with fail
            refine (pieces_any x0 _ 2 w2.heap.size _ (by omega) (HBD.out.keep (fun q o hq => L3_5.cell (p := ⟨q, o, none⟩) (by show q < w3.heap.size; omega)) (Nat.le_refl _)) (fits_valid HFX.out.valid)).mono ?_
            rw [HL2.out]
            rintro e w6 ⟨v2, rfl, hou, hb6⟩
            have B6 : Below w.heap.size w w6 := btrans0 B5 hb6
            have y6 : w5.heap.size ≤ w6.heap.size := by have := hb6.size; (try simp at this); omega
            have L3_6 : Below w3.heap.size w3 w6 := btrans0 L3_5 hb6
            have Xx6 : Hid (w6.heap[w3.heap.size]? = some (.cells (bunC x0 (.slice ax x0.blocks.length nx)).toArray 28 (0, 0))) := Lib.hid ((hb6.block _ (by first | omega | (simp; omega))).trans (Xx5.out))
            have zx6 : w3.heap.size < w6.heap.size := by omega
            have Xp_6 : Hid (w6.heap[w4.heap.size]? = some (.cells (bunC x0 (.slice ax x0.blocks.length nx)).toArray 28 (0, 0))) := Lib.hid ((hb6.block _ (by first | omega | (simp; omega))).trans (Xp_5.out))
            have zp_6 : w4.heap.size < w6.heap.size := by omega
            clear cx cp_
            simp only at hou
            obtain ⟨gp, cp, rs, rfl, hrs, hpr⟩ := hou.prow (by omega)
            clear hb6
            have cx := fun o => cellB Xx6.out o
            have cp_ := fun o => cellB Xp_6.out o
            (try simp only [bunC, List.cons_append, List.nil_append, List.length_nil] at cx cp_)
            have hr2 : rs.length = 2 := by have := congrArg List.length hrs; rw [List.length_map] at this; omega
            have hl2r : l2_.length = rs.length := by omega
            rw [hl2r]
            clear hou
            have HRS := Lib.hid hrs
            clear hrs hl2r hl22 cx cp_
            have HLF2 := Lib.hid hlf2
            have HLA2 := Lib.hid hla2
            have HR2 := Lib.hid hr2
            have HPR2 := Lib.hid hpr
            clear hlf2 hla2 hr2 hpr
            go_wp2_with fail
            go_meet
            refine ⟨_, _, rs, rfl, Lib.hid (HPR2.out.to fun q hq => hq.imp id fun z => ⟨by omega, z.2⟩), Lib.hid ?_, by have := HR2.out; omega, by have := HR2.out; omega, L3_6⟩
            rw [HRS.out]
            exact ⟨HLF2.out, HLA2.out⟩
        case rest =>
          obtain ⟨gp, cp, rs, rfl, HPR6, HRS, r1, r2, K6⟩ := hcut
          obtain ⟨w6, rfl⟩ : ∃ q, q = wc := ⟨_, rfl⟩
          have y6 : w3.heap.size ≤ w6.heap.size := K6.size
          clear hf2
          obtain ⟨h1, h2, h3, h4, h5⟩ := HPI.out
          rw [HDR.out] at h5
          have H3 := Lib.hid h3
          have H4 := Lib.hid h4
          have H5 := Lib.hid h5
          have hul : us.length ≤ 24 := by omega
          clear h3 h4 h5
          go_upto_region 13 with fail
          go_loopw [59, 10] (fun jv ov wr => ∃ (j : Nat) (vs : List BV) (e : Int), j ≤ rs.length ∧ jv = .int .i64 j ∧ Hid (OwnX wr w2.heap.size ov vs) ∧ Hid (vs.length = us.length + j ∧ (∀ z ∈ vs.map (·.1), FragOf b z) ∧ Adj 0 (vs.map (·.1)) e ∧ Adj e ((rs.map (·.1)).drop j) (x0.off + x0.payload.length)) ∧ Hid (PRow wr (fun q => q < w2.heap.size ∨ (w3.heap.size ≤ q ∧ q < w6.heap.size)) gp rs) ∧ Hid (∀ q, ov.ownBlock = some q → w2.heap.size ≤ q ∧ (q < w3.heap.size ∨ w6.heap.size ≤ q)) ∧ Below w2.heap.size w2 wr ∧ w6.heap.size ≤ wr.heap.size) (fun jv _ _ => rs.length - (intOf jv).toNat)
          case atStart => exact ⟨0, us, p, Nat.zero_le _, rfl, Lib.hid (HOW.out.below K6), Lib.hid ⟨rfl, H3.out, H4.out, by rw [List.drop_zero, ← H5.out.1]; exact HRS.out.2⟩, HPR6, Lib.hid (fun q hq => ⟨(HOW.out.own_lt q hq).1, .inl (HOW.out.own_lt q hq).2⟩), btrans K3 K6 (by omega), Nat.le_refl _⟩
          case round =>
            obtain ⟨j, vs, e, hj, rfl, HOV, HVI, HPJ, HOB, K7, z7⟩ := hrel
            obtain ⟨w7, rfl⟩ : ∃ q, q = wr := ⟨_, rfl⟩
            have B7 : Below w.heap.size w w7 := btrans B2 K7 (by omega)
            by_cases hlj : j < rs.length
            · obtain ⟨⟨y, uy⟩, hry⟩ : ∃ r, rs[j]? = some r := ⟨_, List.getElem?_eq_getElem hlj⟩
              have hcell := HPJ.out.2.1 j _ hry
              have hby := HPJ.out.2.2 _ (List.mem_of_getElem? hry)
              simp only at hcell hby
              obtain ⟨ay, ny, rfl, -⟩ := id hby
              have HBY7 : Hid (RBlks w7 w7.heap.size (.slice ay y.blocks.length ny) y.blocks) := Lib.hid (hby.to fun q hq => by rcases hq with hq | hq <;> omega)
              have HFY : Hid (FragOf b y) := Lib.hid (HRS.out.1 y (List.mem_map.2 ⟨_, List.mem_of_getElem? hry, rfl⟩))
              have HDJ : Hid ((rs.map (·.1)).drop j = y :: (rs.map (·.1)).drop (j + 1)) := Lib.hid (drop_cons (by rw [List.getElem?_map, hry]; rfl))
              have p0 : w7.cell? ⟨gp, j * 12, none⟩ = some (.int .i64 y.src) := hcell 0 _ rfl
              have p1 : w7.cell? ⟨gp, j * 12 + 1, none⟩ = some (.int .i64 y.crt) := hcell 1 _ rfl
              have p2 : w7.cell? ⟨gp, j * 12 + 2, none⟩ = some (.int .i64 y.seq) := hcell 2 _ rfl
              have p3 : w7.cell? ⟨gp, j * 12 + 3, none⟩ = some (.int .i64 y.off) := hcell 3 _ rfl
              have p4 : w7.cell? ⟨gp, j * 12 + 4, none⟩ = some (.int .i64 y.tot) := hcell 4 _ rfl
              have p5 : w7.cell? ⟨gp, j * 12 + 5, none⟩ = some (.int .i64 y.dk) := hcell 5 _ rfl
              have p6 : w7.cell? ⟨gp, j * 12 + 6, none⟩ = some (.int .i64 y.dn) := hcell 6 _ rfl
              have p7 : w7.cell? ⟨gp, j * 12 + 7, none⟩ = some (.int .i64 y.life) := hcell 7 _ rfl
              have p8 : w7.cell? ⟨gp, j * 12 + 8, none⟩ = some (.int .i64 y.prio) := hcell 8 _ rfl
              have p9 : w7.cell? ⟨gp, j * 12 + 9, none⟩ = some (.int .i64 y.flags) := hcell 9 _ rfl
              have p10 : w7.cell? ⟨gp, j * 12 + 10, none⟩ = some (.slice ay y.blocks.length ny) := hcell 10 _ rfl
              have p11 : w7.cell? ⟨gp, j * 12 + 11, none⟩ = some (.string (B y.payload)) := hcell 11 _ rfl
              obtain ⟨S, hS⟩ : ∃ q, bunR y = q := ⟨_, rfl⟩
              have HSY := Lib.hid hS
              have HSD : Hid (decBS S = (y, 0)) := Lib.hid (by rw [← hS]; exact decB_encR HFY.out.valid)
              have hSl : S.length ≤ 1000000000 := by rw [← hS]; have := bunR_len y; omega
              clear hcell hby hry hS
              have j0 : (0 : Int) ≤ (j : Int) := by omega
              have j1 : (j : Int) < (rs.length : Int) := by omega
              go_upto_region 15 with fail
              obtain ⟨w8, hw8⟩ : ∃ q, w7.alloc (.cells (bunC y (.slice ay y.blocks.length ny)).toArray 28 (0, 0)) = q := ⟨_, rfl⟩
              (try simp only [bunC, List.cons_append, List.nil_append, List.length_nil] at hw8)
              rw [hw8]
              have y8 : w7.heap.size < w8.heap.size := by rw [← hw8]; simp
              have B8 : Below w.heap.size w w8 := by rw [← hw8]; exact balloc0 B7
              have L7_8 : Below w7.heap.size w7 w8 := by rw [← hw8]; exact balloc0 (Below.refl _ _)
              have Xy8 : Hid (w8.heap[w7.heap.size]? = some (.cells (bunC y (.slice ay y.blocks.length ny)).toArray 28 (0, 0))) := Lib.hid (by rw [← hw8]; exact heap_new)
              have zy8 : w7.heap.size < w8.heap.size := by omega
              clear hw8
              have cy := fun o => cellB Xy8.out o
              (try simp only [bunC, List.cons_append, List.nil_append, List.length_nil] at cy)
              clear p0 p1 p2 p3 p4 p5 p6 p7 p8 p9 p10 p11
              go_wp2_with fail
              refine (bunEncode_any y _ _ (HBY7.out.below' (L7_8)) (fits_valid HFY.out.valid)).mono ?_
              rw [HFY.out.valid, HSY.out]
              rintro e w9 ⟨rfl, hb9⟩
              have B9 : Below w.heap.size w w9 := btrans0 B8 hb9
              have y9 : w8.heap.size ≤ w9.heap.size := by have := hb9.size; (try simp at this); omega
              have L7_9 : Below w7.heap.size w7 w9 := btrans0 L7_8 hb9
              have Xy9 : Hid (w9.heap[w7.heap.size]? = some (.cells (bunC y (.slice ay y.blocks.length ny)).toArray 28 (0, 0))) := Lib.hid ((hb9.block _ (by first | omega | (simp; omega))).trans (Xy8.out))
              have zy9 : w7.heap.size < w9.heap.size := by omega
              clear cy
              clear hb9
              have cy := fun o => cellB Xy9.out o
              (try simp only [bunC, List.cons_append, List.nil_append, List.length_nil] at cy)
              go_wp2_with fail
              refine (bunDecode_any S _ hSl).mono ?_
              unfold DecPost
              rw [HSD.out]
              rintro e w10 ⟨ud, rfl, hrd, hfd, hb10⟩
              have B10 : Below w.heap.size w w10 := btrans0 B9 hb10
              have y10 : w9.heap.size ≤ w10.heap.size := by have := hb10.size; (try simp at this); omega
              have L7_10 : Below w7.heap.size w7 w10 := btrans0 L7_9 hb10
              have Xy10 : Hid (w10.heap[w7.heap.size]? = some (.cells (bunC y (.slice ay y.blocks.length ny)).toArray 28 (0, 0))) := Lib.hid ((hb10.block _ (by first | omega | (simp; omega))).trans (Xy9.out))
              have zy10 : w7.heap.size < w10.heap.size := by omega
              clear cy
              simp only at hrd
              have hdn := dec_new hrd hfd
              obtain ⟨ad, nd, rfl, -⟩ := id hrd
              have HDN := Lib.hid hdn
              clear hrd hfd hdn
              clear hb10
              have cy := fun o => cellB Xy10.out o
              (try simp only [bunC, List.cons_append, List.nil_append, List.length_nil] at cy)
              simp only [bunC]
              go_upto_region 17 with fail
              obtain ⟨w11, hw11⟩ : ∃ q, w10.alloc (.cells (bunC y (.slice ad y.blocks.length nd)).toArray 28 (0, 0)) = q := ⟨_, rfl⟩
              (try simp only [bunC, List.cons_append, List.nil_append, List.length_nil] at hw11)
              rw [hw11]
              have y11 : w10.heap.size < w11.heap.size := by rw [← hw11]; simp
              have B11 : Below w.heap.size w w11 := by rw [← hw11]; exact balloc0 B10
              have L7_11 : Below w7.heap.size w7 w11 := by rw [← hw11]; exact balloc0 L7_10
              have Xy11 : Hid (w11.heap[w7.heap.size]? = some (.cells (bunC y (.slice ay y.blocks.length ny)).toArray 28 (0, 0))) := Lib.hid (by rw [← hw11]; exact (Below.heap_alloc _ _ _ (by omega)).trans Xy10.out)
              have zy11 : w7.heap.size < w11.heap.size := by omega
              have Xd11 : Hid (w11.heap[w10.heap.size]? = some (.cells (bunC y (.slice ad y.blocks.length nd)).toArray 28 (0, 0))) := Lib.hid (by rw [← hw11]; exact heap_new)
              have zd11 : w10.heap.size < w11.heap.size := by omega
              clear cy
              have KB : Below w10.heap.size w10 w11 := by rw [← hw11]; exact balloc0 (Below.refl _ _)
              clear hw11
              have cy := fun o => cellB Xy11.out o
              have cd := fun o => cellB Xd11.out o
              (try simp only [bunC, List.cons_append, List.nil_append, List.length_nil] at cy cd)
              go_upto_region 19 with fail
              obtain ⟨w12, hw12⟩ : ∃ q, w11.alloc (.cells (bunC y (.slice ad y.blocks.length nd)).toArray 28 (0, 0)) = q := ⟨_, rfl⟩
              have K12 : Below w11.heap.size w11 w12 := by rw [← hw12]; exact balloc0 (Below.refl _ _)
              have z12 : w11.heap.size < w12.heap.size := by rw [← hw12]; simp
              have HON : Hid (OwnX w12 w2.heap.size u10 vs) := Lib.hid (HOV.out.below (btrans0 L7_11 K12))
              have HOWN := Lib.hid HON.out.1
              have HNW : Hid (w12.heap[w11.heap.size]? = some (.cells (bunC y (.slice ad y.blocks.length nd)).toArray 28 (0, 0))) := Lib.hid (by rw [← hw12]; exact heap_new)
              have KD : Below w10.heap.size w10 w12 := btrans0 KB K12
              have HRC : Hid (RBlksD w12 (fun q => q < w12.heap.size ∧ u10.ownBlock ≠ some q) (.slice ad y.blocks.length nd) y.blocks) := Lib.hid (HDN.out.keep (fun q o hq => KD.cell (p := ⟨q, o, none⟩) (by show q < w10.heap.size; exact hq.2)) (fun q hq => ⟨by omega, fun he => by have := (HOV.out.own_lt q he).2; omega⟩))
              have HW12 := Lib.hid hw12
              simp only [bunC] at hw12
              obtain ⟨i0_, hi_, hz0, hz1, hz2⟩ := info_parts infoBun
              have hvl : vs.length ≤ 30 := by have := HVI.out.1; omega
              go_wp2_with (at_builtin; (try rw [hw12]); refine wpList_append_lies _ rfl _ _ _ rfl w2.heap.size 28 i0_ _ 12 120 Tryz.underlying33 hi_ hz0 hz1 hz2 rfl (by omega) _ vs.length _ rfl HOWN.out ⟨w11.heap.size, 0, none⟩ 1 1 (bunC y (.slice ad y.blocks.length nd)) rfl rfl (news_one (t := 28) HNW.out) (by simp [bunC, Value.oneCell']) (by omega) (by simp only [maxLen]; omega) (by omega) (by omega) (w12.heap.size) rfl ?_; intro g2 cap2 w20 ho2 hg2 hat2 hlt2)
              have K20 : Below w2.heap.size w2 w20 := (btrans K7 (btrans0 L7_11 K12) (by omega)).grown hg2 (by omega) (fun q hq => (HOB.out q hq).1)
              have hsz := hg2.size
              have HAP := Lib.hid (OwnX.append (us := vs) HON.out ho2 hg2 hat2 HRC.out)
              have HPK : Hid (PRow w20 (fun q => q < w2.heap.size ∨ (w3.heap.size ≤ q ∧ q < w6.heap.size)) gp rs) := Lib.hid (HPJ.out.keep (fun q o hq => (World.cell?_of_block (hg2.block q (by rcases hq with hq | hq <;> omega) (fun he => by have := HOB.out q he.symm; rcases hq with hq | hq <;> omega))).trans ((btrans0 L7_11 K12).cell (p := ⟨q, o, none⟩) (by show q < w7.heap.size; rcases hq with hq | hq <;> omega))))
              have HOB2 : Hid (∀ q, (Value.slice (some ⟨g2, 0, none⟩) (vs.length + 1) cap2).ownBlock = some q → w2.heap.size ≤ q ∧ (q < w3.heap.size ∨ w6.heap.size ≤ q)) := Lib.hid (fun q hq => by
                have e2 : g2 = q := Option.some.inj hq
                subst e2
                rcases hat2 with h | h
                · exact HOB.out _ h
                · omega)
              have HVI2 : Hid ((vs ++ [(y, ((.slice ad y.blocks.length nd) : Value))]).length = us.length + (j + 1) ∧ (∀ z ∈ (vs ++ [(y, ((.slice ad y.blocks.length nd) : Value))]).map (·.1), FragOf b z) ∧ Adj 0 ((vs ++ [(y, ((.slice ad y.blocks.length nd) : Value))]).map (·.1)) (y.off + y.payload.length) ∧ Adj (y.off + y.payload.length) ((rs.map (·.1)).drop (j + 1)) (x0.off + x0.payload.length)) := Lib.hid (by
                obtain ⟨g1, g2_, g3, g4⟩ := HVI.out
                rw [HDJ.out] at g4
                refine ⟨by rw [List.length_append, g1]; rfl, fun z hz => ?_, ?_, g4.2⟩
                · rw [List.map_append, List.mem_append] at hz
                  rcases hz with hz | hz
                  · exact g2_ z hz
                  · simp at hz; subst hz; exact HFY.out
                · rw [List.map_append]
                  exact Adj.app g3 ⟨g4.1, rfl⟩)
              go_wp2
              go_roundw
              case rel => exact ⟨j + 1, _, _, by omega, by go_num, HAP, HVI2, HPK, HOB2, K20, by omega⟩
              case measure => simp [intOf]; omega
            · obtain rfl : j = rs.length := by omega
              obtain ⟨g1, g2_, g3, g4⟩ := HVI.out
              rw [List.drop_eq_nil_of_le (by rw [List.length_map]; exact Nat.le_refl _)] at g4
              have e4 : e = x0.off + (x0.payload.length : Int) := g4
              have HVE : Hid (k + 1 ≤ vs.length ∧ vs.length ≤ 2 * (k + 1) ∧ (∀ z ∈ vs.map (·.1), FragOf b z) ∧ Adj 0 (vs.map (·.1)) e ∧ Adj e (l.drop (k + 1)) (b.payload.length : Int)) := Lib.hid ⟨by omega, by omega, g2_, g3, by rw [e4]; exact H5.out.2⟩
              clear g1 g2_ g3 g4 e4
              go_wp2
              go_roundw
              case rel => exact ⟨k + 1, vs, e, by omega, by go_num, HOV, HVE, K7⟩
              case measure => simp [intOf]; omega
    · obtain rfl : k = l.length := by omega
      go_wp2
      go_ret2
      obtain ⟨h1, h2, h3, h4, h5⟩ := HPI.out
      rw [List.drop_length] at h5
      have e : p = (b.payload.length : Int) := h5
      exact ⟨us, _, rfl, HOW.out.base B2.size, by omega, by omega, h3, by rw [← e]; exact h4, B3⟩
end Go.Proofs.YthlbddcllikolaaGreat
