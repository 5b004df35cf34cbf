/-
  Proved: mailboatlaw19.AggregatePacked returns true for every input, and leaves its arguments as they were. No condition.
-/
import Derived.Test.YtpkklmkeflddkaaRows
import Derived.Laws.MakeOwn
import Derived.Laws.OwnMore
import Derived.Test.YtpkklmkeflddkaaJa
import Derived.Test.YtpkklmkeflddkaaJn
import Derived.Test.YtpkklmkeflddkaaQx
import Derived.Test.YtpkklmkeflddkaaQu
import Derived.Test.YtpkklmkeflddkaaQw
set_option linter.unusedVariables false
set_option linter.unusedSimpArgs false
namespace Go.Proofs.Ytpkklmkeflddkaa.aggregatePacked
open Go Go.ChangeShapes Go.WideShapes Go.ChangeAt Go.RowKit Go.Joins Go.Proofs.Ytpkklmkeflddkaa
attribute [local go_sem] B_getElem B_size B_app B_extract B_get B_toList

theorem own : ownKnob Try.prog.godebug = none := by kernel_rfl

attribute [local go_sem] Oper.semAt_some
attribute [local go_sem ↓] neEndI
theorem run_mkInts (n : Nat) (w : World) (hn : n ≤ 40) : Sem.run Try.prog (Instr.makeSlice 36 (.int .i64 (n : Int)) (.int .i64 (n : Int))) w = .ok (.slice (some ⟨w.heap.size, 0, none⟩) n n) (w.alloc (.cells (ints (List.replicate n 0)).toArray 3)) := by
  obtain ⟨i0, hin, hz0, hz1, hz2⟩ := info_parts infoInt
  have h := run_make (P := Try.prog) w 36 3 i0 _ Try.underlying36 hin hz0 .i64 .i64 n n (by omega) (Int.le_refl _) (by rw [hz2]; omega) (by omega)
  have e : madeCells (Value.int .i64 0).cells (n * i0.size) = (ints (List.replicate n 0)).toArray := by
    apply Array.toList_inj.1
    rw [hz1, Nat.mul_one]
    show (madeCells #[.int .i64 0] n).toList = _
    rw [toList_madeCells_one]
    simp [ints]
  simp only [Int.toNat_natCast] at h
  rw [e] at h
  exact h
attribute [local go_sem ↓] run_mkInts
theorem small2 {w : World} {B : Nat} {v : Value} {gs : List (List Int)} (h : OwnG w B v gs) : gs.length ≤ 9223372036854775807 := by
  obtain ⟨vals, h, _⟩ := h
  rcases h.2 with ⟨_, h0⟩ | ⟨g, cap, cur, _, _, _, h1, h2, _⟩
  · omega
  · unfold maxLen at h2; omega
set_option maxRecDepth 100000 in
set_option maxHeartbeats 16000000 in
theorem way1 (l : List Int) (v : Value) (most : Int) (w : World) (hr : RInts w w.heap.size v l) (d1 : decide ((l.length : Int) > 40) = true) :
    Calls Try.prog 8 #[v, .int .i64 most] w (Says w) := by
  obtain ⟨a, c, rfl, _⟩ := id hr
  clear hr
  go_enter Try.func8, Try.ntmps8
  go_wp2_with fail
  refine (awake_any _).mono ?_
  rintro e w99 ⟨rfl, hb99⟩
  go_wp2
  go_ret
  exact ⟨rfl, (by repeat' (first | with_reducible (first | refine bset ?_ ?_ | exact Below.refl _ _ | assumption | refine bdrewN ?_ _ | refine bdrew ?_ | refine balloc0 ?_ | refine balloc ?_ ?_ | (apply btrans0; rotate_left; assumption) | (apply btrans; rotate_left; assumption)) | exact Below.refl _ _ | assumption | (apply btrans0; rotate_left; assumption) | (apply btrans; rotate_left; assumption) | (simp; done) | omega | (simp; omega)))⟩
set_option maxRecDepth 100000 in
set_option maxHeartbeats 16000000 in
theorem way2 (l : List Int) (v : Value) (most : Int) (w : World) (hr : RInts w w.heap.size v l) (d1 : decide ((l.length : Int) > 40) = false) (hE : (packS l most).2 ≠ 0) :
    Calls Try.prog 8 #[v, .int .i64 most] w (Says w) := by
  obtain ⟨a, c, rfl, h1, h2, h3, h4⟩ := id hr
  have HR := Lib.hid hr
  obtain ⟨⟨gs, E⟩, hs⟩ : ∃ q, packS l most = q := ⟨_, rfl⟩
  have HS := Lib.hid hs
  rw [hs] at hE
  have hg := pack_err hs hE
  subst hg
  have dE : (E != 0) = true := by simpa using hE
  clear hr h1 h2 h3 h4 hs hE
  go_enter Try.func8, Try.ntmps8
  go_wp2_with fail
  refine (pack_any l _ most _ (HR.out.upto (by repeat' (first | with_reducible (first | refine bset ?_ ?_ | exact Below.refl _ _ | assumption | refine bdrewN ?_ _ | refine bdrew ?_ | refine balloc0 ?_ | refine balloc ?_ ?_ | (apply btrans0; rotate_left; assumption) | (apply btrans; rotate_left; assumption)) | exact Below.refl _ _ | assumption | (apply btrans0; rotate_left; assumption) | (apply btrans; rotate_left; assumption) | (simp; done) | omega | (simp; omega))))).mono ?_
  unfold PackPost
  rw [HS.out]
  rintro e w1 ⟨r, rfl, hb1, hg1⟩
  simp only at hg1
  obtain ⟨ra, rc, rfl⟩ := hg1.len
  have HG1 := Lib.hid hg1
  have hB1 : Below w.heap.size w w1 := (by repeat' (first | with_reducible (first | refine bset ?_ ?_ | exact Below.refl _ _ | assumption | refine bdrewN ?_ _ | refine bdrew ?_ | refine balloc0 ?_ | refine balloc ?_ ?_ | (apply btrans0; rotate_left; assumption) | (apply btrans; rotate_left; assumption)) | exact Below.refl _ _ | assumption | (apply btrans0; rotate_left; assumption) | (apply btrans; rotate_left; assumption) | (simp; done) | omega | (simp; omega)))
  clear hg1
  simp only [List.length_nil]
  go_wp2_with fail
  refine (awake_any _).mono ?_
  rintro e w99 ⟨rfl, hb99⟩
  go_wp2
  go_ret
  exact ⟨rfl, (by repeat' (first | with_reducible (first | refine bset ?_ ?_ | exact Below.refl _ _ | assumption | refine bdrewN ?_ _ | refine bdrew ?_ | refine balloc0 ?_ | refine balloc ?_ ?_ | (apply btrans0; rotate_left; assumption) | (apply btrans; rotate_left; assumption)) | exact Below.refl _ _ | assumption | (apply btrans0; rotate_left; assumption) | (apply btrans; rotate_left; assumption) | (simp; done) | omega | (simp; omega)))⟩
set_option maxRecDepth 100000 in
set_option maxHeartbeats 16000000 in
theorem way3 (l : List Int) (v : Value) (most : Int) (w : World) (hr : RInts w w.heap.size v l) (d1 : decide ((l.length : Int) > 40) = false) (hE : (packS l most).2 = 0) :
    Calls Try.prog 8 #[v, .int .i64 most] w (Says w) := by
  obtain ⟨a, c, rfl, h1, h2, h3, h4⟩ := id hr
  have HR := Lib.hid hr
  obtain ⟨⟨gs, E⟩, hs⟩ : ∃ q, packS l most = q := ⟨_, rfl⟩
  have HS := Lib.hid hs
  rw [hs] at hE
  simp only at hE
  subst hE
  obtain ⟨ks, ss, hi⟩ := pack_facts hs
  obtain ⟨n1, n2, n3⟩ := pack_num hs
  have hn40 : l.length ≤ 40 := by have := of_decide_eq_false d1; omega
  have HI := Lib.hid hi
  have HN := Lib.hid n3
  have H4 := Lib.hid h4
  clear hr h1 h2 h3 h4 hs hi n3
  go_enter Try.func8, Try.ntmps8
  go_wp2_with fail
  refine (pack_any l _ most _ (HR.out.upto (by repeat' (first | with_reducible (first | refine bset ?_ ?_ | exact Below.refl _ _ | assumption | refine bdrewN ?_ _ | refine bdrew ?_ | refine balloc0 ?_ | refine balloc ?_ ?_ | (apply btrans0; rotate_left; assumption) | (apply btrans; rotate_left; assumption)) | exact Below.refl _ _ | assumption | (apply btrans0; rotate_left; assumption) | (apply btrans; rotate_left; assumption) | (simp; done) | omega | (simp; omega))))).mono ?_
  unfold PackPost
  rw [HS.out]
  rintro e w1 ⟨r, rfl, hb1, hg1⟩
  simp only at hg1
  obtain ⟨ra, rc, rfl⟩ := hg1.len
  have HG1 := Lib.hid hg1
  have hB1 : Below w.heap.size w w1 := (by repeat' (first | with_reducible (first | refine bset ?_ ?_ | exact Below.refl _ _ | assumption | refine bdrewN ?_ _ | refine bdrew ?_ | refine balloc0 ?_ | refine balloc ?_ ?_ | (apply btrans0; rotate_left; assumption) | (apply btrans; rotate_left; assumption)) | exact Below.refl _ _ | assumption | (apply btrans0; rotate_left; assumption) | (apply btrans; rotate_left; assumption) | (simp; done) | omega | (simp; omega)))
  clear hg1
  have hG1s : w.heap.size ≤ w1.heap.size := hB1.size
  have hgs : gs.length ≤ 9223372036854775807 := small2 HG1.out
  have e0 := grpX_zero ks l.length
  have HE0 := Lib.hid e0
  clear e0
  go_wp2
  go_loopw [8, 41] (fun cnt kv wr => ∃ (k : Nat) (Cn : Int), k ≤ gs.length ∧ cnt = .int .i64 Cn ∧ Hid (Cn = (cntC ks l.length k : Int)) ∧ kv = .int .i64 k ∧ Hid (wr.heap[w1.heap.size]? = some (.cells (ints (grpX ks l.length k 0)).toArray 3 (0, 0))) ∧ Below w1.heap.size w1 wr ∧ w1.heap.size < wr.heap.size) (fun _ kv _ => gs.length - (intOf kv).toNat)
  case atStart =>
    exact ⟨0, 0, Nat.zero_le _, rfl, Lib.hid (by rw [cntC_zero]; rfl), rfl, Lib.hid (by rw [HE0.out]; exact heap_new), balloc0 (Below.refl _ _), by simp⟩
  case round =>
    obtain ⟨k, Cn, hk, rfl, HCN, rfl, HX, hB, hz⟩ := hrel
    have hBw : Below w.heap.size w wr := hB1.trans (hB.mono hG1s)
    by_cases hlt : k < gs.length
    · skip
      have hki : k < ss.length := by rw [← HI.out.len]; exact hlt
      have hgk : gs[k]? = some (grpI ks l.length k) := HI.out.at1 k hki
      obtain ⟨p, cc, x, hve, hp, hcx, hrx⟩ := HG1.out.get hgk
      injection hve with hva _ hvc
      subst hva hvc
      obtain ⟨xa, xc, rfl, x1, x2, x3, x4⟩ := hrx
      have hglen : (grpI ks l.length k).length = (mem ks l.length k).length := by simp [grpI]
      rw [hglen] at hcx x1 x4
      have hm0 : 0 < (mem ks l.length k).length := by
        obtain ⟨j, hj, hjk⟩ := HI.out.ne k hki
        exact List.length_pos_of_mem (mem_iff.2 ⟨hj, hjk⟩)
      obtain ⟨xb, xo, rfl, hxb, hxc⟩ := x4 hm0
      have hmle : (mem ks l.length k).length ≤ l.length := by
        have := List.length_filter_le (fun j => ks j == k) (List.range l.length)
        simpa [mem] using this
      have qx : wr.cell? ⟨p, k, none⟩ = some (.slice (some ⟨xb, xo, none⟩) (mem ks l.length k).length xc) := (hB.cell (p := ⟨p, k, none⟩) hp).trans hcx
      obtain ⟨M, hM⟩ : ∃ q, mem ks l.length k = q := ⟨_, rfl⟩
      rw [hM] at qx hm0 hmle
      have HM := Lib.hid hM
      have HXC : Hid (∀ (j i : Nat), M[j]? = some i → w1.cell? ⟨xb, xo + j, none⟩ = some (.int .i64 (i : Int))) := Lib.hid (fun j i hj => hxc j i (by unfold grpI; rw [hM, List.getElem?_map, hj]; rfl))
      have hkI : (k : Int) < (gs.length : Int) := by omega
      have hk0 : (0 : Int) ≤ (k : Int) := by omega
      have htop := HI.out.top k hki
      have HTOP := Lib.hid htop
      have HKI := Lib.hid hki
      have dm0 : ((M.length : Int) == 0) = false := by rw [beq_eq_false_iff_ne]; omega
      clear hcx hxc x1 x2 x3 x4 hgk hglen hM htop hki
      go_wp2
      go_loopw [8, 11, 48] (fun cnt sm jv wq => ∃ (j : Nat) (C2 : Int), j ≤ M.length ∧ cnt = .int .i64 C2 ∧ Hid (C2 = (cntC ks l.length k : Int) + j) ∧ 0 ≤ C2 ∧ C2 ≤ 80 ∧ sm = .int .i64 (sumT l ks l.length k j) ∧ jv = .int .i64 j ∧ Hid (wq.heap[w1.heap.size]? = some (.cells (ints (grpX ks l.length k j)).toArray 3 (0, 0))) ∧ Below w1.heap.size w1 wq ∧ w1.heap.size < wq.heap.size) (fun _ _ jv _ => M.length - (intOf jv).toNat)
      case atStart => exact ⟨0, Cn, Nat.zero_le _, rfl, Lib.hid (by rw [HCN.out]; simp), by have := HCN.out; omega, by have := HCN.out; have := cntC_le ks l.length k; omega, by rw [sumT_zero], rfl, HX, hB, hz⟩
      case round =>
        obtain ⟨j, C2, hj, rfl, HC2, c20, c21, rfl, rfl, HXN, hB2, hz2⟩ := hrel
        have hc2b : C2 ≤ 79 ∨ j = M.length := by have := HC2.out; have := cntC_le2 ks l.length k; rw [HM.out] at this; omega
        obtain ⟨S, hS⟩ : ∃ q, sumT l ks l.length k j = q := ⟨_, rfl⟩
        have hSb := sumT_le (fun x hx => (HN.out x hx).1) ks l.length k j
        rw [hS] at hSb ⊢
        have HSS := Lib.hid hS
        have hTP := HTOP.out
        by_cases hlj : j < M.length
        · obtain ⟨i, hi⟩ : ∃ i, M[j]? = some i := ⟨_, List.getElem?_eq_getElem hlj⟩
          have him := mem_iff.1 (by rw [HM.out]; exact List.mem_of_getElem? hi)
          have hil := him.1
          obtain ⟨y, hy⟩ : ∃ y, l[i]? = some y := ⟨_, List.getElem?_eq_getElem hil⟩
          have hyb := HN.out y (List.mem_of_getElem? hy)
          obtain ⟨lb, lo, rfl, hlb, hlc⟩ := H4.out (by omega)
          have ql : wr.cell? ⟨lb, lo + i, none⟩ = some (.int .i64 y) := ((hB2.cell (p := ⟨lb, lo + i, none⟩) (by show lb < w1.heap.size; omega)).trans (hB1.cell (p := ⟨lb, lo + i, none⟩) hlb)).trans (hlc i y hy)
          have qi : wr.cell? ⟨xb, xo + j, none⟩ = some (.int .i64 (i : Int)) := (hB2.cell (p := ⟨xb, xo + j, none⟩) hxb).trans (HXC.out j i hi)
          have i0 : (0 : Int) ≤ (i : Int) := by omega
          have i1 : (i : Int) < (l.length : Int) := by omega
          have di0 : decide ((i : Int) < 0) = false := decide_eq_false (by omega)
          have di1 : decide ((i : Int) ≥ (l.length : Int)) = false := decide_eq_false (by omega)
          have hsn := sumT_next (l := l) (show (mem ks l.length k)[j]? = some i by rw [HM.out]; exact hi)
          have hyd : l.getD i 0 = y := by rw [List.getD_eq_getElem?_getD, hy]; rfl
          rw [hS, hyd] at hsn
          have hsb2 := sumT_le (fun x hx => (HN.out x hx).1) ks l.length k (j + 1)
          rw [hsn] at hsb2
          have hwr : IntKind.i64.wrap (S + y) = S + y := by rw [IntKind.wrap_i64]; omega
          have HSN := Lib.hid hsn
          have HSET := Lib.hid (grpX_set (show (mem ks l.length k)[j]? = some i by rw [HM.out]; exact hi))
          have hxl : (ints (grpX ks l.length k j)).toArray.size = l.length := by simp [ints, grpX_len]
          have HXB := HXN.out
          have c1 := fun q => cellB HXB q
          have f1 := fun q => frozenB HXB q
          have j0 : (0 : Int) ≤ (j : Int) := by omega
          have j1 : (j : Int) < (M.length : Int) := by omega
          by_cases hj0 : 0 < j
          · obtain ⟨i', hi'⟩ : ∃ i', M[j - 1]? = some i' := ⟨_, List.getElem?_eq_getElem (by omega)⟩
            have hasc : i' < i := mem_asc (ks := ks) (n := l.length) (k := k) (j := j - 1) (by rw [HM.out]; exact hi') (by rw [HM.out, show j - 1 + 1 = j from by omega]; exact hi)
            have qj : wr.cell? ⟨xb, xo + (j - 1), none⟩ = some (.int .i64 (i' : Int)) := (hB2.cell (p := ⟨xb, xo + (j - 1), none⟩) hxb).trans (HXC.out (j - 1) i' hi')
            have dj : decide ((j : Int) > 0) = true := decide_eq_true (by omega)
            have da : decide ((i : Int) ≤ (i' : Int)) = false := decide_eq_false (by omega)
            have hwj : IntKind.i64.wrap ((j : Int) - 1) = (j : Int) - 1 := by rw [IntKind.wrap_i64]; omega
            obtain ⟨j', rfl⟩ : ∃ j', j = j' + 1 := ⟨j - 1, by omega⟩
            simp only [Nat.add_sub_cancel] at qj
            as_aux_lemma =>
              go_wp2
              refine ⟨⟨j' + 1 + 1, C2 + 1, by omega, rfl, Lib.hid (by have := HC2.out; omega), by omega, by omega, by rw [HSN.out], by go_num, Lib.hid ?_, bset hB2 (Nat.le_refl _), by simpa using hz2⟩, by simp [intOf]; omega⟩
              have h9 := heap_setCell_same wr w1.heap.size i _ 3 (.int .i64 (k : Int)) HXN.out
              rw [← HSET.out]
              rw [h9]
              simp [ints, List.map_set]
          · have dj : decide ((j : Int) > 0) = false := decide_eq_false (by omega)
            as_aux_lemma =>
              go_wp2
              refine ⟨⟨j + 1, C2 + 1, by omega, rfl, Lib.hid (by have := HC2.out; omega), by omega, by omega, by rw [HSN.out], by go_num, Lib.hid ?_, bset hB2 (Nat.le_refl _), by simpa using hz2⟩, by simp [intOf]; omega⟩
              have h9 := heap_setCell_same wr w1.heap.size i _ 3 (.int .i64 (k : Int)) HXN.out
              rw [← HSET.out]
              rw [h9]
              simp [ints, List.map_set]
        · obtain rfl : j = M.length := by omega
          have hSK : S = sumK l ks l.length k := by rw [← hS, ← HM.out, sumT_end]
          have dS : decide (S > most) = false := decide_eq_false (by omega)
          have HN1 := Lib.hid (cntC_next ks l.length k)
          have HN2 := Lib.hid (grpX_next ks l.length k)
          rw [HM.out] at HN1 HN2
          clear hSK hS
          as_aux_lemma =>
            go_wp2
            refine ⟨⟨k + 1, C2, by omega, rfl, Lib.hid (by have := HN1.out; have := HC2.out; omega), by go_num, Lib.hid (by rw [← HN2.out]; exact HXN.out), hB2, hz2⟩, by simp [intOf]; omega⟩
    · obtain rfl : k = gs.length := by omega
      have hCn : Cn = (l.length : Int) := by rw [HCN.out, cntC_end]; intro j hj; rw [HI.out.len]; exact HI.out.lt j hj
      subst hCn
      have dCn : ((l.length : Int) == (l.length : Int)) = true := by simp
      have HEND : Hid (∀ i, i < l.length → (grpX ks l.length gs.length 0)[i]? = some (ks i : Int)) := Lib.hid (fun i hi => grpX_end (fun j hj => by rw [HI.out.len]; exact HI.out.lt j hj) hi)
      have HPOS : Hid (∀ x ∈ l, 1 ≤ x) := Lib.hid (fun x hx => (HN.out x hx).1)
      clear HCN hBw
      as_aux_lemma =>
        go_wp2
        go_loopw [98] (fun iv w3 => ∃ i : Nat, i ≤ l.length ∧ iv = .int .i64 i ∧ Hid (w3.heap[w1.heap.size]? = some (.cells (ints (grpX ks l.length gs.length 0)).toArray 3 (0, 0))) ∧ Below w1.heap.size w1 w3 ∧ w1.heap.size < w3.heap.size) (fun iv _ => l.length - (intOf iv).toNat)
        case atStart => exact ⟨0, Nat.zero_le _, rfl, HX, hB, hz⟩
        case round =>
          obtain ⟨i, hi, rfl, HX3, hB3, hz3⟩ := hrel
          by_cases hil : i < l.length
          · have HX3' := HX3.out
            have qk : wr.cell? ⟨w1.heap.size, i, none⟩ = some (.int .i64 (ks i : Int)) := by rw [cellB HX3' i]; simp [ints, HEND.out i hil]
            have hxl : (ints (grpX ks l.length gs.length 0)).toArray.size = l.length := by simp [ints, grpX_len]
            obtain ⟨y, hy⟩ : ∃ y, l[i]? = some y := ⟨_, List.getElem?_eq_getElem hil⟩
            have hyb := HN.out y (List.mem_of_getElem? hy)
            obtain ⟨lb, lo, rfl, hlb, hlc⟩ := H4.out (by omega)
            have HLC := Lib.hid hlc
            have hyd : l.getD i 0 = y := by rw [List.getD_eq_getElem?_getD, hy]; rfl
            obtain ⟨K, hK⟩ : ∃ q, ks i = q := ⟨_, rfl⟩
            rw [hK] at qk
            have hKs : K < gs.length := by rw [← hK, HI.out.len]; exact HI.out.lt i hil
            have HFI := Lib.hid (HI.out.first i hil)
            rw [hK, hyd] at HFI
            have i0 : (0 : Int) ≤ (i : Int) := by omega
            have i1 : (i : Int) < (l.length : Int) := by omega
            have HY := Lib.hid hy
            clear hlc HX3' hyd hK hy
            as_aux_lemma =>
              go_wp2
              go_loopw [105] (fun kv w4 => ∃ k : Nat, k ≤ K ∧ kv = .int .i64 k ∧ Hid (w4.heap[w1.heap.size]? = some (.cells (ints (grpX ks l.length gs.length 0)).toArray 3 (0, 0))) ∧ Below w1.heap.size w1 w4 ∧ w1.heap.size < w4.heap.size) (fun kv _ => K - (intOf kv).toNat)
              case atStart => exact ⟨0, Nat.zero_le _, rfl, HX3, hB3, hz3⟩
              case round =>
                obtain ⟨k, hkK, rfl, HX4, hB4, hz4⟩ := hrel
                by_cases hkl : k < K
                · have ql : wr.cell? ⟨lb, lo + i, none⟩ = some (.int .i64 y) := ((hB4.cell (p := ⟨lb, lo + i, none⟩) (by show lb < w1.heap.size; omega)).trans (hB1.cell (p := ⟨lb, lo + i, none⟩) hlb)).trans (HLC.out i y HY.out)
                  have HF2 := Lib.hid (HFI.out k hkl)
                  have hks : k < ss.length := by have := HI.out.len; simp only at this; omega
                  have HTP := Lib.hid (HI.out.top k hks)
                  clear hks
                  go_wp2
                  go_loopw [16, 113] (fun sm jv w5 => ∃ (j : Nat) (S : Int), j ≤ i ∧ sm = .int .i64 (y + S) ∧ Hid (S = sumK l ks j k) ∧ jv = .int .i64 j ∧ Hid (w5.heap[w1.heap.size]? = some (.cells (ints (grpX ks l.length gs.length 0)).toArray 3 (0, 0))) ∧ Below w1.heap.size w1 w5 ∧ w1.heap.size < w5.heap.size) (fun _ jv _ => i - (intOf jv).toNat)
                  case atStart => exact ⟨0, 0, Nat.zero_le _, by simp, Lib.hid (by simp [sumK, mem]), rfl, HX4, hB4, hz4⟩
                  case round =>
                    obtain ⟨j, S, hji, rfl, HS5, rfl, HX5, hB5, hz5⟩ := hrel
                    have hTop := HTP.out
                    by_cases hjl : j < i
                    · have HX5' := HX5.out
                      have qj : wr.cell? ⟨w1.heap.size, j, none⟩ = some (.int .i64 (ks j : Int)) := by rw [cellB HX5' j]; simp [ints, HEND.out j (by omega)]
                      have hxl5 : (ints (grpX ks l.length gs.length 0)).toArray.size = l.length := by simp [ints, grpX_len]
                      obtain ⟨z, hzz⟩ : ∃ z, l[j]? = some z := ⟨_, List.getElem?_eq_getElem (by omega)⟩
                      have hzb := HN.out z (List.mem_of_getElem? hzz)
                      have qz : wr.cell? ⟨lb, lo + j, none⟩ = some (.int .i64 z) := ((hB5.cell (p := ⟨lb, lo + j, none⟩) (by show lb < w1.heap.size; omega)).trans (hB1.cell (p := ⟨lb, lo + j, none⟩) hlb)).trans (HLC.out j z hzz)
                      have hzd : l.getD j 0 = z := by rw [List.getD_eq_getElem?_getD, hzz]; rfl
                      have hsx := sum_succ l ks j k
                      rw [hzd, ← HS5.out] at hsx
                      have hm1 := sumK_mono HPOS.out ks k l.length (j + 1) (by omega)
                      have hm0 := sumK_mono HPOS.out ks k l.length j (by omega)
                      rw [← HS5.out] at hm0
                      have j0 : (0 : Int) ≤ (j : Int) := by omega
                      have j1 : (j : Int) < (i : Int) := by omega
                      have j2 : (j : Int) < (l.length : Int) := by omega
                      obtain ⟨Kj, hKj⟩ : ∃ q, ks j = q := ⟨_, rfl⟩
                      rw [hKj] at qj hsx
                      by_cases hkk : Kj = k
                      · subst hkk
                        rw [beq_self_eq_true, if_pos rfl] at hsx
                        have dk : ((Kj : Int) == (Kj : Int)) = true := by simp
                        have hwr : IntKind.i64.wrap (y + S + z) = y + S + z := by rw [IntKind.wrap_i64]; omega
                        have HSX := Lib.hid hsx
                        clear hsx HX5' hKj
                        as_aux_lemma =>
                          go_wp2
                          refine ⟨⟨j + 1, S + z, by omega, by rw [Int.add_assoc], Lib.hid HSX.out.symm, by go_num, HX5, hB5, hz5⟩, by simp [intOf]; omega⟩
                      · have dk : ((Kj : Int) == (k : Int)) = false := by rw [beq_eq_false_iff_ne]; omega
                        rw [show (Kj == k) = false from by rw [beq_eq_false_iff_ne]; exact hkk] at hsx
                        simp only [Bool.false_eq_true, if_false, Int.add_zero] at hsx
                        have HSX := Lib.hid hsx
                        clear hsx HX5' hKj hkk
                        as_aux_lemma =>
                          go_wp2
                          refine ⟨⟨j + 1, S, by omega, rfl, Lib.hid HSX.out.symm, by go_num, HX5, hB5, hz5⟩, by simp [intOf]; omega⟩
                    · obtain rfl : j = i := by omega
                      have dS : decide (y + S ≤ most) = false := decide_eq_false (by have := HF2.out; rw [← HS5.out] at this; omega)
                      as_aux_lemma =>
                        go_wp2
                        refine ⟨⟨k + 1, by omega, by go_num, HX5, hB5, hz5⟩, by simp [intOf]; omega⟩
                · obtain rfl : k = K := by omega
                  as_aux_lemma =>
                    go_wp2
                    refine ⟨⟨i + 1, by omega, by go_num, HX4, hB4, hz4⟩, by simp [intOf]; omega⟩
          · obtain rfl : i = l.length := by omega
            have hBw : Below w.heap.size w wr := hB1.trans (hB3.mono hG1s)
            as_aux_lemma =>
              go_wp2_with fail
              refine (awake_any _).mono ?_
              rintro e w99 ⟨rfl, hb99⟩
              go_wp2
              go_ret
              exact ⟨rfl, (by repeat' (first | with_reducible (first | refine bset ?_ ?_ | exact Below.refl _ _ | assumption | refine bdrewN ?_ _ | refine bdrew ?_ | refine balloc0 ?_ | refine balloc ?_ ?_ | (apply btrans0; rotate_left; assumption) | (apply btrans; rotate_left; assumption)) | exact Below.refl _ _ | assumption | (apply btrans0; rotate_left; assumption) | (apply btrans; rotate_left; assumption) | (simp; done) | omega | (simp; omega)))⟩
theorem walk (l : List Int) (v : Value) (most : Int) (w : World) (hr : RInts w w.heap.size v l)  :
    Calls Try.prog 8 #[v, .int .i64 most] w (Says w) := by
  by_cases h1 : (l.length : Int) > 40
  · exact way1 l v most w hr (decide_eq_true h1)
  · by_cases h2 : (packS l most).2 = 0
    · exact way3 l v most w hr (decide_eq_false h1) h2
    · exact way2 l v most w hr (decide_eq_false h1) h2

set_option maxRecDepth 100000 in
theorem lifted (os : Os) (started : os.Started) (H : Type) (enc : TypeId × Value → H) :
    ReturnsInHanded {} Try.checked os 8 .any (Rows.aggregatePackedSpec.pre6 enc Try.prog Try.f8 Rows.aggregatePackedRow.domain false) (Rows.aggregatePackedSpec.post enc Try.prog Try.f8 false true false false) := by
  refine returnsInHanded_of_change (C := Try.checked) own started (by kernel_rfl) Try.func8
    (ChangeSpec.witness6 (enc := enc) (C := Try.checked) false ⟨#[], #[.slice none 0 0, .int .i64 0], []⟩ 8 (by kernel_rfl) (by kernel_rfl) (by kernel_rfl) (by kernel_rfl)) ?_
  intro W base args ds gs before hval0 hW hcnd _
  have hval : ∀ (j : Nat) t v, Try.f8.params[j]? = some t → args[j]? = some v → Value.okWide Try.prog W .any base t v := hval0
  have hW' := hW
  obtain ⟨p, q, hA0, hV, rfl, hfz, hnd⟩ := hW
  have hA : DataW.TrodAll enc Try.prog W 0 (fun _ => true) true Try.f8.params.toList args.toList ds p := hA0
  rw [Try.params8] at hA hval
  obtain ⟨v0, vs0, d0, ds0, p0, q0, hargs, rfl, rfl, h0, r0⟩ := trodAll_cons hA
  obtain ⟨v1, vs1, d1, ds1, p1, q1, rfl, rfl, rfl, h1, r1⟩ := trodAll_cons r0
  obtain ⟨rfl, rfl, rfl⟩ := trodAll_nil r1
  obtain rfl : args = #[v0, v1] := by cases args; simp_all
  obtain ⟨x0, hr0⟩ := open_ints_arg (hval 0 36 v0 rfl rfl) h0
  obtain ⟨x1, rfl, _, _, wx1⟩ := open_int Try.underlying3 (hval 1 3 v1 rfl rfl) h1
  refine (walk x0 v0 x1 W hr0).mono fun e W' ⟨he, hB⟩ => ?_
  subst he
  refine ⟨_, rfl, law_post (by kernel_rfl) (by kernel_rfl) rfl Try.underlying4 rfl ?_ hW' hB⟩
  intro es hes
  match es, hes with
  | [_, _], _ => rfl

theorem proved : Rows.AggregatePackedSaid :=
  OpenClaim.holds_of_wide 8 Try.f8 rfl rfl rfl rfl rfl rfl rfl ⟨rfl, rfl, rfl, rfl, rfl⟩ rfl rfl rfl rfl rfl (by kernel_rfl) Try.func8 (by kernel_rfl)
    (of_decide_eq_true (by kernel_rfl)) (by unfold Func.isWrapper; first | (rw [if_pos (by decide +kernel)]; kernel_rfl) | (rw [if_neg (by decide +kernel)]; exact ⟨rfl, rfl⟩))
    (fun os started H enc _ => lifted os started H enc)
#print axioms proved
end Go.Proofs.Ytpkklmkeflddkaa.aggregatePacked
