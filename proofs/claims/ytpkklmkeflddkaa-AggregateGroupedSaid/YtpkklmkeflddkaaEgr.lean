/-
  Proved: mailboatlaw19.AggregateGrouped returns true for every input, and leaves its arguments as they were. No condition.
-/
import Derived.Test.YtpkklmkeflddkaaRows
import Derived.Laws.MakeOwn
import Derived.Laws.OwnMore
import Derived.Test.YtpkklmkeflddkaaJa
import Derived.Test.YtpkklmkeflddkaaJn
import Derived.Test.YtpkklmkeflddkaaRd
import Derived.Test.YtpkklmkeflddkaaRe
import Derived.Test.YtpkklmkeflddkaaQu
import Derived.Test.YtpkklmkeflddkaaQw
set_option linter.unusedVariables false
set_option linter.unusedSimpArgs false
namespace Go.Proofs.Ytpkklmkeflddkaa.aggregateGrouped
open Go Go.ChangeShapes Go.WideShapes Go.ChangeAt Go.RowKit Go.Joins Go.Proofs.Ytpkklmkeflddkaa
attribute [local go_sem] B_getElem B_size B_app B_extract B_get B_toList

theorem own : ownKnob Try.prog.godebug = none := by kernel_rfl

attribute [local go_sem] Oper.semAt_some
attribute [local go_sem ↓] neEndI
theorem run_mkInts64 (n : Nat) (w : World) (hn : n ≤ 64) : Sem.run Try.prog (Instr.makeSlice 36 (.int .i64 (n : Int)) (.int .i64 (n : Int))) w = .ok (.slice (some ⟨w.heap.size, 0, none⟩) n n) (w.alloc (.cells (ints (List.replicate n 0)).toArray 3)) := by
  obtain ⟨i0, hin, hz0, hz1, hz2⟩ := info_parts infoInt
  have h := run_make (P := Try.prog) w 36 3 i0 _ Try.underlying36 hin hz0 .i64 .i64 n n (by omega) (Int.le_refl _) (by rw [hz2]; omega) (by omega)
  have e : madeCells (Value.int .i64 0).cells (n * i0.size) = (ints (List.replicate n 0)).toArray := by
    apply Array.toList_inj.1
    rw [hz1, Nat.mul_one]
    show (madeCells #[.int .i64 0] n).toList = _
    rw [toList_madeCells_one]
    simp [ints]
  simp only [Int.toNat_natCast] at h
  rw [e] at h
  exact h
attribute [local go_sem ↓] run_mkInts64
theorem small3 {w : World} {B : Nat} {v : Value} {gs : List (List Int)} (h : OwnG w B v gs) : gs.length ≤ 9223372036854775807 := by
  obtain ⟨vals, h, _⟩ := h
  rcases h.2 with ⟨_, h0⟩ | ⟨g, cap, cur, _, _, _, h1, h2, _⟩
  · omega
  · unfold maxLen at h2; omega
theorem _root_.Go.Proofs.Ytpkklmkeflddkaa.OwnG.mono {w : World} {B B' : Nat} {v : Value} {gs : List (List Int)} (h : OwnG w B' v gs) (hb : B ≤ B') : OwnG w B v gs := by
  obtain ⟨vals, h⟩ := h
  exact ⟨vals, h.le hb⟩
theorem twelve {x : Bun} {u : Value} {V : World} {lb p : Nat} (h : ∀ (o : Nat) v, (bunC x u)[o]? = some v → V.cell? ⟨lb, p + o, none⟩ = some v) : V.cell? ⟨lb, p, none⟩ = some (.int .i64 x.src) ∧ V.cell? ⟨lb, p + 1, none⟩ = some (.int .i64 x.crt) ∧ V.cell? ⟨lb, p + 2, none⟩ = some (.int .i64 x.seq) ∧ V.cell? ⟨lb, p + 3, none⟩ = some (.int .i64 x.off) ∧ V.cell? ⟨lb, p + 4, none⟩ = some (.int .i64 x.tot) ∧ V.cell? ⟨lb, p + 5, none⟩ = some (.int .i64 x.dk) ∧ V.cell? ⟨lb, p + 6, none⟩ = some (.int .i64 x.dn) ∧ V.cell? ⟨lb, p + 7, none⟩ = some (.int .i64 x.life) ∧ V.cell? ⟨lb, p + 8, none⟩ = some (.int .i64 x.prio) ∧ V.cell? ⟨lb, p + 9, none⟩ = some (.int .i64 x.flags) ∧ V.cell? ⟨lb, p + 10, none⟩ = some (u) ∧ V.cell? ⟨lb, p + 11, none⟩ = some (.string (B x.payload)) :=
  ⟨h 0 _ rfl, h 1 _ rfl, h 2 _ rfl, h 3 _ rfl, h 4 _ rfl, h 5 _ rfl, h 6 _ rfl, h 7 _ rfl, h 8 _ rfl, h 9 _ rfl, h 10 _ rfl, h 11 _ rfl⟩
/-- the bundles of a group so far, in a row of one's own -/
def AllRow (l : List Bun) (w : World) (B : Nat) (M : List Nat) (j : Nat) (vo : Value) (W : World) : Prop := ∃ gv : List BV, W.ownsRow B 28 12 vo gv.length (flatU gv) ∧ buns gv = (M.take j).map (fun i => l.getD i zBun) ∧ (∀ r ∈ gv, RBlks w w.heap.size r.2 r.1.blocks) ∧ gv.length = min j M.length
theorem AllRow.nil {l : List Bun} {w W : World} {B : Nat} {M : List Nat} : AllRow l w B M 0 (.slice none 0 0) W := ⟨[], World.ownsRow_nil _ _ _ _, rfl, fun r hr => by simp at hr, by simp⟩
theorem AllRow.rbuns {l : List Bun} {w W : World} {B : Nat} {M : List Nat} {vo : Value} (h : AllRow l w B M M.length vo W) (hb : Below w.heap.size w W) : RBuns W W.heap.size vo (M.map fun i => l.getD i zBun) := by
  obtain ⟨gv, h1, h2, h3, _⟩ := h
  have := RBuns.of_own h1 (fun r hr => (h3 r hr).below' hb)
  rw [List.take_length] at h2
  rw [← h2]
  exact this
set_option maxRecDepth 100000 in
set_option maxHeartbeats 16000000 in
theorem way2 (l : List Bun) (v : Value) (most : Int) (w : World) (hr : RBuns w w.heap.size v l) (hf : ∀ x ∈ l, Fits x) (hE : (grS l most).2 ≠ 0) :
    Calls Try.prog 9 #[v, .int .i64 most] w (Says w) := by
  obtain ⟨a, c, rfl, h1, h2, h3, h4⟩ := id hr
  have HR := Lib.hid hr
  have HF := Lib.hid hf
  have H4 := Lib.hid h4
  obtain ⟨⟨gs, E⟩, hs⟩ : ∃ q, grS l most = q := ⟨_, rfl⟩
  have HS := Lib.hid hs
  rw [hs] at hE
  have hg := group_err hs hE
  subst hg
  have dE : (E != 0) = true := by simpa using hE
  clear hr h1 h2 h3 h4 hs hE hf
  go_enter Try.func9, Try.ntmps9
  go_wp2_with fail
  refine (greatAll_any l _ _ (HR.out.below'' (by repeat' (first | with_reducible (first | refine bset ?_ ?_ | exact Below.refl _ _ | assumption | refine bdrewN ?_ _ | refine bdrew ?_ | refine balloc0 ?_ | refine balloc ?_ ?_ | (apply btrans0; rotate_left; assumption) | (apply btrans; rotate_left; assumption)) | exact Below.refl _ _ | assumption | (apply btrans0; rotate_left; assumption) | (apply btrans; rotate_left; assumption) | (simp; done) | omega | (simp; omega)))) HF.out).mono ?_
  rintro e w1 ⟨g, rfl, hb1, hg1⟩
  cases g
  case true =>
    go_wp2_with fail
    refine (awake_any _).mono ?_
    rintro e w99 ⟨rfl, hb99⟩
    go_wp2
    go_ret
    exact ⟨rfl, (by repeat' (first | with_reducible (first | refine bset ?_ ?_ | exact Below.refl _ _ | assumption | refine bdrewN ?_ _ | refine bdrew ?_ | refine balloc0 ?_ | refine balloc ?_ ?_ | (apply btrans0; rotate_left; assumption) | (apply btrans; rotate_left; assumption)) | exact Below.refl _ _ | assumption | (apply btrans0; rotate_left; assumption) | (apply btrans; rotate_left; assumption) | (simp; done) | omega | (simp; omega)))⟩
  have hB1 : Below w.heap.size w w1 := (by repeat' (first | with_reducible (first | refine bset ?_ ?_ | exact Below.refl _ _ | assumption | refine bdrewN ?_ _ | refine bdrew ?_ | refine balloc0 ?_ | refine balloc ?_ ?_ | (apply btrans0; rotate_left; assumption) | (apply btrans; rotate_left; assumption)) | exact Below.refl _ _ | assumption | (apply btrans0; rotate_left; assumption) | (apply btrans; rotate_left; assumption) | (simp; done) | omega | (simp; omega)))
  clear hg1
  go_wp2_with fail
  refine (groups_any l _ most _ (HR.out.below'' (by repeat' (first | with_reducible (first | refine bset ?_ ?_ | exact Below.refl _ _ | assumption | refine bdrewN ?_ _ | refine bdrew ?_ | refine balloc0 ?_ | refine balloc ?_ ?_ | (apply btrans0; rotate_left; assumption) | (apply btrans; rotate_left; assumption)) | exact Below.refl _ _ | assumption | (apply btrans0; rotate_left; assumption) | (apply btrans; rotate_left; assumption) | (simp; done) | omega | (simp; omega)))) HF.out).mono ?_
  unfold GroupsPost
  rw [HS.out]
  rintro e w2 ⟨r, rfl, hb2, hg2⟩
  simp only at hg2
  obtain ⟨ra, rc, rfl⟩ := hg2.len
  have HG2 := Lib.hid (hg2.mono (show w.heap.size ≤ w1.heap.size from hB1.size))
  have hB2 : Below w.heap.size w w2 := (by repeat' (first | with_reducible (first | refine bset ?_ ?_ | exact Below.refl _ _ | assumption | refine bdrewN ?_ _ | refine bdrew ?_ | refine balloc0 ?_ | refine balloc ?_ ?_ | (apply btrans0; rotate_left; assumption) | (apply btrans; rotate_left; assumption)) | exact Below.refl _ _ | assumption | (apply btrans0; rotate_left; assumption) | (apply btrans; rotate_left; assumption) | (simp; done) | omega | (simp; omega)))
  clear hg2 hb2 hb1 hB1
  simp only [List.length_nil]
  go_wp2_with fail
  refine (awake_any _).mono ?_
  rintro e w99 ⟨rfl, hb99⟩
  go_wp2
  go_ret
  exact ⟨rfl, (by repeat' (first | with_reducible (first | refine bset ?_ ?_ | exact Below.refl _ _ | assumption | refine bdrewN ?_ _ | refine bdrew ?_ | refine balloc0 ?_ | refine balloc ?_ ?_ | (apply btrans0; rotate_left; assumption) | (apply btrans; rotate_left; assumption)) | exact Below.refl _ _ | assumption | (apply btrans0; rotate_left; assumption) | (apply btrans; rotate_left; assumption) | (simp; done) | omega | (simp; omega)))⟩
set_option maxRecDepth 100000 in
set_option maxHeartbeats 16000000 in
theorem way3 (l : List Bun) (v : Value) (most : Int) (w : World) (hr : RBuns w w.heap.size v l) (hf : ∀ x ∈ l, Fits x) (hE : (grS l most).2 = 0) :
    Calls Try.prog 9 #[v, .int .i64 most] w (Says w) := by
  obtain ⟨a, c, rfl, h1, h2, h3, h4⟩ := id hr
  have HR := Lib.hid hr
  have HF := Lib.hid hf
  have H4 := Lib.hid h4
  obtain ⟨⟨gs, E⟩, hs⟩ : ∃ q, grS l most = q := ⟨_, rfl⟩
  have HS := Lib.hid hs
  rw [hs] at hE
  simp only at hE
  subst hE
  obtain ⟨⟨ks, gb, hi⟩, hn64, n1, n2⟩ := group_facts hs
  have HI := Lib.hid hi
  clear hr h1 h2 h3 h4 hs hi hf
  go_enter Try.func9, Try.ntmps9
  go_wp2_with fail
  refine (greatAll_any l _ _ (HR.out.below'' (by repeat' (first | with_reducible (first | refine bset ?_ ?_ | exact Below.refl _ _ | assumption | refine bdrewN ?_ _ | refine bdrew ?_ | refine balloc0 ?_ | refine balloc ?_ ?_ | (apply btrans0; rotate_left; assumption) | (apply btrans; rotate_left; assumption)) | exact Below.refl _ _ | assumption | (apply btrans0; rotate_left; assumption) | (apply btrans; rotate_left; assumption) | (simp; done) | omega | (simp; omega)))) HF.out).mono ?_
  rintro e w1 ⟨g, rfl, hb1, hg1⟩
  cases g
  case true =>
    go_wp2_with fail
    refine (awake_any _).mono ?_
    rintro e w99 ⟨rfl, hb99⟩
    go_wp2
    go_ret
    exact ⟨rfl, (by repeat' (first | with_reducible (first | refine bset ?_ ?_ | exact Below.refl _ _ | assumption | refine bdrewN ?_ _ | refine bdrew ?_ | refine balloc0 ?_ | refine balloc ?_ ?_ | (apply btrans0; rotate_left; assumption) | (apply btrans; rotate_left; assumption)) | exact Below.refl _ _ | assumption | (apply btrans0; rotate_left; assumption) | (apply btrans; rotate_left; assumption) | (simp; done) | omega | (simp; omega)))⟩
  have hB1 : Below w.heap.size w w1 := (by repeat' (first | with_reducible (first | refine bset ?_ ?_ | exact Below.refl _ _ | assumption | refine bdrewN ?_ _ | refine bdrew ?_ | refine balloc0 ?_ | refine balloc ?_ ?_ | (apply btrans0; rotate_left; assumption) | (apply btrans; rotate_left; assumption)) | exact Below.refl _ _ | assumption | (apply btrans0; rotate_left; assumption) | (apply btrans; rotate_left; assumption) | (simp; done) | omega | (simp; omega)))
  clear hg1
  go_wp2_with fail
  refine (groups_any l _ most _ (HR.out.below'' (by repeat' (first | with_reducible (first | refine bset ?_ ?_ | exact Below.refl _ _ | assumption | refine bdrewN ?_ _ | refine bdrew ?_ | refine balloc0 ?_ | refine balloc ?_ ?_ | (apply btrans0; rotate_left; assumption) | (apply btrans; rotate_left; assumption)) | exact Below.refl _ _ | assumption | (apply btrans0; rotate_left; assumption) | (apply btrans; rotate_left; assumption) | (simp; done) | omega | (simp; omega)))) HF.out).mono ?_
  unfold GroupsPost
  rw [HS.out]
  rintro e w2 ⟨r, rfl, hb2, hg2⟩
  simp only at hg2
  obtain ⟨ra, rc, rfl⟩ := hg2.len
  have HG2 := Lib.hid (hg2.mono (show w.heap.size ≤ w1.heap.size from hB1.size))
  have hB2 : Below w.heap.size w w2 := (by repeat' (first | with_reducible (first | refine bset ?_ ?_ | exact Below.refl _ _ | assumption | refine bdrewN ?_ _ | refine bdrew ?_ | refine balloc0 ?_ | refine balloc ?_ ?_ | (apply btrans0; rotate_left; assumption) | (apply btrans; rotate_left; assumption)) | exact Below.refl _ _ | assumption | (apply btrans0; rotate_left; assumption) | (apply btrans; rotate_left; assumption) | (simp; done) | omega | (simp; omega)))
  clear hg2 hb2 hb1 hB1
  have hgs : gs.length ≤ 9223372036854775807 := small3 HG2.out
  have hG2s : w.heap.size ≤ w2.heap.size := hB2.size
  have e0 := metX_zero ks l.length
  have HE0 := Lib.hid e0
  clear e0
  go_wp2
  go_loopw [39] (fun kv wr => ∃ (k : Nat), k ≤ gs.length ∧ kv = .int .i64 k ∧ Hid (wr.heap[w2.heap.size]? = some (.cells (ints (metX ks l.length k 0)).toArray 3 (0, 0))) ∧ Below w2.heap.size w2 wr ∧ w2.heap.size < wr.heap.size) (fun kv _ => gs.length - (intOf kv).toNat)
  case atStart =>
    exact ⟨0, Nat.zero_le _, rfl, Lib.hid (by rw [HE0.out]; exact heap_new), balloc0 (Below.refl _ _), by simp⟩
  case round =>
    obtain ⟨k, hk, rfl, HX, hB, hz⟩ := hrel
    have hBw : Below w.heap.size w wr := hB2.trans (hB.mono hG2s)
    by_cases hlt : k < gs.length
    · skip
      have hki : k < gb.length := by rw [← HI.out.len]; exact hlt
      have hgk : gs[k]? = some (grpI ks l.length k) := HI.out.at1 k hki
      obtain ⟨p, cc, x, hve, hp, hcx, hrx⟩ := HG2.out.get hgk
      injection hve with hva _ hvc
      subst hva hvc
      obtain ⟨xa, xc, rfl, x1, x2, x3, x4⟩ := hrx
      have hglen : (grpI ks l.length k).length = (mem ks l.length k).length := by simp [grpI]
      rw [hglen] at hcx x1 x4
      have hm0 : 0 < (mem ks l.length k).length := by
        obtain ⟨j, hj, hjk⟩ := HI.out.ne k hki
        exact List.length_pos_of_mem (mem_iff.2 ⟨hj, hjk⟩)
      obtain ⟨xb, xo, rfl, hxb, hxc⟩ := x4 hm0
      have hmle : (mem ks l.length k).length ≤ l.length := by
        have := List.length_filter_le (fun j => ks j == k) (List.range l.length)
        simpa [mem] using this
      have qx : wr.cell? ⟨p, k, none⟩ = some (.slice (some ⟨xb, xo, none⟩) (mem ks l.length k).length xc) := (hB.cell (p := ⟨p, k, none⟩) hp).trans hcx
      have hfit := HI.out.fit k hki
      unfold grpB at hfit
      obtain ⟨M, hM⟩ : ∃ q, mem ks l.length k = q := ⟨_, rfl⟩
      rw [hM] at qx hm0 hmle hfit
      have HFIT := Lib.hid hfit
      have HM := Lib.hid hM
      have HXC : Hid (∀ (j i : Nat), M[j]? = some i → w2.cell? ⟨xb, xo + j, none⟩ = some (.int .i64 (i : Int))) := Lib.hid (fun j i hj => hxc j i (by unfold grpI; rw [hM, List.getElem?_map, hj]; rfl))
      have hkI : (k : Int) < (gs.length : Int) := by omega
      have hk0 : (0 : Int) ≤ (k : Int) := by omega
      have dm0 : ((M.length : Int) == 0) = false := by rw [beq_eq_false_iff_ne]; omega
      clear hcx hxc x1 x2 x3 x4 hgk hglen hM hfit hki
      go_wp2
      go_loopw [10, 45] (fun av jv wq => ∃ (j : Nat), j ≤ M.length ∧ jv = .int .i64 j ∧ Hid (AllRow l w (w2.heap.size + 1) M j av wq) ∧ Hid (wq.heap[w2.heap.size]? = some (.cells (ints (metX ks l.length k j)).toArray 3 (0, 0))) ∧ Below w2.heap.size w2 wq ∧ w2.heap.size < wq.heap.size) (fun _ jv _ => M.length - (intOf jv).toNat)
      case atStart => exact ⟨0, Nat.zero_le _, rfl, Lib.hid AllRow.nil, HX, hB, hz⟩
      case round =>
        obtain ⟨j, hj, rfl, HAR, HXN, hB3, hz3⟩ := hrel
        have hBw3 : Below w.heap.size w wr := hB2.trans (hB3.mono hG2s)
        by_cases hlj : j < M.length
        · obtain ⟨i, hi⟩ : ∃ i, M[j]? = some i := ⟨_, List.getElem?_eq_getElem hlj⟩
          have him := mem_iff.1 (by rw [HM.out]; exact List.mem_of_getElem? hi)
          have hil := him.1
          obtain ⟨x, hx⟩ : ∃ x, l[i]? = some x := ⟨_, List.getElem?_eq_getElem hil⟩
          obtain ⟨lb, lo, rfl, hlb, hlc0⟩ := H4.out (by omega)
          obtain ⟨ux, hlc, hub⟩ := hlc0 i x hx
          obtain ⟨ua, uc, rfl, _⟩ := id hub
          have HUB := Lib.hid hub
          have qi : wr.cell? ⟨xb, xo + j, none⟩ = some (.int .i64 (i : Int)) := (hB3.cell (p := ⟨xb, xo + j, none⟩) hxb).trans (HXC.out j i hi)
          have i0 : (0 : Int) ≤ (i : Int) := by omega
          have i1 : (i : Int) < (l.length : Int) := by omega
          have di0 : decide ((i : Int) < 0) = false := decide_eq_false (by omega)
          have di1 : decide ((i : Int) ≥ (l.length : Int)) = false := decide_eq_false (by omega)
          have hmi : (mem ks l.length k)[j]? = some i := by rw [HM.out]; exact hi
          have HSET := Lib.hid (metX_set hmi)
          have hxl : (ints (metX ks l.length k j)).toArray.size = l.length := by simp [ints, metX_len]
          have HXB := HXN.out
          have c1 := fun q => cellB HXB q
          have f1 := fun q => frozenB HXB q
          have qm : wr.cell? ⟨w2.heap.size, i, none⟩ = some (.int .i64 0) := by rw [c1]; have := metX_old hmi; simp [ints, this]
          have j0 : (0 : Int) ≤ (j : Int) := by omega
          have j1 : (j : Int) < (M.length : Int) := by omega
          have HHI := Lib.hid hi
          have HHX := Lib.hid hx
          obtain ⟨gv, ho, hgv, hgr, hgn0⟩ := HAR.out
          have hgn : gv.length = j := by omega
          clear hgn0
          obtain ⟨va, vc, rfl⟩ := own_shape ho
          have HGV := Lib.hid hgv
          have HGR := Lib.hid hgr
          have HOW := Lib.hid ho
          have HGN := Lib.hid hgn
          have hgj : gv.length ≤ 64 := by omega
          obtain ⟨i3, hin, hz0, hz1, hz2⟩ := info_parts infoBun
          have HQ := Lib.hid (fun (V : World) (hV : Below w.heap.size w V) => ((fun o u ho => (hV.cell (p := ⟨lb, lo + i * 12 + o, none⟩) hlb).trans (hlc o u ho)) : ∀ (o : Nat) u, (bunC x (.slice ua x.blocks.length uc))[o]? = some u → V.cell? ⟨lb, lo + i * 12 + o, none⟩ = some u))
          clear hlc hlc0 hub hgv hgr ho hgn hmi him hi hx HAR c1
          by_cases hj0 : 0 < j
          · obtain ⟨i', hi'⟩ : ∃ i', M[j - 1]? = some i' := ⟨_, List.getElem?_eq_getElem (by omega)⟩
            have hasc : i' < i := mem_asc (ks := ks) (n := l.length) (k := k) (j := j - 1) (by rw [HM.out]; exact hi') (by rw [HM.out, show j - 1 + 1 = j from by omega]; exact HHI.out)
            have qj : wr.cell? ⟨xb, xo + (j - 1), none⟩ = some (.int .i64 (i' : Int)) := (hB3.cell (p := ⟨xb, xo + (j - 1), none⟩) hxb).trans (HXC.out (j - 1) i' hi')
            have dj : decide ((j : Int) > 0) = true := decide_eq_true (by omega)
            have da : decide ((i : Int) ≤ (i' : Int)) = false := decide_eq_false (by omega)
            have hwj : IntKind.i64.wrap ((j : Int) - 1) = (j : Int) - 1 := by rw [IntKind.wrap_i64]; omega
            obtain ⟨j', rfl⟩ : ∃ j', j = j' + 1 := ⟨j - 1, by omega⟩
            simp only [Nat.add_sub_cancel] at qj
            clear hi'
            as_aux_lemma =>
              go_upto_region 16 with fail
              go_upto_region 17 with fail
              generalize hw8 : wr.setCell ⟨w2.heap.size, i, none⟩ (.int .i64 1) = w8 at *
              have hB8 : Below w2.heap.size w2 w8 := by rw [← hw8]; exact bset hB3 (Nat.le_refl _)
              have HX8 : Hid (w8.heap[w2.heap.size]? = some (.cells (ints (metX ks l.length k (j' + 1 + 1))).toArray 3 (0, 0))) := Lib.hid (by
                rw [← hw8, heap_setCell_same wr w2.heap.size i _ 3 (.int .i64 1) HXN.out, ← HSET.out]
                simp [ints, List.map_set])
              have HO8 : Hid (w8.ownsRow (w2.heap.size + 1) 28 12 (.slice va gv.length vc) gv.length (flatU gv)) := Lib.hid (by
                rw [← hw8]
                exact own_kept1 HOW.out fun z hz => heap_setCell_other wr ⟨w2.heap.size, i, none⟩ z _ (by have := (HOW.out.lt z hz).1; show z ≠ w2.heap.size; omega))
              have hz8 : w2.heap.size < w8.heap.size := by rw [← hw8]; simpa using hz3
              have hBw8 : Below w.heap.size w w8 := hB2.trans (hB8.mono hG2s)
              have cq := HQ.out w8 hBw8
              clear hw8 qi qm f1 HXB hBw3 hB3 hz3
              obtain ⟨q0, q1, q2, q3, q4, q5, q6, q7, q8, q9, q10, q11⟩ := twelve cq
              clear cq
              apply wp_region_lit
              (iterate 5 (refine wpList_plain rfl (fun K hK => ?_); go_simp; refine hK _ _ ?_; clear hK K; (try simp only [Act.put, List.setIfInBounds_toArray, List.set_cons_zero, List.set_cons_succ])))
              refine wpList_plain rfl (fun K hK => ?_)
              refine wp_litBun rfl x (.slice ua x.blocks.length uc) rfl ?_
              refine hK _ _ ?_
              clear hK K q0 q1 q2 q3 q4 q5 q6 q7 q8 q9 q10 q11
              (try simp only [Act.put, List.setIfInBounds_toArray, List.set_cons_zero, List.set_cons_succ])
              refine wpList_append_F _ rfl _ _ _ rfl (w2.heap.size + 1) 28 i3 _ 12 120 Try.underlying30 hin hz0 hz1 hz2 rfl (by omega) (.slice va gv.length vc) gv.length (flatU gv) rfl (own_kept1 HO8.out (fun q hq => Below.heap_alloc _ _ _ (HO8.out.lt q hq).2)) ⟨w8.heap.size, 0, none⟩ 1 1 (bunC x (.slice ua x.blocks.length uc)) rfl rfl (news_one heap_new) (bunC_one rfl) (by simp only [maxLen]; omega) (by omega) (by simp; omega) (by omega) ?_
              intro vo w9 ho9 hg9 hf9
              (try simp only [Act.put, List.setIfInBounds_toArray, List.set_cons_zero, List.set_cons_succ])
              have hs9 := hg9.size
              simp at hs9
              have hB9 : Below w2.heap.size w2 w9 := (balloc hB8 (by omega)).grown hg9 (by simp; omega) (fun q hq => by have := (HO8.out.lt q hq).1; omega)
              have HX9 : Hid (w9.heap[w2.heap.size]? = some (.cells (ints (metX ks l.length k (j' + 1 + 1))).toArray 3 (0, 0))) := Lib.hid ((grown_keep hg9 (by simp; omega) (fun e => by have := (HO8.out.lt _ e).1; omega)).trans ((Below.heap_alloc _ _ _ hz8).trans HX8.out))
              have HA9 : Hid (AllRow l w (w2.heap.size + 1) M (j' + 1 + 1) vo w9) := Lib.hid ⟨gv ++ [(x, .slice ua x.blocks.length uc)], by simpa [flatU] using ho9, by
                rw [List.take_add_one, HHI.out, List.map_append, ← HGV.out]
                simp [buns, List.getD_eq_getElem?_getD, HHX.out], fun r hr => by
                  rcases List.mem_append.1 hr with hr | hr
                  · exact HGR.out r hr
                  · simp at hr; subst hr; exact HUB.out, by simp [HGN.out]; omega⟩
              clear ho9 hg9 hf9
              go_wp2
              refine ⟨⟨j' + 1 + 1, by omega, by go_num, HA9, HX9, hB9, by omega⟩, by simp [intOf]; omega⟩
          · have dj : decide ((j : Int) > 0) = false := decide_eq_false (by omega)
            as_aux_lemma =>
              go_upto_region 16 with fail
              go_upto_region 17 with fail
              generalize hw8 : wr.setCell ⟨w2.heap.size, i, none⟩ (.int .i64 1) = w8 at *
              have hB8 : Below w2.heap.size w2 w8 := by rw [← hw8]; exact bset hB3 (Nat.le_refl _)
              have HX8 : Hid (w8.heap[w2.heap.size]? = some (.cells (ints (metX ks l.length k (j + 1))).toArray 3 (0, 0))) := Lib.hid (by
                rw [← hw8, heap_setCell_same wr w2.heap.size i _ 3 (.int .i64 1) HXN.out, ← HSET.out]
                simp [ints, List.map_set])
              have HO8 : Hid (w8.ownsRow (w2.heap.size + 1) 28 12 (.slice va gv.length vc) gv.length (flatU gv)) := Lib.hid (by
                rw [← hw8]
                exact own_kept1 HOW.out fun z hz => heap_setCell_other wr ⟨w2.heap.size, i, none⟩ z _ (by have := (HOW.out.lt z hz).1; show z ≠ w2.heap.size; omega))
              have hz8 : w2.heap.size < w8.heap.size := by rw [← hw8]; simpa using hz3
              have hBw8 : Below w.heap.size w w8 := hB2.trans (hB8.mono hG2s)
              have cq := HQ.out w8 hBw8
              clear hw8 qi qm f1 HXB hBw3 hB3 hz3
              obtain ⟨q0, q1, q2, q3, q4, q5, q6, q7, q8, q9, q10, q11⟩ := twelve cq
              clear cq
              apply wp_region_lit
              (iterate 5 (refine wpList_plain rfl (fun K hK => ?_); go_simp; refine hK _ _ ?_; clear hK K; (try simp only [Act.put, List.setIfInBounds_toArray, List.set_cons_zero, List.set_cons_succ])))
              refine wpList_plain rfl (fun K hK => ?_)
              refine wp_litBun rfl x (.slice ua x.blocks.length uc) rfl ?_
              refine hK _ _ ?_
              clear hK K q0 q1 q2 q3 q4 q5 q6 q7 q8 q9 q10 q11
              (try simp only [Act.put, List.setIfInBounds_toArray, List.set_cons_zero, List.set_cons_succ])
              refine wpList_append_F _ rfl _ _ _ rfl (w2.heap.size + 1) 28 i3 _ 12 120 Try.underlying30 hin hz0 hz1 hz2 rfl (by omega) (.slice va gv.length vc) gv.length (flatU gv) rfl (own_kept1 HO8.out (fun q hq => Below.heap_alloc _ _ _ (HO8.out.lt q hq).2)) ⟨w8.heap.size, 0, none⟩ 1 1 (bunC x (.slice ua x.blocks.length uc)) rfl rfl (news_one heap_new) (bunC_one rfl) (by simp only [maxLen]; omega) (by omega) (by simp; omega) (by omega) ?_
              intro vo w9 ho9 hg9 hf9
              (try simp only [Act.put, List.setIfInBounds_toArray, List.set_cons_zero, List.set_cons_succ])
              have hs9 := hg9.size
              simp at hs9
              have hB9 : Below w2.heap.size w2 w9 := (balloc hB8 (by omega)).grown hg9 (by simp; omega) (fun q hq => by have := (HO8.out.lt q hq).1; omega)
              have HX9 : Hid (w9.heap[w2.heap.size]? = some (.cells (ints (metX ks l.length k (j + 1))).toArray 3 (0, 0))) := Lib.hid ((grown_keep hg9 (by simp; omega) (fun e => by have := (HO8.out.lt _ e).1; omega)).trans ((Below.heap_alloc _ _ _ hz8).trans HX8.out))
              have HA9 : Hid (AllRow l w (w2.heap.size + 1) M (j + 1) vo w9) := Lib.hid ⟨gv ++ [(x, .slice ua x.blocks.length uc)], by simpa [flatU] using ho9, by
                rw [List.take_add_one, HHI.out, List.map_append, ← HGV.out]
                simp [buns, List.getD_eq_getElem?_getD, HHX.out], fun r hr => by
                  rcases List.mem_append.1 hr with hr | hr
                  · exact HGR.out r hr
                  · simp at hr; subst hr; exact HUB.out, by simp [HGN.out]; omega⟩
              clear ho9 hg9 hf9
              go_wp2
              refine ⟨⟨j + 1, by omega, by go_num, HA9, HX9, hB9, by omega⟩, by simp [intOf]; omega⟩
        · obtain rfl : j = M.length := by omega
          have HN2 := Lib.hid (metX_next ks l.length k)
          rw [HM.out] at HN2
          obtain ⟨gv, ho, hgv, hgr, hgn0⟩ := id HAR.out
          have hgn : gv.length = M.length := by omega
          clear hgn0
          obtain ⟨va, vc, rfl⟩ := own_shape ho
          have HRB := Lib.hid (HAR.out.rbuns hBw3)
          rw [hgn] at HAR HRB ⊢
          have HAF : Hid (∀ y ∈ M.map (fun i => l.getD i zBun), Fits y) := Lib.hid (fun y hy => by
            obtain ⟨i, hi, rfl⟩ := List.mem_map.1 hy
            have him := (mem_iff.1 (by rw [HM.out]; exact hi : i ∈ mem ks l.length k)).1
            exact HF.out _ (by rw [List.getD_eq_getElem?_getD, List.getElem?_eq_getElem him]; exact List.getElem_mem him))
          obtain ⟨⟨b, EJ⟩, hj⟩ : ∃ q, joinS (M.map fun i => l.getD i zBun) 1 = q := ⟨_, rfl⟩
          have HJ := Lib.hid hj
          have HJF : Hid (1 < M.length → EJ = 0 ∧ ((b.payload.length : Nat) : Int) ≤ most) := Lib.hid (fun h => by
            have := HFIT.out h
            obtain ⟨e1, e2⟩ := fit_join this n2
            rw [hj] at e1 e2
            exact ⟨e1, by simp only at e2; rw [e2]; exact this.2.2⟩)
          have hml : (M.map fun i => l.getD i zBun).length ≤ 20000 := by simp; omega
          clear ho hgv hgr hgn hj HAR
          obtain ⟨w3, hw3⟩ : ∃ q, q = wr := ⟨_, rfl⟩
          subst hw3
          as_aux_lemma =>
            go_wp2_with fail
            refine (join_any _ _ 1 _ (by simpa using HRB.out) HAF.out hml).mono ?_
            unfold JoinPost
            rw [HJ.out]
            rintro e w4 ⟨rfl, hb4⟩
            simp only [bunC]
            have HX4 : Hid (w4.heap[w2.heap.size]? = some (.cells (ints (metX ks l.length (k + 1) 0)).toArray 3 (0, 0))) := Lib.hid (by rw [← HN2.out]; exact (hb4.block _ hz3).trans HXN.out)
            have hB4 : Below w2.heap.size w2 w4 := hB3.trans (hb4.mono (by omega))
            have hz4 : w2.heap.size < w4.heap.size := by have := hb4.size; omega
            clear hb4
            go_upto_region 20 with fail
            by_cases hM1 : 1 < M.length
            · obtain ⟨rfl, hpl⟩ := HJF.out hM1
              have d1 : decide ((M.length : Int) > 1) = true := decide_eq_true (by omega)
              have d3 : decide (((b.payload.length : Nat) : Int) > most) = false := decide_eq_false (by omega)
              go_wp2
              refine ⟨⟨k + 1, by omega, by go_num, Lib.hid ?_, (by repeat' (first | with_reducible (first | refine bset ?_ ?_ | exact Below.refl _ _ | assumption | refine bdrewN ?_ _ | refine bdrew ?_ | refine balloc0 ?_ | refine balloc ?_ ?_ | (apply btrans0; rotate_left; assumption) | (apply btrans; rotate_left; assumption)) | exact Below.refl _ _ | assumption | (apply btrans0; rotate_left; assumption) | (apply btrans; rotate_left; assumption) | (simp; done) | omega | (simp; omega))), ?_⟩, by simp [intOf]; omega⟩
              · exact (Below.heap_alloc _ _ _ hz4).trans HX4.out
              · simp; omega
            · have d1 : decide ((M.length : Int) > 1) = false := decide_eq_false (by omega)
              go_wp2
              refine ⟨⟨k + 1, by omega, by go_num, Lib.hid ?_, (by repeat' (first | with_reducible (first | refine bset ?_ ?_ | exact Below.refl _ _ | assumption | refine bdrewN ?_ _ | refine bdrew ?_ | refine balloc0 ?_ | refine balloc ?_ ?_ | (apply btrans0; rotate_left; assumption) | (apply btrans; rotate_left; assumption)) | exact Below.refl _ _ | assumption | (apply btrans0; rotate_left; assumption) | (apply btrans; rotate_left; assumption) | (simp; done) | omega | (simp; omega))), ?_⟩, by simp [intOf]; omega⟩
              · exact (Below.heap_alloc _ _ _ hz4).trans HX4.out
              · simp; omega
    · obtain rfl : k = gs.length := by omega
      have HEND : Hid (∀ i, i < l.length → (metX ks l.length gs.length 0)[i]? = some 1) := Lib.hid (fun i hi => metX_end (fun j hj => by rw [HI.out.len]; exact HI.out.lt j hj) hi)
      clear hBw
      as_aux_lemma =>
        go_wp2
        go_loopw [112] (fun iv w3 => ∃ i : Nat, i ≤ l.length ∧ iv = .int .i64 i ∧ Hid (w3.heap[w2.heap.size]? = some (.cells (ints (metX ks l.length gs.length 0)).toArray 3 (0, 0))) ∧ Below w2.heap.size w2 w3 ∧ w2.heap.size < w3.heap.size) (fun iv _ => l.length - (intOf iv).toNat)
        case atStart => exact ⟨0, Nat.zero_le _, rfl, HX, hB, hz⟩
        case round =>
          obtain ⟨i, hi, rfl, HX3, hB3, hz3⟩ := hrel
          by_cases hil : i < l.length
          · have HX3' := HX3.out
            have qk : wr.cell? ⟨w2.heap.size, i, none⟩ = some (.int .i64 1) := by rw [cellB HX3' i]; simp [ints, HEND.out i hil]
            have hxl : (ints (metX ks l.length gs.length 0)).toArray.size = l.length := by simp [ints, metX_len]
            have i0 : (0 : Int) ≤ (i : Int) := by omega
            have i1 : (i : Int) < (l.length : Int) := by omega
            clear HX3'
            as_aux_lemma =>
              go_wp2
              refine ⟨⟨i + 1, by omega, by go_num, HX3, hB3, hz3⟩, by simp [intOf]; omega⟩
          · obtain rfl : i = l.length := by omega
            have hBw : Below w.heap.size w wr := hB2.trans (hB3.mono hG2s)
            as_aux_lemma =>
              go_wp2_with fail
              refine (awake_any _).mono ?_
              rintro e w99 ⟨rfl, hb99⟩
              go_wp2
              go_ret
              exact ⟨rfl, (by repeat' (first | with_reducible (first | refine bset ?_ ?_ | exact Below.refl _ _ | assumption | refine bdrewN ?_ _ | refine bdrew ?_ | refine balloc0 ?_ | refine balloc ?_ ?_ | (apply btrans0; rotate_left; assumption) | (apply btrans; rotate_left; assumption)) | exact Below.refl _ _ | assumption | (apply btrans0; rotate_left; assumption) | (apply btrans; rotate_left; assumption) | (simp; done) | omega | (simp; omega)))⟩
theorem walk (l : List Bun) (v : Value) (most : Int) (w : World) (hr : RBuns w w.heap.size v l) (hf : ∀ x ∈ l, Fits x)  :
    Calls Try.prog 9 #[v, .int .i64 most] w (Says w) := by
  by_cases h2 : (grS l most).2 = 0
  · exact way3 l v most w hr hf h2
  · exact way2 l v most w hr hf h2

set_option maxRecDepth 100000 in
theorem lifted (os : Os) (started : os.Started) (H : Type) (enc : TypeId × Value → H) :
    ReturnsInHanded {} Try.checked os 9 .any (Rows.aggregateGroupedSpec.pre6 enc Try.prog Try.f9 Rows.aggregateGroupedRow.domain false) (Rows.aggregateGroupedSpec.post enc Try.prog Try.f9 false true false false) := by
  refine returnsInHanded_of_change (C := Try.checked) own started (by kernel_rfl) Try.func9
    (ChangeSpec.witness6 (enc := enc) (C := Try.checked) false ⟨#[], #[.slice none 0 0, .int .i64 0], []⟩ 8 (by kernel_rfl) (by kernel_rfl) (by kernel_rfl) (by kernel_rfl)) ?_
  intro W base args ds gs before hval0 hW hcnd _
  have hval : ∀ (j : Nat) t v, Try.f9.params[j]? = some t → args[j]? = some v → Value.okWide Try.prog W .any base t v := hval0
  have hW' := hW
  obtain ⟨p, q, hA0, hV, rfl, hfz, hnd⟩ := hW
  have hA : DataW.TrodAll enc Try.prog W 0 (fun _ => true) true Try.f9.params.toList args.toList ds p := hA0
  rw [Try.params9] at hA hval
  obtain ⟨v0, vs0, d0, ds0, p0, q0, hargs, rfl, rfl, h0, r0⟩ := trodAll_cons hA
  obtain ⟨v1, vs1, d1, ds1, p1, q1, rfl, rfl, rfl, h1, r1⟩ := trodAll_cons r0
  obtain ⟨rfl, rfl, rfl⟩ := trodAll_nil r1
  obtain rfl : args = #[v0, v1] := by cases args; simp_all
  obtain ⟨x0, hr0, hf0⟩ := open_buns_arg (hval 0 30 v0 rfl rfl) h0
  obtain ⟨x1, rfl, _, _, wx1⟩ := open_int Try.underlying3 (hval 1 3 v1 rfl rfl) h1
  refine (walk x0 v0 x1 W hr0 hf0).mono fun e W' ⟨he, hB⟩ => ?_
  subst he
  refine ⟨_, rfl, law_post (by kernel_rfl) (by kernel_rfl) rfl Try.underlying4 rfl ?_ hW' hB⟩
  intro es hes
  match es, hes with
  | [_, _], _ => rfl

theorem proved : Rows.AggregateGroupedSaid :=
  OpenClaim.holds_of_wide 9 Try.f9 rfl rfl rfl rfl rfl rfl rfl ⟨rfl, rfl, rfl, rfl, rfl⟩ rfl rfl rfl rfl rfl (by kernel_rfl) Try.func9 (by kernel_rfl)
    (of_decide_eq_true (by kernel_rfl)) (by unfold Func.isWrapper; first | (rw [if_pos (by decide +kernel)]; kernel_rfl) | (rw [if_neg (by decide +kernel)]; exact ⟨rfl, rfl⟩))
    (fun os started H enc _ => lifted os started H enc)
#print axioms proved
end Go.Proofs.Ytpkklmkeflddkaa.aggregateGrouped
