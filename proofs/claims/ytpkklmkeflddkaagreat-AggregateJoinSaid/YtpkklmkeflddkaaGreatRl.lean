/- Chapter 19, the reference: fits (a bundle joins a group). -/
import Derived.Test.YtpkklmkeflddkaaGreatRj
import Derived.Test.YtpkklmkeflddkaaGreatRk
import Derived.Laws.MakeOwn
import Derived.Laws.OwnMore
import Derived.BigQuiet
import Derived.BigRegion
import Derived.Deep.DeepCutAuto
import Derived.Deep.CutBlock
set_option linter.unusedVariables false
set_option linter.unusedSimpArgs false
namespace Go.Proofs.YtpkklmkeflddkaaGreat
open Go Go.RowKit
attribute [local go_sem] B_getElem B_size B_app B_extract B_get B_toList

set_option maxRecDepth 100000 in
set_option maxHeartbeats 16000000 in
theorem rfits_any (l : List Bun) (v : Value) (g : List Int) (u : Value) (i : Nat) (b : Bun) (most : Int) (w : World) (h : RBuns w w.heap.size v l) (hf : ∀ x ∈ l, Fits x) (hg : RInts w w.heap.size u g) (hi : ∀ j ∈ g, 0 ≤ j ∧ j < (l.length : Int)) (hb : l[i]? = some b) (hgl : g.length ≤ 64) :
    Calls Tryz.prog 32 #[v, u, .int .i64 i, .int .i64 most] w fun e w' => e = .returned (.bool (fitB most b (pick l g))) ∧ Below w.heap.size w w' := by
  have HF := Lib.hid hf
  obtain ⟨a, c, rfl, h1, h2, h3, h4⟩ := h
  obtain ⟨ga, gc, rfl, g1, g2, g3, g4⟩ := hg
  unfold maxLen at h2 g2
  have H4 := Lib.hid h4
  have G4 := Lib.hid g4
  have HI := Lib.hid hi
  have HBB := Lib.hid hb
  have hil : i < l.length := by
    rcases Nat.lt_or_ge i l.length with z | z
    · exact z
    · rw [List.getElem?_eq_none z] at hb; cases hb
  have hlen : l.length ≤ 9223372036854775807 := by omega
  obtain ⟨i3, hin, hz0, hz1, hz2⟩ := info_parts infoBun
  have HFB : Hid (Fits b) := Lib.hid (hf b (List.mem_of_getElem? hb))
  clear h3 h4 g3 g4 hi hb hf
  go_enter Tryz.func32, Tryz.ntmps32
  go_wp2
  go_loopw [9, 10] (fun av jv wq => ∃ (j : Nat), j ≤ g.length ∧ jv = .int .i64 j ∧ Hid (PickRow l w g j av wq) ∧ Below w.heap.size w wq) (fun _ jv _ => g.length - (intOf jv).toNat)
  case atStart => exact ⟨0, Nat.zero_le _, rfl, Lib.hid PickRow.nil, Below.refl _ _⟩
  case round =>
    obtain ⟨j, hj, rfl, HAR, hB⟩ := hrel
    obtain ⟨gv, ho, hgv, hgr, hgn0⟩ := HAR.out
    have hgn : gv.length = j := by omega
    obtain ⟨va, vc, rfl⟩ := own_shape ho
    have HGV := Lib.hid hgv
    have HGR := Lib.hid hgr
    have HOW := Lib.hid ho
    have HGN := Lib.hid hgn
    have hgj : gv.length ≤ 64 := by omega
    clear hgn0 hgv hgr ho
    by_cases hlj : j < g.length
    · obtain ⟨ii, hii⟩ : ∃ ii, g[j]? = some ii := ⟨_, List.getElem?_eq_getElem hlj⟩
      obtain ⟨k1, k2⟩ := HI.out ii (List.mem_of_getElem? hii)
      obtain ⟨k, rfl⟩ := Int.eq_ofNat_of_zero_le k1
      have hkl : k < l.length := by omega
      obtain ⟨x, hx⟩ : ∃ x, l[k]? = some x := ⟨_, List.getElem?_eq_getElem hkl⟩
      obtain ⟨lb, lo, rfl, hlb, hlc0⟩ := H4.out (by omega)
      obtain ⟨ux, hlc, hub⟩ := hlc0 k x hx
      obtain ⟨ua, uc, rfl, _⟩ := id hub
      have HUB := Lib.hid hub
      obtain ⟨gb, go, rfl, hgb, hgc⟩ := G4.out (by omega)
      have qi : wr.cell? ⟨gb, go + j, none⟩ = some (.int .i64 (k : Int)) := (hB.cell (p := ⟨gb, go + j, none⟩) hgb).trans (hgc j _ hii)
      have q0 : wr.cell? ⟨lb, lo + k * 12, none⟩ = some (.int .i64 x.src) := (hB.cell (p := ⟨lb, lo + k * 12 + 0, none⟩) hlb).trans (hlc 0 _ rfl)
      have q1 : wr.cell? ⟨lb, lo + k * 12 + 1, none⟩ = some (.int .i64 x.crt) := (hB.cell (p := ⟨lb, lo + k * 12 + 1, none⟩) hlb).trans (hlc 1 _ rfl)
      have q2 : wr.cell? ⟨lb, lo + k * 12 + 2, none⟩ = some (.int .i64 x.seq) := (hB.cell (p := ⟨lb, lo + k * 12 + 2, none⟩) hlb).trans (hlc 2 _ rfl)
      have q3 : wr.cell? ⟨lb, lo + k * 12 + 3, none⟩ = some (.int .i64 x.off) := (hB.cell (p := ⟨lb, lo + k * 12 + 3, none⟩) hlb).trans (hlc 3 _ rfl)
      have q4 : wr.cell? ⟨lb, lo + k * 12 + 4, none⟩ = some (.int .i64 x.tot) := (hB.cell (p := ⟨lb, lo + k * 12 + 4, none⟩) hlb).trans (hlc 4 _ rfl)
      have q5 : wr.cell? ⟨lb, lo + k * 12 + 5, none⟩ = some (.int .i64 x.dk) := (hB.cell (p := ⟨lb, lo + k * 12 + 5, none⟩) hlb).trans (hlc 5 _ rfl)
      have q6 : wr.cell? ⟨lb, lo + k * 12 + 6, none⟩ = some (.int .i64 x.dn) := (hB.cell (p := ⟨lb, lo + k * 12 + 6, none⟩) hlb).trans (hlc 6 _ rfl)
      have q7 : wr.cell? ⟨lb, lo + k * 12 + 7, none⟩ = some (.int .i64 x.life) := (hB.cell (p := ⟨lb, lo + k * 12 + 7, none⟩) hlb).trans (hlc 7 _ rfl)
      have q8 : wr.cell? ⟨lb, lo + k * 12 + 8, none⟩ = some (.int .i64 x.prio) := (hB.cell (p := ⟨lb, lo + k * 12 + 8, none⟩) hlb).trans (hlc 8 _ rfl)
      have q9 : wr.cell? ⟨lb, lo + k * 12 + 9, none⟩ = some (.int .i64 x.flags) := (hB.cell (p := ⟨lb, lo + k * 12 + 9, none⟩) hlb).trans (hlc 9 _ rfl)
      have q10 : wr.cell? ⟨lb, lo + k * 12 + 10, none⟩ = some (.slice ua x.blocks.length uc) := (hB.cell (p := ⟨lb, lo + k * 12 + 10, none⟩) hlb).trans (hlc 10 _ rfl)
      have q11 : wr.cell? ⟨lb, lo + k * 12 + 11, none⟩ = some (.string (B x.payload)) := (hB.cell (p := ⟨lb, lo + k * 12 + 11, none⟩) hlb).trans (hlc 11 _ rfl)
      have j0 : (0 : Int) ≤ (j : Int) := by omega
      have j1 : (j : Int) < (g.length : Int) := by omega
      have HSN := Lib.hid (pick_snoc hii hx)
      clear hlc0 hlc hub hgc hii hx hgn HAR
      as_aux_lemma =>
        go_upto_region 5 with fail
        apply wp_region_lit
        (iterate 8 (refine wpList_plain rfl (fun K hK => ?_); go_simp; refine hK _ _ ?_; clear hK K; (try simp only [Act.put, List.setIfInBounds_toArray, List.set_cons_zero, List.set_cons_succ])))
        refine wpList_plain rfl (fun K hK => ?_)
        refine wp_litBun rfl x (.slice ua x.blocks.length uc) rfl ?_
        refine hK _ _ ?_
        clear hK K q0 q1 q2 q3 q4 q5 q6 q7 q8 q9 q10 q11
        (try simp only [Act.put, List.setIfInBounds_toArray, List.set_cons_zero, List.set_cons_succ])
        refine wpList_append_F _ rfl _ _ _ rfl w.heap.size 31 i3 _ 12 120 Tryz.underlying22 hin hz0 hz1 hz2 rfl (by omega) (.slice va gv.length vc) gv.length (flatU gv) rfl (own_kept1 HOW.out (fun q hq => Below.heap_alloc _ _ _ (HOW.out.lt q hq).2)) ⟨wr.heap.size, 0, none⟩ 1 1 (bunC x (.slice ua x.blocks.length uc)) rfl rfl (news_one heap_new) (bunC_one rfl) (by simp only [maxLen]; omega) (by omega) (by simp; have := hB.size; omega) (by omega) ?_
        intro vo w9 ho9 hg9 hf9
        (try simp only [Act.put, List.setIfInBounds_toArray, List.set_cons_zero, List.set_cons_succ])
        have hs9 := hg9.size
        simp at hs9
        have hB9 : Below w.heap.size w w9 := (balloc0 hB).grown hg9 (by simp; have := hB.size; omega) (fun q hq => (HOW.out.lt q hq).1)
        have HA9 : Hid (PickRow l w g (j + 1) vo w9) := Lib.hid ⟨gv ++ [(x, Value.slice ua x.blocks.length uc)], by simpa [flatU] using ho9, by
          rw [HSN.out, ← HGV.out]
          simp [buns], fun r hr => by
          rcases List.mem_append.1 hr with hr | hr
          · exact HGR.out r hr
          · simp at hr; subst hr; exact HUB.out, by simp [HGN.out]; omega⟩
        clear ho9 hg9 hf9
        go_wp2
        refine ⟨⟨j + 1, by omega, by go_num, HA9, hB9⟩, by simp [intOf]; omega⟩
    · obtain rfl : j = g.length := by omega
      obtain ⟨x, hxb⟩ : ∃ x, x = b := ⟨_, rfl⟩
      subst hxb
      obtain ⟨lb, lo, rfl, hlb, hlc0⟩ := H4.out (by omega)
      obtain ⟨ux, hlc, hub⟩ := hlc0 i x HBB.out
      obtain ⟨ua, uc, rfl, _⟩ := id hub
      have HUB := Lib.hid hub
      have q0 : wr.cell? ⟨lb, lo + i * 12, none⟩ = some (.int .i64 x.src) := (hB.cell (p := ⟨lb, lo + i * 12 + 0, none⟩) hlb).trans (hlc 0 _ rfl)
      have q1 : wr.cell? ⟨lb, lo + i * 12 + 1, none⟩ = some (.int .i64 x.crt) := (hB.cell (p := ⟨lb, lo + i * 12 + 1, none⟩) hlb).trans (hlc 1 _ rfl)
      have q2 : wr.cell? ⟨lb, lo + i * 12 + 2, none⟩ = some (.int .i64 x.seq) := (hB.cell (p := ⟨lb, lo + i * 12 + 2, none⟩) hlb).trans (hlc 2 _ rfl)
      have q3 : wr.cell? ⟨lb, lo + i * 12 + 3, none⟩ = some (.int .i64 x.off) := (hB.cell (p := ⟨lb, lo + i * 12 + 3, none⟩) hlb).trans (hlc 3 _ rfl)
      have q4 : wr.cell? ⟨lb, lo + i * 12 + 4, none⟩ = some (.int .i64 x.tot) := (hB.cell (p := ⟨lb, lo + i * 12 + 4, none⟩) hlb).trans (hlc 4 _ rfl)
      have q5 : wr.cell? ⟨lb, lo + i * 12 + 5, none⟩ = some (.int .i64 x.dk) := (hB.cell (p := ⟨lb, lo + i * 12 + 5, none⟩) hlb).trans (hlc 5 _ rfl)
      have q6 : wr.cell? ⟨lb, lo + i * 12 + 6, none⟩ = some (.int .i64 x.dn) := (hB.cell (p := ⟨lb, lo + i * 12 + 6, none⟩) hlb).trans (hlc 6 _ rfl)
      have q7 : wr.cell? ⟨lb, lo + i * 12 + 7, none⟩ = some (.int .i64 x.life) := (hB.cell (p := ⟨lb, lo + i * 12 + 7, none⟩) hlb).trans (hlc 7 _ rfl)
      have q8 : wr.cell? ⟨lb, lo + i * 12 + 8, none⟩ = some (.int .i64 x.prio) := (hB.cell (p := ⟨lb, lo + i * 12 + 8, none⟩) hlb).trans (hlc 8 _ rfl)
      have q9 : wr.cell? ⟨lb, lo + i * 12 + 9, none⟩ = some (.int .i64 x.flags) := (hB.cell (p := ⟨lb, lo + i * 12 + 9, none⟩) hlb).trans (hlc 9 _ rfl)
      have q10 : wr.cell? ⟨lb, lo + i * 12 + 10, none⟩ = some (.slice ua x.blocks.length uc) := (hB.cell (p := ⟨lb, lo + i * 12 + 10, none⟩) hlb).trans (hlc 10 _ rfl)
      have q11 : wr.cell? ⟨lb, lo + i * 12 + 11, none⟩ = some (.string (B x.payload)) := (hB.cell (p := ⟨lb, lo + i * 12 + 11, none⟩) hlb).trans (hlc 11 _ rfl)
      have i0 : (0 : Int) ≤ (i : Int) := by omega
      have i1 : (i : Int) < (l.length : Int) := by omega
      clear hlc0 hlc hub hgn HAR
      have hpa : (pick l g ++ [x]).length ≤ 20000 := by simp [pick]; omega
      have HPF : Hid (∀ y ∈ pick l g ++ [x], Fits y) := Lib.hid (fun y hy => by
        rcases List.mem_append.1 hy with hy | hy
        · obtain ⟨m, hm, rfl⟩ := List.mem_map.1 hy
          obtain ⟨k1, k2⟩ := HI.out m hm
          have hm : m.toNat < l.length := by omega
          exact HF.out _ (by rw [List.getD_eq_getElem?_getD, List.getElem?_eq_getElem hm]; exact List.getElem_mem hm)
        · simp at hy; subst hy; exact HFB.out)
      obtain ⟨A, hA⟩ : ∃ q, pick l g ++ [x] = q := ⟨_, rfl⟩
      have hfit : fitB most x (pick l g) = ((rjS A 0 == 0) && decide (((payS A).length : Int) ≤ most)) := by rw [← hA, rjS_zero]; rfl
      have HAA := Lib.hid hA
      rw [hA] at hpa HPF
      obtain ⟨J, hJ⟩ : ∃ q, rjS A 0 = q := ⟨_, rfl⟩
      have HJ := Lib.hid hJ
      obtain ⟨P, hP⟩ : ∃ q, payS A = q := ⟨_, rfl⟩
      have HP := Lib.hid hP
      rw [hJ, hP] at hfit
      have HFIT := Lib.hid hfit
      clear hA hfit hJ hP
      as_aux_lemma =>
        go_upto_region 6 with fail
        apply wp_region_lit
        (iterate 5 (refine wpList_plain rfl (fun K hK => ?_); go_simp; refine hK _ _ ?_; clear hK K; (try simp only [Act.put, List.setIfInBounds_toArray, List.set_cons_zero, List.set_cons_succ])))
        refine wpList_plain rfl (fun K hK => ?_)
        refine wp_litBun rfl x (.slice ua x.blocks.length uc) rfl ?_
        refine hK _ _ ?_
        clear hK K q0 q1 q2 q3 q4 q5 q6 q7 q8 q9 q10 q11
        (try simp only [Act.put, List.setIfInBounds_toArray, List.set_cons_zero, List.set_cons_succ])
        refine wpList_append_F _ rfl _ _ _ rfl w.heap.size 31 i3 _ 12 120 Tryz.underlying22 hin hz0 hz1 hz2 rfl (by omega) (.slice va gv.length vc) gv.length (flatU gv) rfl (own_kept1 HOW.out (fun q hq => Below.heap_alloc _ _ _ (HOW.out.lt q hq).2)) ⟨wr.heap.size, 0, none⟩ 1 1 (bunC x (.slice ua x.blocks.length uc)) rfl rfl (news_one heap_new) (bunC_one rfl) (by simp only [maxLen]; omega) (by omega) (by simp; have := hB.size; omega) (by omega) ?_
        intro vo w9 ho9 hg9 hf9
        (try simp only [Act.put, List.setIfInBounds_toArray, List.set_cons_zero, List.set_cons_succ])
        have hs9 := hg9.size
        simp at hs9
        have hB9 : Below w.heap.size w w9 := (balloc0 hB).grown hg9 (by simp; have := hB.size; omega) (fun q hq => (HOW.out.lt q hq).1)
        have HA9 : Hid (RBuns w9 w9.heap.size vo A) := Lib.hid (by
          have h1 : w9.ownsRow w.heap.size 31 12 vo (gv ++ [(x, Value.slice ua x.blocks.length uc)]).length (flatU (gv ++ [(x, Value.slice ua x.blocks.length uc)])) := by simpa [flatU] using ho9
          have := RBuns.of_own h1 (fun r hr => by
            rcases List.mem_append.1 hr with hr | hr
            · exact (HGR.out r hr).below' hB9
            · simp at hr; subst hr; exact HUB.out.below' hB9)
          have e : List.map (fun x => x.1) (gv ++ [(x, Value.slice ua x.blocks.length uc)]) = pick l g ++ [x] := by
            rw [List.map_append]
            have := HGV.out
            rw [List.take_length] at this
            unfold buns at this
            rw [this]
            rfl
          rw [e, HAA.out] at this
          exact this)
        obtain ⟨va9, vc9, rfl⟩ : ∃ va9 vc9, vo = .slice va9 A.length vc9 := by obtain ⟨a, c, rfl, _⟩ := HA9.out; exact ⟨a, c, rfl⟩
        clear ho9 hg9 hf9
        by_cases j0 : J = 0
        · subst j0
          by_cases pm : (P.length : Int) ≤ most
          · have dm : decide ((P.length : Int) ≤ most) = true := decide_eq_true pm
            go_wp2_with fail
            refine (joinable_any A _ 0 _ (HA9.out.below'' (by repeat' (first | with_reducible (first | refine bset ?_ ?_ | exact Below.refl _ _ | assumption | refine bdrewN ?_ _ | refine bdrew ?_ | refine balloc0 ?_ | refine balloc ?_ ?_ | (apply btrans0; rotate_left; assumption) | (apply btrans; rotate_left; assumption)) | exact Below.refl _ _ | assumption | (apply btrans0; rotate_left; assumption) | (apply btrans; rotate_left; assumption) | (simp; done) | omega | (simp; omega)))) HPF.out).mono ?_
            rw [HJ.out]
            rintro e w10 ⟨rfl, hb10⟩
            go_wp2_with fail
            refine (rpayload_any A _ _ (HA9.out.below'' (by repeat' (first | with_reducible (first | refine bset ?_ ?_ | exact Below.refl _ _ | assumption | refine bdrewN ?_ _ | refine bdrew ?_ | refine balloc0 ?_ | refine balloc ?_ ?_ | (apply btrans0; rotate_left; assumption) | (apply btrans; rotate_left; assumption)) | exact Below.refl _ _ | assumption | (apply btrans0; rotate_left; assumption) | (apply btrans; rotate_left; assumption) | (simp; done) | omega | (simp; omega)))) HPF.out hpa).mono ?_
            rw [HP.out]
            rintro e w11 ⟨rfl, hb11⟩
            go_wp2
            go_ret
            rw [HFIT.out]
            exact ⟨by rw [dm]; rfl, (by repeat' (first | with_reducible (first | refine bset ?_ ?_ | exact Below.refl _ _ | assumption | refine bdrewN ?_ _ | refine bdrew ?_ | refine balloc0 ?_ | refine balloc ?_ ?_ | (apply btrans0; rotate_left; assumption) | (apply btrans; rotate_left; assumption)) | exact Below.refl _ _ | assumption | (apply btrans0; rotate_left; assumption) | (apply btrans; rotate_left; assumption) | (simp; done) | omega | (simp; omega)))⟩
          · have dm : decide ((P.length : Int) ≤ most) = false := decide_eq_false pm
            go_wp2_with fail
            refine (joinable_any A _ 0 _ (HA9.out.below'' (by repeat' (first | with_reducible (first | refine bset ?_ ?_ | exact Below.refl _ _ | assumption | refine bdrewN ?_ _ | refine bdrew ?_ | refine balloc0 ?_ | refine balloc ?_ ?_ | (apply btrans0; rotate_left; assumption) | (apply btrans; rotate_left; assumption)) | exact Below.refl _ _ | assumption | (apply btrans0; rotate_left; assumption) | (apply btrans; rotate_left; assumption) | (simp; done) | omega | (simp; omega)))) HPF.out).mono ?_
            rw [HJ.out]
            rintro e w10 ⟨rfl, hb10⟩
            go_wp2_with fail
            refine (rpayload_any A _ _ (HA9.out.below'' (by repeat' (first | with_reducible (first | refine bset ?_ ?_ | exact Below.refl _ _ | assumption | refine bdrewN ?_ _ | refine bdrew ?_ | refine balloc0 ?_ | refine balloc ?_ ?_ | (apply btrans0; rotate_left; assumption) | (apply btrans; rotate_left; assumption)) | exact Below.refl _ _ | assumption | (apply btrans0; rotate_left; assumption) | (apply btrans; rotate_left; assumption) | (simp; done) | omega | (simp; omega)))) HPF.out hpa).mono ?_
            rw [HP.out]
            rintro e w11 ⟨rfl, hb11⟩
            go_wp2
            go_ret
            rw [HFIT.out]
            exact ⟨by rw [dm]; rfl, (by repeat' (first | with_reducible (first | refine bset ?_ ?_ | exact Below.refl _ _ | assumption | refine bdrewN ?_ _ | refine bdrew ?_ | refine balloc0 ?_ | refine balloc ?_ ?_ | (apply btrans0; rotate_left; assumption) | (apply btrans; rotate_left; assumption)) | exact Below.refl _ _ | assumption | (apply btrans0; rotate_left; assumption) | (apply btrans; rotate_left; assumption) | (simp; done) | omega | (simp; omega)))⟩
        · have dj : (J == 0) = false := by rw [beq_eq_false_iff_ne]; exact j0
          clear j0
          go_wp2_with fail
          refine (joinable_any A _ 0 _ (HA9.out.below'' (by repeat' (first | with_reducible (first | refine bset ?_ ?_ | exact Below.refl _ _ | assumption | refine bdrewN ?_ _ | refine bdrew ?_ | refine balloc0 ?_ | refine balloc ?_ ?_ | (apply btrans0; rotate_left; assumption) | (apply btrans; rotate_left; assumption)) | exact Below.refl _ _ | assumption | (apply btrans0; rotate_left; assumption) | (apply btrans; rotate_left; assumption) | (simp; done) | omega | (simp; omega)))) HPF.out).mono ?_
          rw [HJ.out]
          rintro e w10 ⟨rfl, hb10⟩
          go_wp2
          go_ret
          rw [HFIT.out]
          exact ⟨by rw [dj]; rfl, (by repeat' (first | with_reducible (first | refine bset ?_ ?_ | exact Below.refl _ _ | assumption | refine bdrewN ?_ _ | refine bdrew ?_ | refine balloc0 ?_ | refine balloc ?_ ?_ | (apply btrans0; rotate_left; assumption) | (apply btrans; rotate_left; assumption)) | exact Below.refl _ _ | assumption | (apply btrans0; rotate_left; assumption) | (apply btrans; rotate_left; assumption) | (simp; done) | omega | (simp; omega)))⟩
end Go.Proofs.YtpkklmkeflddkaaGreat
