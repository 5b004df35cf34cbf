/- Layer 14 (extension): Forward. -/
import Derived.Test.YthgokfceakbjlaaAo
import Derived.Test.YthgokfceakbjlaaAp
import Derived.Test.YthgokfceakbjlaaAq
import Derived.Test.YthgokfceakbjlaaAr
import Derived.Test.YthgokfceakbjlaaAs
set_option linter.unusedVariables false
set_option linter.unusedSimpArgs false
namespace Go.Proofs.Ythgokfceakbjlaa
open Go Go.RowKit

theorem dat1_facts {s : List UInt8} {l : List Int} (h : dat 1 s = some l) : 0 ≤ l.getD 0 0 ∧ l.getD 0 0 ≤ 1099511627776 := by
  unfold dat num1 at h
  rw [if_pos rfl] at h
  split at h
  · cases h
  · split at h
    · rename_i h2
      injection h with h; subst h; exact h2.2
    · cases h
theorem dat2_facts {s : List UInt8} {l : List Int} (h : dat 2 s = some l) : 1 ≤ l.getD 0 0 ∧ l.getD 0 0 ≤ 255 ∧ 0 ≤ l.getD 1 0 ∧ l.getD 1 0 ≤ l.getD 0 0 := by
  unfold dat num2 at h
  rw [if_neg (by decide), if_pos rfl] at h
  split at h
  · cases h
  · split at h
    · rename_i h2
      injection h with h; subst h; exact h2.2
    · cases h
theorem age_facts {b : Bun} {a : Int} (h : ageS b = (a, 0)) : 0 ≤ a ∧ a ≤ 1099511627776 := by
  obtain ⟨⟨l, E⟩, hg⟩ : ∃ q, getS b 1 = q := ⟨_, rfl⟩
  unfold ageS at h
  rw [hg] at h
  simp only [Prod.mk.injEq] at h
  obtain ⟨rfl, rfl⟩ := h
  rcases getS_ok hg with ⟨_, _, x, _, hd⟩ | ⟨h, _⟩
  · exact dat1_facts hd
  · exact absurd rfl h
theorem hop_facts {b : Bun} {m k : Int} (h : hopS b = (m, k, 0)) : 1 ≤ m ∧ m ≤ 255 ∧ 0 ≤ k ∧ k ≤ m := by
  obtain ⟨⟨l, E⟩, hg⟩ : ∃ q, getS b 2 = q := ⟨_, rfl⟩
  unfold hopS at h
  rw [hg] at h
  simp only [Prod.mk.injEq] at h
  obtain ⟨rfl, rfl, rfl⟩ := h
  rcases getS_ok hg with ⟨_, _, x, _, hd⟩ | ⟨h, _⟩
  · exact dat2_facts hd
  · exact absurd rfl h
theorem forward_any (b : Bun) (u : Value) (n el : Int) (w : World) (h : RBlks w w.heap.size u b.blocks) (hf : Fits b) :
    Calls Try.prog 24 #[.agg (bunC b u).toArray, .int .i64 n, .int .i64 el] w (FwdPost (fwdS b n el) w) := by
  obtain ⟨E, hE⟩ : ∃ q, chkE b = q := ⟨_, rfl⟩
  by_cases z : E = 0
  case neg =>
    have e : fwdE b n el = 1 := by unfold fwdE; rw [hE, if_pos z]
    have e2 : fwdS b n el = (zBun, 1) := by unfold fwdS; rw [e, if_pos (by decide)]
    rw [e2]
    exact fwd_1 b u n el w h hf E (Lib.hid hE) (by rw [bne_iff_ne]; exact z)
  subst z
  have HE := Lib.hid hE
  have hlf : b.life ≤ 1099511627776 := by
    obtain ⟨h1, _, _, _, h5, _⟩ := chkE_zero hE
    have := idB_crt h1
    omega
  have two : (nodeB n = false ∨ el < 0 ∨ 1099511627776 < el) → fwdS b n el = (zBun, 2) := fun k => by
    have e : fwdE b n el = 2 := by unfold fwdE; rw [hE, if_neg (by simp), if_pos k]
    unfold fwdS; rw [e, if_pos (by decide)]
  obtain ⟨nd, hnd⟩ : ∃ q, nodeB n = q := ⟨_, rfl⟩
  cases nd with
  | false => rw [two (.inl hnd)]; exact fwd_2a b u n el w h hf HE (Lib.hid hnd)
  | true =>
  by_cases r1 : el < 0
  · rw [two (.inr (.inl r1))]; exact fwd_2b b u n el w h hf HE (Lib.hid hnd) r1
  by_cases r2 : 1099511627776 < el
  · rw [two (.inr (.inr r2))]; exact fwd_2c b u n el w h hf HE (Lib.hid hnd) r1 r2
  obtain ⟨⟨a0, AE⟩, hag⟩ : ∃ q, ageS b = q := ⟨_, rfl⟩
  obtain ⟨⟨h0, k1, HX⟩, hho⟩ : ∃ q, hopS b = q := ⟨_, rfl⟩
  obtain ⟨⟨l, VE⟩, hvi⟩ : ∃ q, getS b 3 = q := ⟨_, rfl⟩
  have ha2 : (getS b 1).2 = AE := by have := congrArg Prod.snd hag; exact this
  have hh2 : (getS b 2).2 = HX := by have := congrArg (fun q => q.2.2) hho; exact this
  have hv2 : (getS b 3).2 = VE := by rw [hvi]
  have hv1 : (getS b 3).1 = l := by rw [hvi]
  have he : fwdE b n el = if AE = 11 ∨ HX = 11 ∨ VE = 11 then 11 else if AE = 0 ∧ b.life ≤ a0 + el then 17 else if HX = 0 ∧ h0 < k1 + 1 then 4 else if VE = 0 ∧ l.contains n = true then 27 else 0 := by
    unfold fwdE
    rw [hE, if_neg (by simp), if_neg (by rw [hnd]; simp; omega), ha2, hh2, hv2, hv1, hag, hho]
  have bad : ∀ e : Int, e ≠ 0 → fwdE b n el = e → fwdS b n el = (zBun, e) := fun e h1 h2 => by unfold fwdS; rw [h2, if_pos h1]
  have HND := Lib.hid hnd
  have HAG := Lib.hid hag
  have HHO := Lib.hid hho
  have HVI := Lib.hid hvi
  by_cases q1 : AE = 11
  · subst q1
    rw [bad 11 (by decide) (by rw [he, if_pos (.inl rfl)])]
    exact fwd_11a b u n el w h hf HE HND r1 r2 hlf a0 HAG h0 k1 HX HHO l VE HVI
  have qa : (AE == 11) = false := beq_eq_false_iff_ne.2 q1
  by_cases q2 : HX = 11
  · subst q2
    rw [bad 11 (by decide) (by rw [he, if_pos (.inr (.inl rfl))])]
    exact fwd_11b b u n el w h hf HE HND r1 r2 hlf a0 AE HAG qa h0 k1 HHO l VE HVI
  have qh : (HX == 11) = false := beq_eq_false_iff_ne.2 q2
  by_cases q3 : VE = 11
  · subst q3
    rw [bad 11 (by decide) (by rw [he, if_pos (.inr (.inr rfl))])]
    exact fwd_11c b u n el w h hf HE HND r1 r2 hlf a0 AE HAG qa h0 k1 HX HHO qh l HVI
  have qv : (VE == 11) = false := beq_eq_false_iff_ne.2 q3
  rw [if_neg (by omega)] at he
  by_cases q4 : AE = 0 ∧ b.life ≤ a0 + el
  · obtain ⟨rfl, q4⟩ := q4
    obtain ⟨a1, a2⟩ := age_facts hag
    rw [bad 17 (by decide) (by rw [he, if_pos ⟨rfl, q4⟩])]
    exact fwd_17 b u n el w h hf HE HND r1 r2 hlf a0 HAG a1 a2 q4 h0 k1 HX HHO qh l VE HVI qv
  rw [if_neg q4] at he
  by_cases q5 : HX = 0 ∧ h0 < k1 + 1
  · obtain ⟨rfl, q5⟩ := q5
    obtain ⟨p1, p2, p3, p4⟩ := hop_facts hho
    rw [bad 4 (by decide) (by rw [he, if_pos ⟨rfl, q5⟩])]
    by_cases y : AE = 0
    · subst y
      obtain ⟨a1, a2⟩ := age_facts hag
      exact fwd_4_on b u n el w h hf HE HND r1 r2 hlf a0 HAG a1 a2 (by omega) (by omega) h0 k1 HHO (by omega) (by omega) q5 l VE HVI qv
    · exact fwd_4_off b u n el w h hf HE HND r1 r2 hlf a0 AE HAG qa (beq_eq_false_iff_ne.2 y) h0 k1 HHO (by omega) (by omega) q5 l VE HVI qv
  rw [if_neg q5] at he
  by_cases q6 : VE = 0 ∧ l.contains n = true
  · obtain ⟨rfl, q6⟩ := q6
    rw [bad 27 (by decide) (by rw [he, if_pos ⟨rfl, q6⟩])]
    by_cases y : AE = 0
    · subst y
      obtain ⟨a1, a2⟩ := age_facts hag
      by_cases x : HX = 0
      · subst x
        obtain ⟨p1, p2, p3, p4⟩ := hop_facts hho
        exact fwd_27_on_on b u n el w h hf HE HND r1 r2 hlf a0 HAG a1 a2 (by omega) (by omega) h0 k1 HHO (by omega) (by omega) (by omega) (by omega) (by omega) l HVI (Lib.hid q6)
      · exact fwd_27_on_off b u n el w h hf HE HND r1 r2 hlf a0 HAG a1 a2 (by omega) (by omega) h0 k1 HX HHO qh (beq_eq_false_iff_ne.2 x) l HVI (Lib.hid q6)
    · by_cases x : HX = 0
      · subst x
        obtain ⟨p1, p2, p3, p4⟩ := hop_facts hho
        exact fwd_27_off_on b u n el w h hf HE HND r1 r2 hlf a0 AE HAG qa (beq_eq_false_iff_ne.2 y) h0 k1 HHO (by omega) (by omega) (by omega) (by omega) (by omega) l HVI (Lib.hid q6)
      · exact fwd_27_off_off b u n el w h hf HE HND r1 r2 hlf a0 AE HAG qa (beq_eq_false_iff_ne.2 y) h0 k1 HX HHO qh (beq_eq_false_iff_ne.2 x) l HVI (Lib.hid q6)
  rw [if_neg q6] at he
  have hs : fwdS b n el = (fwdV b (fwdH b (fwdA b el)) n, 0) := by unfold fwdS; rw [he, if_neg (by simp)]
  rw [hs]
  have eA : fwdA b el = if AE = 0 then (setAgeS b (a0 + el)).1 else b := by unfold fwdA; rw [ha2, hag]
  have eH : ∀ y, fwdH b y = if HX = 0 then (setHopS y h0 (k1 + 1)).1 else y := fun y => by unfold fwdH; rw [hh2, hho]
  have eV : ∀ y, fwdV b y n = if VE = 0 then (visitS y n).1 else y := fun y => by unfold fwdV; rw [hv2]
  rw [eV, eH, eA]
  have hc : VE = 0 → l.contains n = false := fun hv => by
    cases hc : l.contains n with
    | false => rfl
    | true => exact absurd ⟨hv, hc⟩ q6
  by_cases y : AE = 0
  · subst y
    obtain ⟨a1, a2⟩ := age_facts hag
    rw [if_pos rfl]
    have F1 := Lib.hid (fits_age (x := a0 + el) hf)
    by_cases x : HX = 0
    · subst x
      obtain ⟨p1, p2, p3, p4⟩ := hop_facts hho
      rw [if_pos rfl]
      have F2 := Lib.hid (fits_hop (x := h0) (y := k1 + 1) F1.out)
      by_cases v : VE = 0
      · subst v
        rw [if_pos rfl]
        exact fwd_on_on_on b u n el w h hf HE HND r1 r2 hlf a0 HAG a1 a2 (by omega) (by omega) h0 k1 HHO (by omega) (by omega) (by omega) (by omega) (by omega) l HVI (Lib.hid (hc rfl)) _ _ (Lib.hid rfl) F1 _ _ (Lib.hid rfl) F2 _ _ (Lib.hid rfl) (Lib.hid (fits_vis F2.out))
      · rw [if_neg v]
        exact fwd_on_on_off b u n el w h hf HE HND r1 r2 hlf a0 HAG a1 a2 (by omega) (by omega) h0 k1 HHO (by omega) (by omega) (by omega) (by omega) (by omega) l VE HVI qv (beq_eq_false_iff_ne.2 v) _ _ (Lib.hid rfl) F1 _ _ (Lib.hid rfl) F2
    · rw [if_neg x]
      by_cases v : VE = 0
      · subst v
        rw [if_pos rfl]
        exact fwd_on_off_on b u n el w h hf HE HND r1 r2 hlf a0 HAG a1 a2 (by omega) (by omega) h0 k1 HX HHO qh (beq_eq_false_iff_ne.2 x) l HVI (Lib.hid (hc rfl)) _ _ (Lib.hid rfl) F1 _ _ (Lib.hid rfl) (Lib.hid (fits_vis F1.out))
      · rw [if_neg v]
        exact fwd_on_off_off b u n el w h hf HE HND r1 r2 hlf a0 HAG a1 a2 (by omega) (by omega) h0 k1 HX HHO qh (beq_eq_false_iff_ne.2 x) l VE HVI qv (beq_eq_false_iff_ne.2 v) _ _ (Lib.hid rfl) F1
  · rw [if_neg y]
    have ya := beq_eq_false_iff_ne.2 y
    by_cases x : HX = 0
    · subst x
      obtain ⟨p1, p2, p3, p4⟩ := hop_facts hho
      rw [if_pos rfl]
      have F2 := Lib.hid (fits_hop (x := h0) (y := k1 + 1) hf)
      by_cases v : VE = 0
      · subst v
        rw [if_pos rfl]
        exact fwd_off_on_on b u n el w h hf HE HND r1 r2 hlf a0 AE HAG qa ya h0 k1 HHO (by omega) (by omega) (by omega) (by omega) (by omega) l HVI (Lib.hid (hc rfl)) _ _ (Lib.hid rfl) F2 _ _ (Lib.hid rfl) (Lib.hid (fits_vis F2.out))
      · rw [if_neg v]
        exact fwd_off_on_off b u n el w h hf HE HND r1 r2 hlf a0 AE HAG qa ya h0 k1 HHO (by omega) (by omega) (by omega) (by omega) (by omega) l VE HVI qv (beq_eq_false_iff_ne.2 v) _ _ (Lib.hid rfl) F2
    · rw [if_neg x]
      by_cases v : VE = 0
      · subst v
        rw [if_pos rfl]
        exact fwd_off_off_on b u n el w h hf HE HND r1 r2 hlf a0 AE HAG qa ya h0 k1 HX HHO qh (beq_eq_false_iff_ne.2 x) l HVI (Lib.hid (hc rfl)) _ _ (Lib.hid rfl) (Lib.hid (fits_vis hf))
      · rw [if_neg v]
        exact fwd_off_off_off b u n el w h hf HE HND r1 r2 hlf a0 AE HAG qa ya h0 k1 HX HHO qh (beq_eq_false_iff_ne.2 x) l VE HVI qv (beq_eq_false_iff_ne.2 v)
end Go.Proofs.Ythgokfceakbjlaa
