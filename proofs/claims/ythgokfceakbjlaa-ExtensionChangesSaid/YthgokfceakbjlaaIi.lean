/- Layer 14, the reference: Forward. -/
import Derived.Test.YthgokfceakbjlaaIf
import Derived.Test.YthgokfceakbjlaaIg
import Derived.Test.YthgokfceakbjlaaIh
set_option linter.unusedVariables false
set_option linter.unusedSimpArgs false
namespace Go.Proofs.Ythgokfceakbjlaa
open Go Go.RowKit
attribute [local go_sem] B_getElem B_size B_app B_extract B_get B_toList

theorem get_E {b : Bun} {k : Int} {l : List Int} {E : Int} (h : chkE b = 0) (hg : getS b k = (l, E)) : E = 0 ∨ E = 7 ∨ E = 11 := by
  rcases getS_ok hg with ⟨h1, _⟩ | ⟨_, _, h1 | h1 | h1⟩
  · exact .inl h1
  · exact absurd h h1.2
  · exact .inr (.inl h1.1)
  · exact .inr (.inr h1.1)
theorem fwdS_of {b : Bun} {n el E : Int} (h : fwdE b n el = E) (hE : E ≠ 0) : fwdS b n el = (zBun, E) := by unfold fwdS; rw [if_pos (by rw [h]; exact hE), h]
theorem rforward_any (b : Bun) (u : Value) (n el : Int) (w : World) (h : RBlks w w.heap.size u b.blocks) (hf : Fits b) :
    Calls Try.prog 25 #[.agg (bunC b u).toArray, .int .i64 n, .int .i64 el] w (FwdPost (fwdS b n el) w) := by
  by_cases hE : chkE b = 0
  case neg => rw [fwdS_of (E := 1) (by unfold fwdE; rw [if_pos hE]) (by decide)]; exact rfwd_bad1 b u n el w h hf hE
  by_cases hr : nodeB n = false ∨ el < 0 ∨ 1099511627776 < el
  · rw [fwdS_of (E := 2) (by unfold fwdE; rw [if_neg (by simp [hE]), if_pos hr]) (by decide)]; exact rfwd_bad2 b u n el w h hf hE hr
  have hr0 := hr
  rw [not_or, not_or] at hr
  obtain ⟨r0, r1, r2⟩ := hr
  have hnd : nodeB n = true := by simpa using r0
  obtain ⟨⟨a1, ea⟩, hag⟩ : ∃ q, ageS b = q := ⟨_, rfl⟩
  obtain ⟨⟨lim, cnt, eh⟩, hho⟩ : ∃ q, hopS b = q := ⟨_, rfl⟩
  obtain ⟨⟨lv, ev⟩, hg⟩ : ∃ q, getS b 3 = q := ⟨_, rfl⟩
  have ga : (getS b 1).2 = ea := by have := congrArg Prod.snd hag; exact this
  have gh : (getS b 2).2 = eh := by have := congrArg (fun q => q.2.2) hho; exact this
  have gv : (getS b 3).2 = ev := by rw [hg]
  have ta := get_E (k := 1) (l := (getS b 1).1) (E := ea) hE (by rw [← ga])
  have th := get_E (k := 2) (l := (getS b 2).1) (E := eh) hE (by rw [← gh])
  have tv := get_E (k := 3) hE hg
  by_cases h11 : ea = 11 ∨ eh = 11 ∨ ev = 11
  · rw [fwdS_of (E := 11) (by unfold fwdE; rw [if_neg (by simp [hE]), if_neg hr0, ga, gh, gv, if_pos h11]) (by decide)]
    exact rfwd_bad11 b u n el w h hf a1 ea lim cnt eh lv ev hE hnd r1 r2 hag hho hg h11
  have h11' := h11
  rw [not_or, not_or] at h11
  obtain ⟨n1, n2, n3⟩ := h11
  by_cases h17 : ea = 0 ∧ b.life ≤ a1 + el
  · rw [fwdS_of (E := 17) (by unfold fwdE; rw [if_neg (by simp [hE]), if_neg hr0, ga, gh, gv, if_neg h11', hag, if_pos h17]) (by decide)]
    obtain ⟨rfl, hl⟩ := h17
    exact rfwd_bad17 b u n el w h hf a1 lim cnt eh lv ev hE hnd r1 r2 hag hho hg n2 n3 hl
  by_cases h4 : eh = 0 ∧ lim < cnt + 1
  · rw [fwdS_of (E := 4) (by unfold fwdE; rw [if_neg (by simp [hE]), if_neg hr0, ga, gh, gv, if_neg h11', hag, if_neg h17, hho, if_pos h4]) (by decide)]
    obtain ⟨rfl, hl⟩ := h4
    have hf2 := hop_facts hho
    obtain rfl : cnt = lim := by omega
    refine rfwd_bad4 b u n el w h hf a1 ea cnt lv ev hE hnd r1 r2 hag hho hg ?_ n3
    rcases ta with rfl | rfl | rfl
    · exact .inl ⟨rfl, by have : ¬ b.life ≤ a1 + el := fun x => h17 ⟨rfl, x⟩; omega⟩
    · exact .inr rfl
    · exact absurd rfl n1
  have hk : Fwk b n el := by
    refine ⟨hE, hnd, by omega, by omega, by rw [ga]; exact n1, by rw [gh]; exact n2, by rw [gv]; exact n3, fun z => ?_, fun z => ?_⟩
    · rw [ga] at z; rw [hag]; have : ¬ b.life ≤ a1 + el := fun x => h17 ⟨z, x⟩; simp only; omega
    · rw [gh] at z; rw [hho]; have : ¬ lim < cnt + 1 := fun x => h4 ⟨z, x⟩; simp only; omega
  rcases ta with rfl | rfl | rfl
  · rcases th with rfl | rfl | rfl
    · exact rfwd_00 b u n el w h hf a1 lim cnt lv ev hk hag hho hg
    · exact rfwd_07 b u n el w h hf a1 lim cnt lv ev hk hag hho hg
    · exact absurd rfl n2
  · rcases th with rfl | rfl | rfl
    · exact rfwd_70 b u n el w h hf a1 lim cnt lv ev hk hag hho hg
    · exact rfwd_77 b u n el w h hf a1 lim cnt lv ev hk hag hho hg
    · exact absurd rfl n2
  · exact absurd rfl n1
end Go.Proofs.Ythgokfceakbjlaa
