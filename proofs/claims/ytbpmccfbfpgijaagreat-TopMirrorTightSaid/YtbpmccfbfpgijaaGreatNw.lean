/- TopMirrorTight: plain (printed by gen/g22.py) -/
import Derived.Test.YtbpmccfbfpgijaaGreatNr
import Derived.Test.YtbpmccfbfpgijaaGreatNt
set_option linter.unusedVariables false
set_option linter.unusedSimpArgs false
namespace Go.Proofs.YtbpmccfbfpgijaaGreat
open Go Go.RowKit Iv
attribute [local go_sem] Oper.semAt_some
attribute [local go_sem] B_getElem B_size B_app B_extract B_get B_toList
structure MF (qs : List Int) (cs : List Con) (src dst s : Nat) (rd : Int) (F : List Int) (D : Int) : Prop where
  d1 : rd < D
  d2 : D ≤ 1099511627776
  clo : Clo cs s F
  f0 : Mt.at_ F src = rd
  fd : Mt.at_ F dst = D
  ge : ∀ L, Mt.LInv (dS s) dst D cs qs.length L → (∀ c ∈ cs, ¬ Mt.better (dS s) dst L c) → rd ≤ Mt.at_ L src
  lt : ∀ L, Mt.LInv (dS s) dst (D - 1) cs qs.length L → (∀ c ∈ cs, ¬ Mt.better (dS s) dst L c) → Mt.at_ L src < rd
theorem mirror_facts {qs : List Int} {cs : List Con} {src dst s : Nat} {rd : Int} {F : List Int} {l : List Bool} (hp : PlanOK qs cs) (s1 : 1 ≤ s) (hs : s ≤ 65536) (hne : src ≠ dst) (r0 : 0 ≤ rd) (r1 : rd ≤ 1099511627776) (h : Mt.AInv (dS s) src rd cs qs.length (fun _ => False) F l) (hb : nxS F l qs.length < 0) (hD : 0 ≤ Mt.at_ F dst) :
    MF qs cs src dst s rd F (Mt.at_ F dst) := by
  have hpos := pos_of hp s1 hs
  obtain ⟨h1, h2⟩ := h.done hb
  have hd : rd < Mt.at_ F dst := by
    obtain ⟨c, hc, _, e3, e4⟩ := h2 dst hD (Ne.symm hne)
    have := Mt.arr_gt (hpos c hc) e4
    have h3 := h.lo (Mt.cf c)
    omega
  refine ⟨hd, AInv.bnd h r1 (fun c hc => (plan_cons hp c hc).1) dst hD, h1, h.at0, rfl, fun L hL hn => ?_, fun L hL hn => ?_⟩
  · obtain ⟨g1, g2⟩ := hL.done hn
    have := Mt.claimA (F := Mt.at_ F) (L := Mt.at_ L) (src := src) (dst := dst) hpos (fun v h0 hv => h2 v h0 hv) rfl hD hL.top g1
    rw [h.at0] at this
    exact this
  · obtain ⟨g1, g2⟩ := hL.done hn
    refine Int.lt_of_not_ge fun hge => ?_
    have := Mt.claimB (F := Mt.at_ F) (L := Mt.at_ L) (src := src) (dst := dst) (D := Mt.at_ F dst - 1) hpos h1 (fun v hv h0 => g2 v hv h0) hL.hi hL.top (by rw [h.at0]; exact r0) (by rw [h.at0]; exact hge)
    omega
end Go.Proofs.YtbpmccfbfpgijaaGreat
