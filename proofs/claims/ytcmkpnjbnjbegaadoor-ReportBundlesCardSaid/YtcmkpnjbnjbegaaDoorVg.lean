/- Layer 20 (report): what is laid; awake; a record among the arguments. -/
import Derived.Test.YtcmkpnjbnjbegaaDoorVf
import Derived.Lib.LaidTab
import Derived.LaidLaws
import Derived.LaidSub
set_option linter.unusedVariables false
set_option linter.unusedSimpArgs false
namespace Go.Proofs.YtcmkpnjbnjbegaaDoor
open Go Go.RowKit
attribute [local go_sem] B_getElem B_size B_app B_extract B_get B_toList

def strData {H : Type} (ss : List (List UInt8)) : DataW H := .agg (ss.map fun s => .lit (.string s))
theorem cells_of_strs {H : Type} {enc : TypeId × Value → H} {P : Program} {w : World} {base : Nat} {sp : Nat → Bool} {held : Bool} {fuel : Nat} {t e : TypeId} {n : Nat} {cs : List Value} {zs : List (List UInt8)} {p : List MemPlace}
    (ht : P.underlying t = some (.array n e)) (he : P.underlying e = some .string) (hce : P.cellsOf e = 1) (hct : P.cellsOf t = n)
    (h : DataW.trod enc P w base sp held fuel t cs = some (strData zs, p)) : cs = zs.map fun z => Value.string (B z) := by
  cases fuel with
  | zero => simp [DataW.trod] at h
  | succ fuel =>
    simp only [DataW.trod, ht, hce, hct, Nat.mul_one] at h
    split at h
    · rename_i hl
      obtain ⟨xs, hm, hx⟩ := Option.map_eq_some_iff.1 h
      have hxs : xs.map (·.1) = zs.map fun z => (DataW.lit (.string z) : DataW H) := by
        have := congrArg Prod.fst hx
        simpa [strData] using this
      have hxl : xs.length = n := by simpa using Lib.mapM_length hm
      have hzl : zs.length = n := by
        have := congrArg List.length hxs
        simp at this
        omega
      apply List.ext_getElem?
      intro i
      by_cases hi : i < n
      · obtain ⟨b, hb, hf⟩ := Lib.mapM_at hm i i (by simp [hi])
        obtain ⟨z, hc, hbz, _⟩ := DataW.trod_string he hf
        have h1 : cs[i]? = some (.string z) := by
          have := congrArg (·[0]?) hc
          simpa [List.getElem?_take, List.getElem?_drop] using this
        have h2 : (xs.map (·.1))[i]? = some (b.1 : DataW H) := by simp [hb]
        rw [hxs] at h2
        simp only [List.getElem?_map, Option.map_eq_some_iff] at h2
        obtain ⟨z', hz', e2⟩ := h2
        have e3 : (DataW.lit (.string z') : DataW H) = .lit (.string z.data.toList) := by rw [e2, hbz]
        simp only [DataW.lit.injEq, Lit.string.injEq] at e3
        subst e3
        rw [h1, List.getElem?_map, hz']; rfl
      · rw [List.getElem?_eq_none (by omega), List.getElem?_eq_none (by simp; omega)]
    · cases h
theorem strs_of_head {P : Program} {W : World} {name : String} {zs : List (List UInt8)} {rest : List (String × DataW Unit)} {g : Nat} {t e : TypeId} {n : Nat}
    (hg : P.globalNamed name = some g) (hty : (P.globals[g]?).map (·.type) = some t) (ht : P.underlying t = some (.array n e)) (he : P.underlying e = some .string) (hce : P.cellsOf e = 1) (hct : P.cellsOf t = n)
    (h : laidMet P ((name, strData zs) :: rest) W) : W.var? P name = some (zs.map fun z => Value.string (B z)).toArray := by
  obtain ⟨ps, ⟨g', t', cs, fuel, p, q, hg', ht', hvar, hd, _, _⟩, _⟩ := h
  obtain rfl := Option.some.inj (hg.symm.trans hg')
  obtain rfl := Option.some.inj (hty.symm.trans ht')
  rw [hvar, ← cells_of_strs ht he hce hct hd]
/-- what the six rows list -/
def laid5 : List (String × DataW Unit) := Rows.reportTextsRow.laid
theorem laid5_pow : (laid5.filter fun x => x.2.handleName?.isNone).filter (fun x => x.1 == "internal/strconv.uint64pow10") = [("internal/strconv.uint64pow10", Lib.tabData .u64 Lib.pow10Tab)] := by kernel_rfl
theorem laid5_kinds : (laid5.filter fun x => x.2.handleName?.isNone).filter (fun x => x.1 == "mailboat/report.kinds") = [("mailboat/report.kinds", strData ((List.range 7).map kindS))] := by kernel_rfl
theorem laid5_reasons : (laid5.filter fun x => x.2.handleName?.isNone).filter (fun x => x.1 == "mailboat/report.reasons") = [("mailboat/report.reasons", strData ((List.range 8).map reasonS))] := by kernel_rfl
theorem gP2 : Tryd.prog.globalNamed "internal/strconv.uint64pow10" = some 2 := by kernel_rfl
theorem tyP : (Tryd.prog.globals[2]?).map (·.type) = some 108 := by kernel_rfl
theorem tyK : (Tryd.prog.globals[0]?).map (·.type) = some 51 := by kernel_rfl
theorem tyR : (Tryd.prog.globals[1]?).map (·.type) = some 52 := by kernel_rfl
theorem tabs_of_laid {W : World} (h : laidMetH Tryd.prog laid5 W) : Tabs W := by
  have h1 := (laidMetH_iff.1 h).1
  have p1 := h1.filter (fun x => x.1 == "internal/strconv.uint64pow10")
  have p2 := h1.filter (fun x => x.1 == "mailboat/report.kinds")
  have p3 := h1.filter (fun x => x.1 == "mailboat/report.reasons")
  rw [laid5_pow] at p1
  rw [laid5_kinds] at p2
  rw [laid5_reasons] at p3
  refine ⟨Lib.tabIs_of_head gP2 tyP (by kernel_rfl : _ = some (TypeDesc.array 20 92)) (by kernel_rfl) (by kernel_rfl) (by kernel_rfl) p1, ?_, ?_⟩
  · rw [strs_of_head gK tyK (by kernel_rfl : _ = some (TypeDesc.array 7 9)) (by kernel_rfl) (by kernel_rfl) (by kernel_rfl) p2, List.map_map]; rfl
  · rw [strs_of_head gR tyR (by kernel_rfl : _ = some (TypeDesc.array 8 9)) (by kernel_rfl) (by kernel_rfl) (by kernel_rfl) p3, List.map_map]; rfl
/-- A world that meets the condition: the settled one, the tables laid. -/
noncomputable def laidWorld (os : Os) : World :=
  let w0 := World.holding Tryd.prog os ⟨#[], #[], []⟩
  { w0 with heap := ((((w0.heap.modify 0 fun
      | .cells _ t fr => .cells (((List.range 7).map fun k => Value.string (B (kindS k))).toArray) t fr
      | o => o).modify 1 fun
      | .cells _ t fr => .cells (((List.range 8).map fun k => Value.string (B (reasonS k))).toArray) t fr
      | o => o).modify 2 fun
      | .cells _ t fr => .cells (Lib.pow10Tab.map fun z => Value.int .u64 z).toArray t fr
      | o => o).modify 3 fun
      | .cells _ t fr => .cells (([0, 1, 28, 2, 29, 14, 24, 3, 30, 22, 20, 15, 25, 17, 4, 8, 31, 27, 13, 23, 21, 19, 16, 7, 26, 12, 18, 6, 11, 5, 10, 9] : List Int).map fun z => Value.int .u8 z).toArray t fr
      | o => o).modify 4 fun
      | .cells _ t fr => .cells (([0, 1, 56, 2, 57, 49, 28, 3, 61, 58, 42, 50, 38, 29, 17, 4, 62, 47, 59, 36, 45, 43, 51, 22, 53, 39, 33, 30, 24, 18, 12, 5, 63, 55, 48, 27, 60, 41, 37, 16, 46, 35, 44, 21, 52, 32, 23, 11, 54, 26, 40, 15, 34, 20, 31, 10, 25, 14, 19, 9, 13, 8, 7, 6] : List Int).map fun z => Value.int .u8 z).toArray t fr
      | o => o }
theorem laid_met (os : Os) (args : Array Value) : laidMetH Tryd.prog laid5 ((laidWorld os).forCall (fun _ _ => 0) ⟨#[], args, []⟩).memory :=
  laidMetH_iff.2 ⟨by
    have e : (laid5.filter fun x => x.2.handleName?.isNone) = laid5 := by kernel_rfl
    rw [e]
    exact laidMet_of_run' 8 (by kernel_rfl) (by kernel_rfl), fun x hx => by
    have e : (laid5.filter fun x => x.2.handleName?.isSome) = [] := by kernel_rfl
    rw [e] at hx; cases hx⟩
section
variable {P : Program} {Q : Exit → Act → World → Prop} {S : World → Prop} {kd : List Nat}
theorem plan_skipK {l rl : List Oper} {i : Nat} {r : List Nat} {o : Oper} {a : Act} {w : World} (hd : l.drop i = o :: rl) (hk : kd.getD i 2 = 2) (hw : Region.wanted o (yielded l.toArray a.tmps) = false)
    (hS : S w) (h : wpPlan P l.toArray Q S kd r (a.put o.dst undef) w) : wpPlan P l.toArray Q S kd (i :: r) a w := by
  have ho := drop_get hd
  unfold wpPlan
  rw [ho]
  simp only
  rw [if_neg (by omega), if_pos hk]
  unfold wpOp
  simp only [ho, hw]
  exact ⟨hS, h⟩
theorem plan_skipL {l rl : List Oper} {i : Nat} {r : List Nat} {o : Oper} {a : Act} {w : World} (hd : l.drop i = o :: rl) (hk : kd.getD i 2 = 3) (hw : Region.wanted o (yielded l.toArray a.tmps) = false)
    (h : wpPlan P l.toArray Q S kd r (a.put o.dst undef) w) : wpPlan P l.toArray Q S kd (i :: r) a w := by
  have ho := drop_get hd
  unfold wpPlan
  rw [ho]
  simp only
  rw [if_neg (by omega), if_neg (by omega)]
  unfold wpOp
  simp only [ho, hw]
  exact h
end
theorem dd_step {u : Nat} (h : ¬ u < 10) : Lib.decDigits u = Lib.decDigits (u / 10) ++ [UInt8.ofNat (48 + u % 10)] := by
  rw [Lib.decDigits, dif_neg h]
theorem it1 : Lib.itoa 1 = [49] := by
  rw [show (1 : Int) = ((1 : Nat) : Int) from rfl, Lib.itoa_nonneg, Lib.decDigits_one (by decide)]; decide
theorem it2 : Lib.itoa 2 = [50] := by
  rw [show (2 : Int) = ((2 : Nat) : Int) from rfl, Lib.itoa_nonneg, Lib.decDigits_one (by decide)]; decide
theorem it3 : Lib.itoa 3 = [51] := by
  rw [show (3 : Int) = ((3 : Nat) : Int) from rfl, Lib.itoa_nonneg, Lib.decDigits_one (by decide)]; decide
theorem it5 : Lib.itoa 5 = [53] := by
  rw [show (5 : Int) = ((5 : Nat) : Int) from rfl, Lib.itoa_nonneg, Lib.decDigits_one (by decide)]; decide
theorem it16 : Lib.itoa 16 = [49, 54] := by
  rw [show (16 : Int) = ((16 : Nat) : Int) from rfl, Lib.itoa_nonneg, Lib.decDigits_two (by decide) (by decide)]; decide
theorem it64 : Lib.itoa 64 = [54, 52] := by
  rw [show (64 : Int) = ((64 : Nat) : Int) from rfl, Lib.itoa_nonneg, Lib.decDigits_two (by decide) (by decide)]; decide
theorem it120 : Lib.itoa 120 = [49, 50, 48] := by
  rw [show (120 : Int) = ((120 : Nat) : Int) from rfl, Lib.itoa_nonneg, dd_step (by decide), Lib.decDigits_two (by decide) (by decide)]; decide
theorem it130 : Lib.itoa 130 = [49, 51, 48] := by
  rw [show (130 : Int) = ((130 : Nat) : Int) from rfl, Lib.itoa_nonneg, dd_step (by decide), Lib.decDigits_two (by decide) (by decide)]; decide
theorem it400 : Lib.itoa 400 = [52, 48, 48] := by
  rw [show (400 : Int) = ((400 : Nat) : Int) from rfl, Lib.itoa_nonneg, dd_step (by decide), Lib.decDigits_two (by decide) (by decide)]; decide
def exA : Rep := ⟨3, 3, 120, 5, 0, 0, 2, 400, 0⟩
def exB : Rep := ⟨4, 3, 120, 5, 16, 64, 1, 130, 2⟩
theorem exA_ok : repE exA = 0 := by decide
theorem exB_ok : repE exB = 0 := by decide
theorem exA_txt : textR exA = [100, 101, 108, 105, 118, 101, 114, 101, 100, 32, 51, 46, 49, 50, 48, 46, 53, 32, 110, 111, 100, 101, 32, 50, 32, 116, 105, 109, 101, 32, 52, 48, 48] := by
  unfold textR
  rw [if_neg (by rw [exA_ok]; decide)]
  simp only [exA, it3, it120, it5, it2, it400]
  decide
theorem exB_txt : textR exB = [100, 101, 108, 101, 116, 101, 100, 32, 51, 46, 49, 50, 48, 46, 53, 46, 49, 54, 47, 54, 52, 32, 110, 111, 100, 101, 32, 49, 32, 116, 105, 109, 101, 32, 49, 51, 48, 32, 114, 101, 97, 115, 111, 110, 32, 114, 111, 117, 116, 101] := by
  unfold textR
  rw [if_neg (by rw [exB_ok]; decide)]
  simp only [exB, it3, it120, it5, it16, it64, it1, it130]
  decide
set_option maxRecDepth 100000 in
set_option maxHeartbeats 2000000 in
theorem awake_any (w : World) (hT : Tabs w) :
    Calls Tryd.prog 11 #[] w fun e w' => e = .returned (.bool true) ∧ Below w.heap.size w w' := by
  go_enter Tryd.func11, Tryd.ntmps11
  go_wp2_with fail
  refine (repText_any exA _ (hT.stays (by repeat' (first | (with_reducible refine bset ?_ ?_) | (with_reducible exact Below.refl _ _) | (with_reducible assumption) | (with_reducible refine bdrewN ?_ _) | (with_reducible refine bdrew ?_) | (with_reducible refine balloc0 ?_) | (with_reducible refine balloc ?_ ?_) | (with_reducible apply btrans0; rotate_left; with_reducible assumption) | (with_reducible apply btrans; rotate_left; with_reducible assumption) | exact Below.refl _ _ | assumption | (apply btrans0; rotate_left; assumption) | (apply btrans; rotate_left; assumption) | (simp; done) | omega | (simp; omega))))).mono ?_
  rw [exA_txt, exA_ok]
  rintro e w1 ⟨rfl, hb1⟩
  have hB1 : Below w.heap.size w w1 := (by repeat' (first | (with_reducible refine bset ?_ ?_) | (with_reducible exact Below.refl _ _) | (with_reducible assumption) | (with_reducible refine bdrewN ?_ _) | (with_reducible refine bdrew ?_) | (with_reducible refine balloc0 ?_) | (with_reducible refine balloc ?_ ?_) | (with_reducible apply btrans0; rotate_left; with_reducible assumption) | (with_reducible apply btrans; rotate_left; with_reducible assumption) | exact Below.refl _ _ | assumption | (apply btrans0; rotate_left; assumption) | (apply btrans; rotate_left; assumption) | (simp; done) | omega | (simp; omega)))
  go_wp2_with fail
  refine (repText_any exB _ (hT.stays (by repeat' (first | (with_reducible refine bset ?_ ?_) | (with_reducible exact Below.refl _ _) | (with_reducible assumption) | (with_reducible refine bdrewN ?_ _) | (with_reducible refine bdrew ?_) | (with_reducible refine balloc0 ?_) | (with_reducible refine balloc ?_ ?_) | (with_reducible apply btrans0; rotate_left; with_reducible assumption) | (with_reducible apply btrans; rotate_left; with_reducible assumption) | exact Below.refl _ _ | assumption | (apply btrans0; rotate_left; assumption) | (apply btrans; rotate_left; assumption) | (simp; done) | omega | (simp; omega))))).mono ?_
  rw [exB_txt, exB_ok]
  rintro e w2 ⟨rfl, hb2⟩
  have hB2 : Below w.heap.size w w2 := (by repeat' (first | (with_reducible refine bset ?_ ?_) | (with_reducible exact Below.refl _ _) | (with_reducible assumption) | (with_reducible refine bdrewN ?_ _) | (with_reducible refine bdrew ?_) | (with_reducible refine balloc0 ?_) | (with_reducible refine balloc ?_ ?_) | (with_reducible apply btrans0; rotate_left; with_reducible assumption) | (with_reducible apply btrans; rotate_left; with_reducible assumption) | exact Below.refl _ _ | assumption | (apply btrans0; rotate_left; assumption) | (apply btrans; rotate_left; assumption) | (simp; done) | omega | (simp; omega)))
  go_wp2
  go_ret
  exact ⟨rfl, (by repeat' (first | (with_reducible refine bset ?_ ?_) | (with_reducible exact Below.refl _ _) | (with_reducible assumption) | (with_reducible refine bdrewN ?_ _) | (with_reducible refine bdrew ?_) | (with_reducible refine balloc0 ?_) | (with_reducible refine balloc ?_ ?_) | (with_reducible apply btrans0; rotate_left; with_reducible assumption) | (with_reducible apply btrans; rotate_left; with_reducible assumption) | exact Below.refl _ _ | assumption | (apply btrans0; rotate_left; assumption) | (apply btrans; rotate_left; assumption) | (simp; done) | omega | (simp; omega)))⟩
end Go.Proofs.YtcmkpnjbnjbegaaDoor
