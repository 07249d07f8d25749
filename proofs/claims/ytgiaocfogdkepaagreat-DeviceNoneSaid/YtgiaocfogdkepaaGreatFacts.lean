import Derived.Test.YtgiaocfogdkepaaGreatChecked
import Derived.JoinedOf
import Derived.KernelRfl
namespace Go.Bj
open Go Proofs
theorem strip_cut (rest : List (List Char)) : stripLifts liftWords ("cut".toList :: rest) = ([], "cut".toList :: rest) := by
  have h : ∀ ws : List String, ws.all (fun o => !("cut".toList == o.toList)) = true → stripLifts ws ("cut".toList :: rest) = ([], "cut".toList :: rest) := by
    intro ws
    induction ws with
    | nil => intro _; rfl
    | cons o os ih =>
      intro h
      simp only [List.all_cons, Bool.and_eq_true, Bool.not_eq_true'] at h
      unfold stripLifts
      rw [if_neg (by rw [h.1]; simp)]
      exact ih h.2
  exact h _ (by kernel_rfl)
theorem words_cut {P : Program} (h : (behindMainWord (wordsSigns P.initOrder.toList)).head? = some "cut".toList) : ∃ rest, behindMainWord (wordsSigns P.initOrder.toList) = "cut".toList :: rest := by
  cases hw : behindMainWord (wordsSigns P.initOrder.toList) with
  | nil => rw [hw] at h; cases h
  | cons c rest => rw [hw] at h; injection h with h; exact ⟨rest, by rw [h]⟩
theorem enter_of {P : Program} (h : (behindMainWord (wordsSigns P.initOrder.toList)).head? = some "cut".toList) (h1 : P.laysLater = false) (h2 : P.bearsReflect = false) (h3 : P.doorFits [] = true) : P.mayEnter = true := by
  obtain ⟨rest, hw⟩ := words_cut h
  unfold Program.mayEnter
  simp only [hw, strip_cut, h1, h2, h3]
  simp
theorem lifts_of {P : Program} (h : (behindMainWord (wordsSigns P.initOrder.toList)).head? = some "cut".toList) : P.liftsFinal = false := by
  obtain ⟨rest, hw⟩ := words_cut h
  unfold Program.liftsFinal Program.headLifts
  simp only [hw, strip_cut]
  simp
theorem make_of {P : Program} (h : (behindMainWord (wordsSigns P.initOrder.toList)).head? = some "cut".toList) : P.make = some .cut := by
  obtain ⟨rest, hw⟩ := words_cut h
  unfold Program.make
  rw [hw]
  have h1 : (("cut".toList) == "gc".toList) = false := by decide +kernel
  have h2 : (("cut".toList) == "spec".toList) = false := by decide +kernel
  simp only [h1, h2]
  simp
theorem head_cut : (behindMainWord (wordsSigns Tryz.prog.initOrder.toList)).head? = some "cut".toList := by kernel_rfl
theorem lays_later : Tryz.prog.laysLater = false := by kernel_rfl
theorem bears_reflect : Tryz.prog.bearsReflect = false := by kernel_rfl
theorem door_fits : Tryz.prog.doorFits [] = true := by kernel_rfl
theorem may_enter : Tryz.prog.mayEnter = true := enter_of head_cut lays_later bears_reflect door_fits
theorem lifts_final : Tryz.prog.liftsFinal = false := lifts_of head_cut
theorem made_cut : Tryz.prog.make = some .cut := make_of head_cut
theorem own : ownKnob Tryz.prog.godebug = none := by kernel_rfl
theorem laidOut : laidOutB Tryz.prog = true := by kernel_rfl
theorem maps_rowed : mapsRowed Tryz.prog = true := by kernel_rfl
theorem plain_keys : Tryz.prog.plainKeys = true := by kernel_rfl
theorem stops_heard : Tryz.prog.stopsHeard = true := by kernel_rfl
end Go.Bj
