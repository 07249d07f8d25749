/- WHAT IS PROVED: for every config and every op that a caller can hand over, the Go function bootjacklaw31.DeviceNone returns true, and what it was handed reads as it did before the call. CONDITIONS: none of this file's own; those of the given statement alone (the start that the row speaks of, and the model's own bounds). -/
import Derived.Test.YtgiaocfogdkepaaGreatRows
import Derived.Test.YtgiaocfogdkepaaGreatChecked
import Derived.Test.YtgiaocfogdkepaaGreatFrame
namespace Go.Proofs.YtgiaocfogdkepaaGreat.none
open Go Go.Bj Go.Proofs Go.ChangeShapes Go.WideShapes Go.ChangeAt Go.RowKit Go.Joins
theorem cells_config : Tryz.prog.cellsOf 31 = 2 := by kernel_rfl
theorem cells_op : Tryz.prog.cellsOf 41 = 4 := by kernel_rfl
set_option maxRecDepth 100000 in
theorem lifted (os : Os) (started : os.Started) (H : Type) (enc : TypeId × Value → H) :
    ReturnsInHanded {} Tryz.checked os 8 .any (Rows.deviceNoneSpec.pre6 enc Tryz.prog Tryz.f8 Rows.deviceNoneRow.domain false) (Rows.deviceNoneSpec.post enc Tryz.prog Tryz.f8 false true false false) := by
  refine returnsInHanded_of_change (C := Tryz.checked) own started (by kernel_rfl) Tryz.func8
    (ChangeSpec.witness6 (enc := enc) (C := Tryz.checked) false ⟨#[], #[.agg #[.slice none 0 0, .int .i64 0], .agg #[.int .i64 0, .int .i64 0, .int .i64 0, .slice none 0 0]], []⟩ 8 (by kernel_rfl) (by kernel_rfl) (by kernel_rfl) (by kernel_rfl)) ?_
  intro W base args ds gs before hval0 hW hcnd _
  have hval : ∀ (j : Nat) t v, Tryz.f8.params[j]? = some t → args[j]? = some v → Value.okWide Tryz.prog W .any base t v := hval0
  have hW' := hW
  obtain ⟨p, q, hA0, hV, rfl, hfz, hnd⟩ := hW
  have hA : DataW.TrodAll enc Tryz.prog W 0 (fun _ => true) true Tryz.f8.params.toList args.toList ds p := hA0
  rw [Tryz.params8] at hA hval
  obtain ⟨v0, vs0, d0, ds0, p0, q0, hargs, rfl, rfl, h0, r0⟩ := trodAll_cons hA
  obtain ⟨v1, vs1, d1, ds1, p1, q1, rfl, rfl, rfl, h1, r1⟩ := trodAll_cons r0
  obtain ⟨rfl, rfl, rfl⟩ := trodAll_nil r1
  obtain rfl : args = #[v0, v1] := by cases args; simp_all
  obtain ⟨rfl, rfl⟩ := trodVars_none hV
  have k0 := h0
  have k1 := h1
  have lt0 : ∀ x ∈ p0, x.block < W.heap.size := by obtain ⟨m, hm⟩ := k0; exact DataW.trod_lt m _ _ _ hm
  have lt1 : ∀ x ∈ p1, x.block < W.heap.size := by obtain ⟨m, hm⟩ := k1; exact DataW.trod_lt m _ _ _ hm
  obtain ⟨c0, c1, y0, y1, m0, rfl, _, _, hy0, hy1⟩ := open_agg2 Tryz.underlying31 (by kernel_rfl) cells_config (hval 0 31 v0 rfl rfl) h0
  obtain ⟨A, nk, c, l, rfl, hr⟩ := open_keys hy0
  obtain ⟨slots, e1, _, _⟩ := DataW.trod_int Tryz.underlying3 hy1
  simp at e1
  subst e1
  obtain ⟨b0, b1, b2, b3, z0, z1, z2, z3, m1, rfl, _, _, hz0, hz1, hz2, hz3⟩ := open_agg4 Tryz.underlying41 (by kernel_rfl) cells_op (hval 1 41 v1 rfl rfl) h1
  obtain ⟨k, e2, _, _⟩ := DataW.trod_int Tryz.underlying3 hz0
  obtain ⟨n, e3, _, _⟩ := DataW.trod_int Tryz.underlying3 hz1
  obtain ⟨a, e4, _, _⟩ := DataW.trod_int Tryz.underlying3 hz2
  simp at e2 e3 e4
  subst e2 e3 e4
  obtain ⟨B, lb, d, _, rfl, _⟩ := open_byt hz3
  clear hA0 hval0
  refine (none_all A nk c slots k n a B lb d _ hr (bvs_one l)).mono fun e W' ⟨he, kept⟩ => ?_
  subst he
  have bel := kept.below
  exact ⟨_, rfl, _, _, _, [], _, [], hW', trodAll_mk1 (shut_bool Tryz.underlying4 _), (trodAll_cons_mk (Below.trod laidOut (by kernel_rfl) (of_decide_eq_true (by kernel_rfl)) k0 bel lt0) (trodAll_cons_mk (Below.trod laidOut (by kernel_rfl) (of_decide_eq_true (by kernel_rfl)) k1 bel lt1) trodAll_mk0)), rfl, bel.frame _, fun h => by cases h⟩
theorem fact_inPlace : (Rows.deviceNoneRow.inPlace == Tryz.prog.inPlace 8) = true := by kernel_rfl
theorem fact_unfollowed : (Rows.deviceNoneRow.unfollowed == Tryz.prog.unfollowed 8) = true := by kernel_rfl
theorem fact_recurses : (Rows.deviceNoneRow.recurses == Tryz.prog.recurses 8) = true := by kernel_rfl
theorem fact_named : (Rows.deviceNoneRow.named == Tryz.prog.varsNamed 8) = true := by kernel_rfl
theorem closed : joinedFacts Tryz.prog 8 Tryz.f8 Rows.deviceNoneSpec Rows.deviceNoneRow = true := by
  simp only [joinedFacts, Bool.and_eq_true]
  exact ⟨⟨⟨⟨⟨⟨⟨⟨⟨⟨⟨⟨⟨⟨⟨⟨⟨⟨⟨⟨⟨⟨⟨⟨⟨⟨⟨⟨⟨⟨⟨(by kernel_rfl), laidOut⟩, maps_rowed⟩, (by kernel_rfl)⟩, (by kernel_rfl)⟩, (by kernel_rfl)⟩, (by kernel_rfl)⟩, (by kernel_rfl)⟩, (by kernel_rfl)⟩, fact_inPlace⟩, fact_unfollowed⟩, fact_recurses⟩, fact_named⟩, (by kernel_rfl)⟩, (by kernel_rfl)⟩, (by kernel_rfl)⟩, (by kernel_rfl)⟩, (by kernel_rfl)⟩, (by kernel_rfl)⟩, (by kernel_rfl)⟩, (by kernel_rfl)⟩, (by kernel_rfl)⟩, (by rw [plain_keys]; kernel_rfl)⟩, (by kernel_rfl)⟩, stops_heard⟩, may_enter⟩, (by rw [lifts_final]; kernel_rfl)⟩, (by rw [made_cut]; kernel_rfl)⟩, (by kernel_rfl)⟩, (by kernel_rfl)⟩, (by kernel_rfl)⟩, (by kernel_rfl)⟩
end Go.Proofs.YtgiaocfogdkepaaGreat.none
namespace Go.Proofs.YtgiaocfogdkepaaGreat
/-- the given statement on 'bootjacklaw31.DeviceNone' -/
theorem device_none : Rows.DeviceNoneSaid :=
  OpenClaim.holds_of_wide 8 Tryz.f8 rfl rfl rfl rfl rfl rfl rfl ⟨rfl, rfl, rfl, rfl, rfl⟩ rfl rfl rfl rfl rfl (by kernel_rfl) Tryz.func8 none.closed
    (of_decide_eq_true (by kernel_rfl)) (by unfold Func.isWrapper; first | (rw [if_pos (by decide +kernel)]; kernel_rfl) | (rw [if_neg (by decide +kernel)]; exact ⟨rfl, rfl⟩))
    (fun os started H enc _ => none.lifted os started H enc)
#print axioms device_none
end Go.Proofs.YtgiaocfogdkepaaGreat
