import Derived.Test.YtgiaocfogdkepaaGreatOpen1
namespace Go.Bj
open Go Go.RowKit Proofs
attribute [local go_sem] cell_at frozen_at at_some fz_some setAt_some heap_setCell heap_alloc heap_drew heap_drewN

def toldC (err offset slot : Int) (m : List UInt8) : List Value := [.int .i64 err, .int .i64 offset, .int .i64 slot] ++ m.map bv
theorem info_told : (Tryz.prog.info? 37).map (·.size) = some 67 := by kernel_rfl
theorem zero_told : (Tryz.zeroCells37).size = 67 := by kernel_rfl
theorem toldC_length {err offset slot : Int} {m : List UInt8} (h : m.length = 64) : (toldC err offset slot m).length = 67 := by simp [toldC, h]
theorem told_one (err offset slot : Int) (m : List UInt8) : AllOne (toldC err offset slot m) := (AllOne.cons rfl (AllOne.cons rfl (AllOne.cons rfl AllOne.nil))).append (bvs_one _)
theorem toldZ (e : Int) : (Tryz.zeroCells37).setIfInBounds 0 (.int .i64 e) = (toldC e 0 0 (zeros 64)).toArray := rfl

set_option maxRecDepth 100000 in
set_option maxHeartbeats 1000000 in
theorem ledger_state_nil (w : World) : Calls Tryz.prog 161 #[.pointer none] w fun e w' => e = .returned (.agg (stateC blankS nilV).toArray) ∧ Kept [] w w' := by
  go_enter Tryz.func161, Tryz.ntmps161
  go_wp2_with (first
    | (go_at_call 223; refine (ledger_blank _).mono ?_; rintro e w1 ⟨rfl, hk⟩; have hb := hk.box (by simp))
    | (refine wpList_store_all rfl _ _ _ rfl _ rfl (stateC blankS nilV) rfl hb info_state (stateC_length blank_ok _) zero_state blank_one ?_
       intro w2 hb2 ho2 hz2 hk2))
  exact bodyPost_cell rfl rfl rfl hb2 Tryz.underlying66 rfl (by rw [info_state, stateC_length blank_ok]) ⟨rfl, hk2 _ _ hk.unbox (.inr (Nat.le_refl _))⟩
set_option maxRecDepth 100000 in
set_option maxHeartbeats 1000000 in
theorem loader_state_nil (w : World) : Calls Tryz.prog 74 #[.pointer none] w fun e w' => e = .returned (.agg (stateC blankS nilV).toArray) ∧ Kept [] w w' := by
  go_enter Tryz.func74, Tryz.ntmps74
  go_wp2_with (first
    | (go_at_call 161; refine (ledger_state_nil _).mono ?_; rintro e w1 ⟨rfl, hk⟩; have hb := hk.box (by simp))
    | (refine wpList_store_all rfl _ _ _ rfl _ rfl (stateC blankS nilV) rfl hb info_state (stateC_length blank_ok _) zero_state blank_one ?_
       intro w2 hb2 ho2 hz2 hk2))
  exact bodyPost_cell rfl rfl rfl hb2 Tryz.underlying66 rfl (by rw [info_state, stateC_length blank_ok]) ⟨rfl, hk2 _ _ hk.unbox (.inr (Nat.le_refl _))⟩
set_option maxHeartbeats 400000 in
theorem dev_on_nil (w : World) : Calls Tryz.prog 31 #[.pointer none] w fun e w' => e = .returned (.bool false) ∧ w = w' := by
  go_enter Tryz.func31, Tryz.ntmps31
  go_wp2
  go_ret
  exact ⟨rfl, rfl⟩
set_option maxRecDepth 100000 in
set_option maxHeartbeats 1000000 in
theorem dev_state_nil (w : World) : Calls Tryz.prog 39 #[.pointer none] w fun e w' => e = .returned (.agg (stateC blankS nilV).toArray) ∧ Kept [] w w' := by
  go_enter Tryz.func39, Tryz.ntmps39
  go_wp2_with (first
    | (go_at_call 31; refine (dev_on_nil _).mono ?_; rintro e w1 ⟨rfl, rfl⟩)
    | (go_at_call 74; refine (loader_state_nil _).mono ?_; rintro e w1 ⟨rfl, hk⟩; have hb := hk.box (by simp))
    | (refine wpList_store_all rfl _ _ _ rfl _ rfl (stateC blankS nilV) rfl hb info_state (stateC_length blank_ok _) zero_state blank_one ?_
       intro w2 hb2 ho2 hz2 hk2))
  exact bodyPost_cell rfl rfl rfl hb2 Tryz.underlying66 rfl (by rw [info_state, stateC_length blank_ok]) ⟨rfl, hk2 _ _ hk.unbox (.inr (Nat.le_refl _))⟩
set_option maxHeartbeats 400000 in
theorem dev_data_nil (a b : Int) (w : World) : Calls Tryz.prog 36 #[.pointer none, .int .i64 a, .int .i64 b] w fun e w' => e = .returned nilV ∧ w = w' := by
  go_enter Tryz.func36, Tryz.ntmps36
  go_wp2
  go_ret
  exact ⟨rfl, rfl⟩
set_option maxHeartbeats 400000 in
theorem dev_wear_nil (w : World) : Calls Tryz.prog 35 #[.pointer none] w fun e w' => e = .returned nilV ∧ w = w' := by
  go_enter Tryz.func35, Tryz.ntmps35
  go_wp2
  go_ret
  exact ⟨rfl, rfl⟩
set_option maxHeartbeats 400000 in
theorem dev_held_nil (w : World) : Calls Tryz.prog 30 #[.pointer none] w fun e w' => e = .returned (.int .i64 0) ∧ w = w' := by
  go_enter Tryz.func30, Tryz.ntmps30
  go_wp2
  go_ret
  exact ⟨rfl, rfl⟩
set_option maxRecDepth 100000 in
set_option maxHeartbeats 1000000 in
theorem dev_do_nil (k n a : Int) (A : Option Addr) (l c : Nat) (w : World) : Calls Tryz.prog 29 #[.pointer none, .agg #[.int .i64 k, .int .i64 n, .int .i64 a, .slice A l c]] w fun e w' =>
    e = .returned (.agg (toldC 1 0 0 (zeros 64)).toArray) ∧ Kept [] w w' := by
  go_enter Tryz.func29, Tryz.ntmps29
  go_wp2_with (refine wpList_store_all rfl _ _ _ rfl _ rfl (toldC 1 0 0 (zeros 64)) (by kernel_rfl) (blk_new1 _ _ _) info_told (toldC_length (by simp [zeros])) zero_told (told_one _ _ _ _) ?_
               intro w2 hb2 ho2 hz2 hk2)
  exact bodyPost_cell rfl rfl rfl hb2 Tryz.underlying37 rfl (by rw [info_told, toldC_length (by simp [zeros])]) ⟨rfl, hk2 _ _ (((Kept.refl _ _).alloc _).alloc _) (.inr (by omega))⟩
end Go.Bj
