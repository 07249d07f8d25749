import Derived.Test.YtgiaocfogdkepaaGreatSeal0
import Derived.Test.YtgiaocfogdkepaaGreatState
import Derived.Outline
namespace Go.Bj
open Go Go.RowKit Proofs
attribute [local go_sem] cell_at frozen_at at_some fz_some setAt_some heap_setCell heap_alloc heap_drew heap_drewN
set_option maxRecDepth 100000 in
set_option maxHeartbeats 1000000 in
theorem ledger_blank (w : World) : Calls Tryz.prog 223 #[] w fun e w' => e = .returned (stateV blankS nilV) ∧ Kept [] w w' := by
  go_enter Tryz.func223, Tryz.ntmps223
  go_wp2_with (refine wpList_store_seg rfl _ _ _ rfl _ _ rfl (stateC blankS nilV).toArray (by kernel_rfl) (blk_new _ _) info_state (by kernel_rfl) (Nat.le_of_ble_eq_true (by kernel_rfl)) blank_one ?_)
  exact bodyPost_cell rfl rfl rfl (vs := stateC blankS nilV) (by rw [blk_putSeg, if_pos rfl, blk_new]; exact congrArg some (seg_all _ _ _ _ (by kernel_rfl))) Tryz.underlying66 rfl info_state
    ⟨rfl, ((Kept.refl _ _).alloc _).putSeg _ (.inr (Nat.le_refl _))⟩
set_option maxRecDepth 100000 in
set_option maxHeartbeats 1000000 in
theorem fold_nil (w : World) (A : Option Addr) (c : Nat) : Calls Tryz.prog 207 #[.slice A 0 c] w fun e w' => e = .returned (stateV blankS nilV) ∧ Kept [] w w' := by
  go_enter Tryz.func207, Tryz.ntmps207
  go_wp2_with (first
    | (go_at_call 223; refine (ledger_blank _).mono ?_; rintro e w1 ⟨rfl, hk⟩; have hb := hk.box (by simp); have hlt := lt_of_blk hb)
    | (refine wpList_store_all rfl _ _ _ rfl _ rfl (stateC blankS nilV) rfl (blk_new _ _) info_state (stateC_length blank_ok _) zero_state blank_one ?_
       intro w2 hb2 ho2 hz2 hk2))
  refine wp_loop_rounds 1 ?_
  rw [rounds_succ]
  go_wp2_with (first
    | (refine wpList_load_all rfl _ _ rfl _ rfl hb2 Tryz.underlying66 rfl (size_info_state blank_ok _) ?_)
    | (refine wpList_store_all rfl _ _ _ rfl _ rfl (stateC blankS nilV) rfl ((ho2 _ (by omega)).trans ((blk_old hlt).trans hb)) info_state (stateC_length blank_ok _) zero_state blank_one ?_
       intro w3 hb3 ho3 hz3 hk3))
  exact bodyPost_cell rfl rfl rfl (vs := stateC blankS nilV) hb3 Tryz.underlying66 rfl info_state ⟨rfl, hk3 _ _ (hk2 _ _ (hk.unbox.alloc _) (.inr hk.unbox.size)) (.inr (Nat.le_refl _))⟩

/-- a ledger in memory -/
structure LedgerBlk (w : World) (pg pj : Nat) (s : StateS) (midv : Value) : Prop where
  blk : w.blk pg = some (.cells (.pointer (some ⟨pj, 0, none⟩) :: stateC s midv).toArray 292 (0, 0))
  ok : StateOk s
  mid : Byt w midv s.check.mid
  one : midv.oneCell' = true
theorem Byt.one {w : World} {v : Value} {l : List UInt8} (h : Byt w v l) : v.oneCell' = true := by obtain ⟨A, c, rfl, _⟩ := h; rfl
set_option maxRecDepth 100000 in
set_option maxHeartbeats 1000000 in
theorem ledger_state {w : World} {pg pj : Nat} {s : StateS} {midv : Value} (h : LedgerBlk w pg pj s midv) (hm : s.check.mid.length < 1099511627776) :
    Calls Tryz.prog 161 #[.pointer (some ⟨pg, 0, none⟩)] w fun e w' => ∃ v, e = .returned (stateV s v) ∧ Own w' w.heap.size v s.check.mid ∧ Kept [] w w' := by
  obtain ⟨hb, hok, hmid, h1⟩ := h
  have hlt := lt_of_blk hb
  have e81 := stateC_mid hok midv
  have hset := fun u => stateC_setMid hok midv u
  have hdt : ((Value.pointer (some ⟨pj, 0, none⟩) :: stateC s midv).toArray.toList.drop 1).take 82 = stateC s midv := by
    simp only [List.drop_succ_cons, List.drop_zero]
    exact List.take_of_length_le (by rw [stateC_length hok]; omega)
  have HD := Lib.hid hdt
  clear hdt
  go_enter Tryz.func161, Tryz.ntmps161
  go_wp2_with (first
    | (refine wpList_load_seg rfl _ _ rfl _ _ rfl ((blk_old hlt).trans hb) Tryz.underlying66 rfl info_state (by simp [stateC_length hok]) ?_
       rw [HD.out])
    | (refine wpList_store_all rfl _ _ _ rfl _ rfl (stateC s midv) rfl (blk_new1 _ _ _) info_state (stateC_length hok _) zero_state (state_one _ h1) ?_
       intro w2 hb2 ho2 hz2 hk2)
    | (go_at_call 148
       have hm2 := hmid.keep0 (hk2 _ _ (((Kept.refl [] w).alloc _).alloc _) (.inr (Nat.le_succ _)))
       refine (clone_bytes _ _ _ hm2 hm).mono ?_
       rintro e w3 ⟨v, rfl, ho, hk3⟩
       obtain ⟨A, c, rfl, hc1, hc2⟩ := ho.byt.form
       have hb3 := hk3.blk hb2 (by simp)
       have hz3 := hk3.blk ((ho2 w.heap.size (by omega)).trans ((blk_old (by simp)).trans (blk_new w _))) (by simp)
       have hb4 : (w3.setCell ⟨w.heap.size + 1, 81, none⟩ (.slice A s.check.mid.length c)).blk (w.heap.size + 1) = some (.cells (stateC s (.slice A s.check.mid.length c)).toArray 66 (0, 0)) := by
         rw [heap_setCell, if_pos rfl, hb3]; simp [setAt, hset]
       have hz4 : (w3.setCell ⟨w.heap.size + 1, 81, none⟩ (.slice A s.check.mid.length c)).blk w.heap.size = some (.cells Tryz.zeroCells66 66 (0, 0)) := (by rw [heap_setCell, if_neg (fun e => by have := congrArg Addr.block e; simp at this)]; exact hz3))
    | (refine wpList_load_all rfl _ _ rfl _ rfl hb4 Tryz.underlying66 rfl (size_info_state hok _) ?_)
    | (refine wpList_store_all rfl _ _ _ rfl _ rfl (stateC s (.slice A s.check.mid.length c)) rfl hz4 info_state (stateC_length hok _) zero_state (state_one _ rfl) ?_
       intro w5 hb5 ho5 hz5 hk5))
  refine bodyPost_cell rfl rfl rfl hb5 Tryz.underlying66 rfl (by rw [info_state, stateC_length hok]) ⟨_, rfl, ?_, ?_⟩
  · have k5 := hk5 [w.heap.size + 1, w.heap.size] w3 ((Kept.refl _ _).setCell _ (.inl (by simp))) (.inl (by simp))
    simp only [size_al] at hz2
    exact (ho.keep k5 (by intro x hx; simp at hx; omega)).mono (by omega)
  · have k2 := hk2 [] w (((Kept.refl [] w).alloc _).alloc _) (.inr (by omega))
    exact hk5 _ _ ((k2.trans hk3).setCell _ (.inr (by omega))) (.inr (by omega))
end Go.Bj
