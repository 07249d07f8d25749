import Derived.Test.YtgiaocfogdkepaaGreatLedger0
namespace Go.Bj
open Go Go.RowKit Proofs
attribute [local go_sem] cell_at frozen_at at_some fz_some setAt_some heap_setCell heap_alloc heap_drew heap_drewN

def journalC (p : Nat) (first count : Int) (lv : Value) (epoch current used : Int) (torn : Bool) (err : Int) : Array Value :=
  #[.pointer (some ⟨p, 0, none⟩), .int .i64 first, .int .i64 count, lv, .int .i64 epoch, .int .i64 current, .int .i64 used, .bool torn, .int .i64 err]
structure BlankFlash (F : FlashS) : Prop where
  off : F.off = false
  b : F.b = blankL (F.er.length * 1024)
  ge : 2 ≤ F.er.length
  le : F.er.length ≤ 256
theorem read_blank {F : FlashS} (h : BlankFlash F) (k : Nat) (hk : k < 2) : rRead F 0 2 ((k : Int) * 1024) 1024 = (blankL 1024, 0) := by
  have hg := h.ge
  have hl : F.b.length = F.er.length * 1024 := by rw [h.b]; simp [blankL]
  unfold rRead mayE FlashS.read
  rw [h.off]
  simp only [Bool.false_eq_true, if_false]
  rw [if_pos (within_yes (by omega)), if_pos rfl, if_pos (within_yes (by omega))]
  rw [h.b]
  simp only [blankL, List.drop_replicate, List.take_replicate]
  congr 2
  simp; omega

set_option maxRecDepth 100000 in
set_option maxHeartbeats 2000000 in
theorem journal_open_blank {w : World} {p pb pe : Nat} {F : FlashS} (h : FlashAt w p pb pe F) (hF : BlankFlash F) :
    Calls Tryz.prog 206 #[regV p 0 2] w fun e w' => ∃ pj, e = .returned (.tuple #[.pointer (some ⟨pj, 0, none⟩), .int .i64 0]) ∧ w.heap.size ≤ pj ∧
      w'.blk pj = some (.cells (journalC p 0 2 nilV 0 (-1) 0 false 0) 343 (0, 0)) ∧ Kept [] w w' := by
  have hR := fun (k : Nat) (hk : k < 2) W (K : Kept [] w W) => rread_any (h.keep0 K) 0 2 ((k : Int) * 1024) 1024 (by omega) (by omega) (by omega)
  have HR : ∀ (k : Nat) (hk : k < 2) W (K : Kept [] w W), Hid (Calls Tryz.prog 73 #[regV p 0 2, .int .i64 ((k : Int) * 1024), .int .i64 1024] W fun e w' =>
      ∃ v, e = .returned (.tuple #[v, .int .i64 0]) ∧ Own w' W.heap.size v (blankL 1024) ∧ Kept [] W w') := fun k hk W K => by
    have := hR k hk W K
    rw [read_blank hF k hk] at this
    exact Lib.hid this
  clear h hF hR
  unfold regV at *
  go_enter Tryz.func206, Tryz.ntmps206
  go_wp2_with (go_at_call 222; refine (rsize_any p 0 2 _ (by omega)).mono ?_; rintro e w1 ⟨rfl, hk⟩; have hb := hk.box (by simp); have hlt := lt_of_blk hb)
  go_loopw [16] (fun i wr => ∃ k : Nat, k ≤ 2 ∧ i = .int .i64 k ∧ wr.blk w.heap.size = some (.cells #[.pointer (some ⟨p, 0, none⟩), .int .i64 0, .int .i64 2] 113 (0, 0)) ∧
      wr.blk w1.heap.size = some (.cells (journalC p 0 2 nilV 0 (-1) 0 false 0) 343 (0, 0)) ∧ Kept [] w wr) (fun i _ => 2 - (intOf i).toNat)
  case atStart => exact ⟨0, Nat.zero_le _, rfl, (blk_old hlt).trans hb, blk_new _ _, hk.unbox.alloc _⟩
  case round =>
    obtain ⟨k, hk2, rfl, hb1, hj, hkr⟩ := hrel
    unfold journalC at hj
    by_cases hlt2 : k < 2
    · go_wp2_with (first
        | (go_at_call 73
           refine (HR k hlt2 _ hkr).out.mono ?_
           rintro e w2 ⟨v, rfl, ho, hk3⟩
           have hb2 := hk3.blk hb1 (by simp)
           have hj2 := hk3.blk hj (by simp))
        | (go_at_call 276
           refine (epoch_blank _ _ _ ho.byt (by simp [blankL]) (by simp [blankL]) (by simp [blankL])).mono ?_
           rintro e w3 ⟨rfl, hk4⟩
           have hb3 := hk4.blk hb2 (by simp)
           have hj3 := hk4.blk hj2 (by simp)))
      go_roundw
      case rel => exact ⟨k + 1, by omega, by go_num, hb3, hj3, (hkr.trans hk3).trans hk4⟩
      case measure => simp [intOf]; omega
    · obtain rfl : k = 2 := by omega
      go_wp2
      go_ret2
      exact ⟨_, rfl, hk.unbox.size, hj, hkr⟩

set_option maxHeartbeats 400000 in
theorem clone_recs_nil (w : World) : Calls Tryz.prog 368 #[nilV] w fun e w' => e = .returned nilV ∧ w = w' := by
  have hnil := fun w => Lib.run_eql_slice_nil (P := Tryz.prog) w 289 345 none 0 0 0 0 Tryz.underlying289
  unfold nilV
  go_enter Tryz.func368, Tryz.ntmps368
  go_wp2
  go_ret
  exact ⟨rfl, rfl⟩
set_option maxHeartbeats 400000 in
theorem jclone_nil (w : World) : Calls Tryz.prog 279 #[nilV] w fun e w' => e = .returned nilV ∧ w = w' := by
  unfold nilV
  go_enter Tryz.func279, Tryz.ntmps279
  go_wp2_with (go_at_call 368; refine (clone_recs_nil _).mono ?_; unfold nilV; rintro e w1 ⟨rfl, rfl⟩)
  refine wp_loop_rounds 1 ?_
  rw [rounds_succ]
  go_wp2
  go_ret
  exact ⟨rfl, rfl⟩
set_option maxHeartbeats 400000 in
theorem all_nil {w : World} {pj p : Nat} {a b c d e : Int} {t : Bool} {f : Int} (h : w.blk pj = some (.cells (journalC p a b nilV c d e t f) 343 (0, 0))) :
    Calls Tryz.prog 208 #[.pointer (some ⟨pj, 0, none⟩)] w fun e w' => e = .returned nilV ∧ w = w' := by
  unfold journalC nilV at h
  go_enter Tryz.func208, Tryz.ntmps208
  go_wp2_with (go_at_call 279; refine (jclone_nil _).mono ?_; unfold nilV; rintro e w1 ⟨rfl, rfl⟩)
  go_ret
  exact ⟨rfl, rfl⟩
set_option maxRecDepth 100000 in
set_option maxHeartbeats 1000000 in
theorem ledger_open_blank {w : World} {p pb pe : Nat} {F : FlashS} (h : FlashAt w p pb pe F) (hF : BlankFlash F) :
    Calls Tryz.prog 147 #[regV p 0 2] w fun e w' => ∃ pg pj, e = .returned (.tuple #[.pointer (some ⟨pg, 0, none⟩), .int .i64 0]) ∧ w.heap.size ≤ pg ∧
      LedgerBlk w' pg pj blankS nilV ∧ Kept [] w w' := by
  have HJ := fun W (K : Kept [] w W) => Lib.hid (journal_open_blank (h.keep0 K) hF)
  clear h hF
  unfold regV at *
  go_enter Tryz.func147, Tryz.ntmps147
  go_wp2_with (first
    | (go_at_call 206
       refine (HJ _ ((Kept.refl _ _).alloc _)).out.mono ?_
       rintro e w1 ⟨pj, rfl, hpj, hj, hk⟩)
    | (go_at_call 208; refine (all_nil hj).mono ?_; unfold nilV; rintro e w2 ⟨rfl, rfl⟩)
    | (go_at_call 207; refine (fold_nil _ none 0).mono ?_; rintro e w3 ⟨rfl, hk3⟩))
  go_ret2
  exact ⟨w3.heap.size, pj, rfl, Nat.le_trans hk.unbox.size hk3.size, ⟨by rw [blk_new, foldl_put1 _ _ _ (by rw [stateC_length blank_ok]; kernel_rfl)], blank_ok, Rd.nil _ 1, rfl⟩, (hk.unbox.trans hk3).alloc _⟩
end Go.Bj
