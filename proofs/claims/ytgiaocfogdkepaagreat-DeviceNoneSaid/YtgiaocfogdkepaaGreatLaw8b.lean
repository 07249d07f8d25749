import Derived.Test.YtgiaocfogdkepaaGreatLaw8
namespace Go.Bj
open Go Go.RowKit Proofs
attribute [local go_sem] cell_at frozen_at at_some fz_some setAt_some heap_setCell heap_alloc heap_drew heap_drewN told2g told0g
set_option maxRecDepth 100000 in
set_option maxHeartbeats 2000000 in
theorem none_far (A : Option Addr) (nk c : Nat) (slots k n a : Int) (B : Option Addr) (l d : Nat) (w : World) (h : 10 < nk ∨ 6 < slots) :
    Calls Tryz.prog 8 #[cfgV (.slice A nk c) slots, .agg #[.int .i64 k, .int .i64 n, .int .i64 a, .slice B l d]] w fun e w' => e = .returned (.bool true) ∧ Kept [] w w' := by
  unfold cfgV
  go_enter Tryz.func8, Tryz.ntmps8
  go_wp2_with (go_at_call 50
               refine (alive_true _).mono ?_
               rintro e w1 ⟨rfl, hk⟩
               have hb1 := hk.blk ((blk_old (by simp)).trans (blk_new w _)) (by simp)
               have hk1 := (((Kept.refl [] w).alloc _).alloc _).trans hk)
  all_goals (go_ret; exact ⟨rfl, hk1⟩)
theorem run_field_one {P : Program} {t ty : TypeId} {fs : Array Field} {i off : Nat} {d : TypeDesc} (cs : Array Value) (hu : P.underlying t = some (.struct fs)) (hf : (fs[i]?).map (fun f => (f.type, f.offset)) = some (ty, off))
    (hd : P.underlying ty = some d) (ha : (match d with | .struct _ | .array _ _ => true | _ => false) = false) {v : Value} (hv : cs[off]? = some v) (w : World) :
    (Instr.field t (.agg cs) i).run P w = .ok v w := by
  cases hq : fs[i]? with
  | none => simp [hq] at hf
  | some f =>
    simp only [hq, Option.map_some, Option.some.injEq, Prod.mk.injEq] at hf
    obtain ⟨rfl, rfl⟩ := hf
    have hagg : (isAgg f.type).run P w = .ok false w := by
      unfold isAgg
      rw [Sem.run_bind, run_underlying hd w]
      cases d <;> simp_all
    obtain ⟨hl, hv'⟩ := Array.getElem?_eq_some_iff.1 hv
    simp [Instr.field, run_underlying hu, hq, part, Sem.run_bind, hagg, asAgg, hl, hv']
theorem run_commit_slot (c : CommitS) (w : World) : (Instr.field 61 (.agg (commitC c).toArray) 0).run Tryz.prog w = .ok (.int .i64 c.slot) w :=
  run_field_one (ty := 3) (off := 0) _ Tryz.underlying61 rfl Tryz.underlying3 rfl (by simp [commitC]) w
set_option maxRecDepth 100000 in
set_option maxHeartbeats 4000000 in
theorem none_yes (A : Option Addr) (nk c : Nat) (slots k n a : Int) (B : Option Addr) (l d : Nat) (w : World) (hn : 1 ≤ nk ∧ nk ≤ 8) (h : 3 ≤ slots ∧ slots ≤ 6)
    (HN : ∀ W, Kept [] w W → Calls Tryz.prog 25 #[cfgV (.slice A nk c) slots] W fun e w' => (∃ pd, e = .returned (.tuple #[.pointer (some ⟨pd, 0, none⟩), .int .i64 0])) ∧ Kept [] W w') :
    Calls Tryz.prog 8 #[cfgV (.slice A nk c) slots, .agg #[.int .i64 k, .int .i64 n, .int .i64 a, .slice B l d]] w fun e w' => e = .returned (.bool true) ∧ Kept [] w w' := by
  have HN := fun W K => Lib.hid (HN W K)
  have hln := toldC_length (err := 1) (offset := 0) (slot := 0) (zeros_len 64)
  have HD := fun a b W => dev_data_nil a b W
  have HWN := fun W => dev_wear_nil W
  unfold nilV at HD HWN
  have hcm := fun v W => run_state_commit blankS blank_ok v W
  have hcs := fun W => run_commit_slot blankS.commit W
  unfold cfgV at *
  go_enter Tryz.func8, Tryz.ntmps8
  go_wp2_with (first
    | (go_at_call 50
       refine (alive_true _).mono ?_
       rintro e w1 ⟨rfl, hk⟩
       have hb1 := hk.blk ((blk_old (by simp)).trans (blk_new w _)) (by simp)
       have hb1' := hk.blk (blk_new1 _ _ _) (by simp)
       have hk1 := (((Kept.refl [] w).alloc _).alloc _).trans hk)
    | (go_at_call 29
       refine (dev_do_nil _ _ _ _ _ _ _).mono ?_
       rintro e w2 ⟨rfl, hk2⟩
       have hk3 := hk1.trans hk2
       have hb2 := hk2.blk hb1 (by simp))
    | (refine wpList_store_all rfl _ _ _ rfl _ rfl (toldC 1 0 0 (zeros 64)) rfl (blk_new _ _) info_told hln zero_told (told_one _ _ _ _) ?_
       intro w4 hb4 ho4 hz4 hk4
       have hk5 : Kept [] w w4 := hk4 _ _ (hk3.alloc _) (.inr hk3.size)
       have hb5 := (hk4 [] w2 ((Kept.refl _ _).alloc _) (.inr (Nat.le_refl _))).blk hb2 (by simp))
    | (go_at_call 25
       refine (HN _ hk5).out.mono ?_
       rintro e w6 ⟨⟨pd, rfl⟩, hk6⟩
       have hk7 := hk5.trans hk6
       have hb7 := hk6.blk hb5 (by simp)
       have hb8 := hk6.blk hb4 (by simp))
    | (go_at_call 53
       refine (num_any _ _).mono ?_
       rintro e w9 ⟨rfl, rfl⟩)
    | (go_at_call 31
       refine (dev_on_nil _).mono ?_
       rintro e w9 ⟨rfl, rfl⟩)
    | (go_at_call 39
       refine (dev_state_nil _).mono ?_
       rintro e w8 ⟨rfl, hk8⟩)
    | (go_at_call 36
       refine (HD _ _ _).mono ?_
       rintro e w9 ⟨rfl, rfl⟩)
    | (go_at_call 35
       refine (HWN _).mono ?_
       rintro e w9 ⟨rfl, rfl⟩)
    | (go_at_call 30
       refine (dev_held_nil _).mono ?_
       rintro e w9 ⟨rfl, rfl⟩))
  go_ret
  exact ⟨rfl, hk7.trans hk8⟩
set_option maxRecDepth 100000 in
set_option maxHeartbeats 4000000 in
theorem none_no (A : Option Addr) (nk c : Nat) (slots k n a : Int) (B : Option Addr) (l d : Nat) (w : World) (hn : nk ≤ 10) (h : slots ≤ 6) (hr : ¬ (1 ≤ nk ∧ nk ≤ 8 ∧ 3 ≤ slots))
    (HN : ∀ W, Kept [] w W → Calls Tryz.prog 25 #[cfgV (.slice A nk c) slots] W fun e w' => e = .returned (.tuple #[.pointer none, .int .i64 1]) ∧ Kept [] W w') :
    Calls Tryz.prog 8 #[cfgV (.slice A nk c) slots, .agg #[.int .i64 k, .int .i64 n, .int .i64 a, .slice B l d]] w fun e w' => e = .returned (.bool true) ∧ Kept [] w w' := by
  have HN := fun W K => Lib.hid (HN W K)
  have hln := toldC_length (err := 1) (offset := 0) (slot := 0) (zeros_len 64)
  have HD := fun a b W => dev_data_nil a b W
  have HWN := fun W => dev_wear_nil W
  unfold nilV at HD HWN
  have hcm := fun v W => run_state_commit blankS blank_ok v W
  have hcs := fun W => run_commit_slot blankS.commit W
  unfold cfgV at *
  go_enter Tryz.func8, Tryz.ntmps8
  go_wp2_with (first
    | (go_at_call 50
       refine (alive_true _).mono ?_
       rintro e w1 ⟨rfl, hk⟩
       have hb1 := hk.blk ((blk_old (by simp)).trans (blk_new w _)) (by simp)
       have hb1' := hk.blk (blk_new1 _ _ _) (by simp)
       have hk1 := (((Kept.refl [] w).alloc _).alloc _).trans hk)
    | (go_at_call 29
       refine (dev_do_nil _ _ _ _ _ _ _).mono ?_
       rintro e w2 ⟨rfl, hk2⟩
       have hk3 := hk1.trans hk2
       have hb2 := hk2.blk hb1 (by simp))
    | (refine wpList_store_all rfl _ _ _ rfl _ rfl (toldC 1 0 0 (zeros 64)) rfl (blk_new _ _) info_told hln zero_told (told_one _ _ _ _) ?_
       intro w4 hb4 ho4 hz4 hk4
       have hk5 : Kept [] w w4 := hk4 _ _ (hk3.alloc _) (.inr hk3.size)
       have hb5 := (hk4 [] w2 ((Kept.refl _ _).alloc _) (.inr (Nat.le_refl _))).blk hb2 (by simp))
    | (go_at_call 25
       refine (HN _ hk5).out.mono ?_
       rintro e w6 ⟨rfl, hk6⟩
       have hk7 := hk5.trans hk6
       have hb7 := hk6.blk hb5 (by simp)
       have hb8 := hk6.blk hb4 (by simp))
    | (go_at_call 53
       refine (num_any _ _).mono ?_
       rintro e w9 ⟨rfl, rfl⟩)
    | (go_at_call 31
       refine (dev_on_nil _).mono ?_
       rintro e w9 ⟨rfl, rfl⟩)
    | (go_at_call 39
       refine (dev_state_nil _).mono ?_
       rintro e w8 ⟨rfl, hk8⟩)
    | (go_at_call 36
       refine (HD _ _ _).mono ?_
       rintro e w9 ⟨rfl, rfl⟩)
    | (go_at_call 35
       refine (HWN _).mono ?_
       rintro e w9 ⟨rfl, rfl⟩)
    | (go_at_call 30
       refine (dev_held_nil _).mono ?_
       rintro e w9 ⟨rfl, rfl⟩))
  · go_ret
    have h3 : ¬ 3 ≤ slots := by omega
    have hd : Value.bool (!decide (3 ≤ slots)) = .bool true := by simp [h3]
    exact ⟨congrArg Ending.returned hd, hk7.trans hk8⟩
  all_goals (go_ret; exact ⟨rfl, hk7.trans hk8⟩)
theorem none_all {w : World} (A : Option Addr) (nk c : Nat) (slots k n a : Int) (B : Option Addr) (l d : Nat) (xs : List Value) (hkv : Rd w (.slice A nk c) 32 nk xs) (h1 : AllOne xs) :
    Calls Tryz.prog 8 #[cfgV (.slice A nk c) slots, .agg #[.int .i64 k, .int .i64 n, .int .i64 a, .slice B l d]] w fun e w' => e = .returned (.bool true) ∧ Kept [] w w' := by
  by_cases hf : 10 < nk ∨ 6 < slots
  · exact none_far A nk c slots k n a B l d w hf
  · have hf1 : nk ≤ 10 ∧ slots ≤ 6 := by omega
    by_cases hr : 1 ≤ nk ∧ nk ≤ 8 ∧ 3 ≤ slots
    · refine none_yes A nk c slots k n a B l d w (by omega) (by omega) fun W K => ?_
      have hrr : rightB nk slots.toNat = true := by simp only [rightB, decide_eq_true_iff]; omega
      have := dev_new_yes A nk c slots.toNat xs (hkv.keep0 K) h1 hrr
      rw [show ((slots.toNat : Nat) : Int) = slots by omega] at this
      exact this.mono fun e w' ⟨pd, p, pb, pe, pl, B, d, kv, pg, pj, he, _, _, _, _, _, _, _, hk⟩ => ⟨⟨pd, he⟩, hk⟩
    · refine none_no A nk c slots k n a B l d w hf1.1 hf1.2 hr fun W K => ?_
      exact dev_new_no A nk c slots (by omega) (by simp only [rightB, decide_eq_false_iff_not]; omega)
end Go.Bj
