import Derived.Test.YtgiaocfogdkepaaGreatLoader0
namespace Go.Bj
open Go Go.RowKit Proofs
attribute [local go_sem] cell_at frozen_at at_some fz_some setAt_some heap_setCell heap_alloc heap_drew heap_drewN

def sealSize (n : Nat) : Nat := if n ≤ 512 then 16 + (n + 7) / 8 * 8 else 0
set_option maxHeartbeats 400000 in
theorem seal_size_any (n : Nat) (w : World) (hn : n ≤ 65535) :
    Calls Tryz.prog 433 #[.int .i64 n] w fun e w' => e = .returned (.int .i64 (sealSize n)) ∧ w = w' := by
  unfold sealSize
  by_cases h : n ≤ 512
  · rw [if_pos h]
    go_enter Tryz.func433, Tryz.ntmps433
    go_wp2
    go_ret
    refine ⟨congrArg (fun x => Ending.returned (.int .i64 x)) (by omega), rfl⟩
  · rw [if_neg h]
    go_enter Tryz.func433, Tryz.ntmps433
    go_wp2
    go_ret
    exact ⟨rfl, rfl⟩

def recZ : Value := .agg #[.int .i64 0, .int .i64 0, .slice none 0 0]
set_option maxRecDepth 100000 in
set_option maxHeartbeats 1000000 in
theorem get_blank (v : Value) (l : List UInt8) (w : World) (h : Byt w v l) (hl : 16 ≤ l.length) (h2 : l.getD 2 0 = 255) (h3 : l.getD 3 0 = 255) :
    Calls Tryz.prog 365 #[v] w fun e w' => e = .returned (.tuple #[recZ, .int .i64 0, .bool false]) ∧ Kept [] w w' := by
  obtain ⟨A, c, rfl, hc1, hc2⟩ := h.form
  obtain ⟨b, o, rfl, hb, _, _, _, hc⟩ := h.at_ (by omega)
  have g2 := hc 2 (by omega)
  have g3 := hc 3 (by omega)
  rw [h2] at g2
  rw [h3] at g3
  have e1 : bv 255 = .int .u8 255 := rfl
  rw [e1] at g2 g3
  clear e1 hc h h2 h3
  unfold maxLen at hc2
  go_enter Tryz.func365, Tryz.ntmps365
  go_wp2
  go_quiet (fail)
  go_wp2_with (go_at_call 433; refine (seal_size_any 65535 _ (by omega)).mono ?_; rintro e w' ⟨rfl, rfl⟩)
  refine bodyPost_ret (v := .tuple #[recZ, .int .i64 0, .bool false]) (by simp [results, Tryz.results365, go_sem]; rfl) rfl ⟨rfl, ?_⟩
  repeat' first | exact Kept.refl _ _ | refine Kept.alloc ?_ _ | refine Kept.setCell ?_ _ (.inr (Nat.le_refl _)) | refine Kept.drewN ?_ _ | refine Kept.drew ?_

set_option maxRecDepth 100000 in
set_option maxHeartbeats 1000000 in
theorem epoch_blank (v : Value) (l : List UInt8) (w : World) (h : Byt w v l) (hl : 16 ≤ l.length) (h2 : l.getD 2 0 = 255) (h3 : l.getD 3 0 = 255) :
    Calls Tryz.prog 276 #[v] w fun e w' => e = .returned (.int .i64 0) ∧ Kept [] w w' := by
  have HG := fun W (k : Kept [] w W) => Lib.hid (get_blank v l W (h.keep0 k) hl h2 h3)
  clear h h2 h3 hl
  unfold recZ at HG
  go_enter Tryz.func276, Tryz.ntmps276
  go_wp2_with (go_at_call 365; refine (HG _ (Kept.refl _ _)).out.mono ?_; rintro e w1 ⟨rfl, hk⟩)
  go_ret
  exact ⟨rfl, hk.alloc _⟩
end Go.Bj
