import Derived.Test.YtgiaocfogdkepaaGreatRegion
namespace Go.Bj
open Go Go.RowKit Proofs
attribute [local go_sem] cell_at frozen_at at_some fz_some setAt_some heap_setCell heap_alloc heap_drew heap_drewN

theorem size_div {F : List UInt8} {n : Nat} (h : F.length = n * 1024) : ((F.length : Int) / 1024) = n := by rw [h]; omega
theorem someB_true {first count n : Int} (h : 1 ≤ count ∧ 0 ≤ first ∧ first ≤ n ∧ count ≤ n - first) : someB first count n = true := by simp only [someB, decide_eq_true_iff]; exact h
set_option maxRecDepth 100000 in
set_option maxHeartbeats 400000 in
theorem of_yes {w : World} {p pb pe : Nat} {F : FlashS} (h : FlashAt w p pb pe F) (first count : Int) (hf : 1 ≤ count ∧ 0 ≤ first ∧ first ≤ F.er.length ∧ count ≤ F.er.length - first) :
    Calls Tryz.prog 146 #[.pointer (some ⟨p, 0, none⟩), .int .i64 first, .int .i64 count] w fun e w' => e = .returned (.tuple #[regV p first count, .int .i64 0]) ∧ Kept [] w w' := by
  have H := Lib.hid (h.keep0 ((Kept.refl [] w).alloc (.cells #[.pointer none, .int .i64 0, .int .i64 0] 113)))
  have hd := size_div h.len
  have hle := h.le
  have hpos := h.pos
  have hl := h.len
  have hl2 : F.b.length ≤ 262144 := by omega
  have hlt := lt_of_blk h.ex.choose_spec.choose_spec.choose_spec.1
  clear h
  have hsm := some_any first count ((F.b.length : Int) / 1024) (w.alloc (.cells #[.pointer none, .int .i64 0, .int .i64 0] 113)) (by omega) (by omega)
  rw [hd, someB_true hf, ← hd] at hsm
  have HS := Lib.hid hsm
  clear hsm hd hl
  obtain ⟨h1, h2, h3, h4⟩ := hf
  go_enter Tryz.func146, Tryz.ntmps146
  go_wp2_with (first
    | (go_at_call 66; refine (size_any H.out).mono ?_; rintro e w' ⟨rfl, rfl⟩)
    | (go_at_call 205; refine HS.out.mono ?_; rintro e w' ⟨rfl, rfl⟩))
  exact bodyPost_ret (v := .tuple #[regV p first count, .int .i64 0]) (by simp [results, Tryz.results146, go_sem]; rfl) rfl ⟨rfl, (Kept.refl _ _).alloc _⟩

def cfgV (kv : Value) (slots : Int) : Value := .agg #[kv, .int .i64 slots]
def rightB (nk slots : Int) : Bool := decide (1 ≤ nk ∧ nk ≤ 8 ∧ 3 ≤ slots ∧ slots ≤ 100)
theorem right_mk {nk slots : Int} {b : Bool} (h : b = true ↔ (1 ≤ nk ∧ nk ≤ 8 ∧ 3 ≤ slots ∧ slots ≤ 100)) : b = rightB nk slots := by
  unfold rightB
  cases b
  · symm; rw [decide_eq_false_iff_not]; intro hh; exact absurd (h.2 hh) (by simp)
  · symm; rw [decide_eq_true_iff]; exact h.1 rfl
set_option maxHeartbeats 400000 in
theorem right_any (A : Option Addr) (nk c : Nat) (slots : Int) (w : World) (hn : nk ≤ 1099511627776) :
    Calls Tryz.prog 89 #[cfgV (.slice A nk c) slots] w fun e w' => e = .returned (.bool (rightB nk slots)) ∧ Kept [] w w' := by
  unfold cfgV
  go_enter Tryz.func89, Tryz.ntmps89
  go_wp2
  all_goals (go_ret; refine ⟨congrArg (fun b => Ending.returned (.bool b)) (right_mk ?_), (Kept.refl _ _).alloc _⟩; simp; try omega)
def fitsB (nk slots n : Int) : Bool := rightB nk slots && decide (2 + 2 * slots ≤ n)
set_option maxRecDepth 100000 in
set_option maxHeartbeats 1000000 in
theorem fits_any {w : World} {p pb pe : Nat} {F : FlashS} (h : FlashAt w p pb pe F) (A : Option Addr) (nk c : Nat) (slots : Int) (hn : nk ≤ 1099511627776) :
    Calls Tryz.prog 145 #[.pointer (some ⟨p, 0, none⟩), cfgV (.slice A nk c) slots] w fun e w' => e = .returned (.bool (fitsB nk slots F.er.length)) ∧ Kept [] w w' := by
  have H := Lib.hid (h.keep0 ((Kept.refl [] w).alloc (.cells #[.slice A nk c, .int .i64 slots] 31)))
  have hlt := lt_of_blk h.ex.choose_spec.choose_spec.choose_spec.1
  have hl2 : F.b.length ≤ 262144 := by have := h.len; have := h.le; omega
  have hd := size_div h.len
  clear h
  have HR := fun W => Lib.hid (right_any A nk c slots W hn)
  have hB := fun u : Later (w.alloc (.cells #[.slice A nk c, .int .i64 slots] 31)) => Later.blk (blk_new _ _) u
  have hF := fun u : Later (w.alloc (.cells #[.slice A nk c, .int .i64 slots] 31)) => Lib.hid (H.out.keep0 u.2)
  unfold fitsB
  cases hr : rightB nk slots with
  | false =>
    rw [hr] at HR
    clear hd
    unfold cfgV at HR ⊢
    go_enter Tryz.func145, Tryz.ntmps145
    go_wp2
    refine wp_region_later (by kernel_rfl) (by kernel_rfl) ?_
    repeat (first
      | go_big_quiet_step ((go_at_call 89; exact later_of (HR _).out))
      | quiet_step ((go_at_call 89; exact later_of (HR _).out)))
    refine wpQuiet_nil ?_
    rintro _ ⟨u, rfl⟩
    go_wp2
    go_ret
    exact ⟨rfl, u.2.unbox⟩
  | true =>
    rw [hr] at HR
    have h1 : slots ≤ 100 ∧ 3 ≤ slots := by simp only [rightB, decide_eq_true_iff] at hr; omega
    obtain ⟨h1, h2⟩ := h1
    clear hr
    have hg : decide (2 + 2 * slots ≤ F.er.length) = decide (2 + 2 * slots ≤ (F.b.length : Int) / 1024) := by rw [hd]
    have HG := Lib.hid hg
    clear hg hd
    unfold cfgV at HR ⊢
    go_enter Tryz.func145, Tryz.ntmps145
    go_wp2
    refine wp_region_later (by kernel_rfl) (by kernel_rfl) ?_
    repeat (first
      | go_big_quiet_step ((first | (go_at_call 89; exact later_of (HR _).out) | (go_at_call 66; exact later_same (size_any (hF _).out))))
      | quiet_step ((first | (go_at_call 89; exact later_of (HR _).out) | (go_at_call 66; exact later_same (size_any (hF _).out)))))
    refine wpQuiet_nil ?_
    rintro _ ⟨u, rfl⟩
    go_wp2
    go_ret
    exact ⟨by rw [HG.out]; simp, u.2.unbox⟩
end Go.Bj
