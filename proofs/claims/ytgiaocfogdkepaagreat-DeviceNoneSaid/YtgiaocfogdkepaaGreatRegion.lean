import Derived.Test.YtgiaocfogdkepaaGreatFlash
namespace Go.Bj
open Go Go.RowKit Proofs
attribute [local go_sem] cell_at frozen_at at_some fz_some setAt_some heap_setCell heap_alloc heap_drew heap_drewN

theorem Kept.box {S : List Nat} {w w1 : World} {o : Obj} (k : Kept S (w.alloc o) w1) (h : w.heap.size ∉ S) : (w1.blk (w.heap.size)) = some o :=
  k.blk (by rw [heap_alloc]; simp) h
theorem Kept.unbox {S : List Nat} {w w1 : World} {o : Obj} (k : Kept S (w.alloc o) w1) : Kept S w w1 := ((Kept.refl _ _).alloc _).trans k
def someB (first count n : Int) : Bool := decide (1 ≤ count ∧ 0 ≤ first ∧ first ≤ n ∧ count ≤ n - first)
theorem some_mk {first count n : Int} {b : Bool} (h : b = true ↔ (1 ≤ count ∧ 0 ≤ first ∧ first ≤ n ∧ count ≤ n - first)) : b = someB first count n := by
  unfold someB
  cases b
  · symm; rw [decide_eq_false_iff_not]; intro hh; exact absurd (h.2 hh) (by simp)
  · symm; rw [decide_eq_true_iff]; exact h.1 rfl
set_option maxHeartbeats 400000 in
theorem some_any (first count n : Int) (w : World) (hf : -4611686018427387904 ≤ first ∧ first ≤ 4611686018427387904) (hn : 0 ≤ n ∧ n ≤ 4611686018427387904) :
    Calls Tryz.prog 205 #[.int .i64 first, .int .i64 count, .int .i64 n] w fun e w' => e = .returned (.bool (someB first count n)) ∧ w = w' := by
  go_enter Tryz.func205, Tryz.ntmps205
  go_wp2
  all_goals (go_ret; refine ⟨congrArg (fun b => Ending.returned (.bool b)) (some_mk ?_), rfl⟩; simp; try omega)

def regV (p : Nat) (first count : Int) : Value := .agg #[.pointer (some ⟨p, 0, none⟩), .int .i64 first, .int .i64 count]
set_option maxHeartbeats 400000 in
theorem rsize_any (p : Nat) (first count : Int) (w : World) (hc : 0 ≤ count ∧ count ≤ 1024) :
    Calls Tryz.prog 222 #[regV p first count] w fun e w' => e = .returned (.int .i64 (count * 1024)) ∧ Kept [] w w' := by
  unfold regV
  go_enter Tryz.func222, Tryz.ntmps222
  go_wp2
  go_ret
  exact ⟨rfl, (Kept.refl _ _).alloc _⟩
set_option maxHeartbeats 400000 in
theorem rbase_any (p : Nat) (first count : Int) (w : World) (hc : 0 ≤ first ∧ first ≤ 1024) :
    Calls Tryz.prog 160 #[regV p first count] w fun e w' => e = .returned (.int .i64 (first * 1024)) ∧ Kept [] w w' := by
  unfold regV
  go_enter Tryz.func160, Tryz.ntmps160
  go_wp2
  go_ret
  exact ⟨rfl, (Kept.refl _ _).alloc _⟩
def mayE (F : FlashS) (count at_ n : Int) : Int := if F.off = true then 5 else if withinB (count * 1024) at_ n = true then 0 else 2
theorem within_not {len at_ n : Int} (h : ¬ (0 ≤ at_ ∧ 0 ≤ n ∧ at_ ≤ len ∧ n ≤ len - at_)) : withinB len at_ n = false := by simp only [withinB, decide_eq_false_iff_not]; exact h
theorem within_yes {len at_ n : Int} (h : 0 ≤ at_ ∧ 0 ≤ n ∧ at_ ≤ len ∧ n ≤ len - at_) : withinB len at_ n = true := by simp only [withinB, decide_eq_true_iff]; exact h
set_option maxHeartbeats 1000000 in
theorem may_any {w : World} {p pb pe : Nat} {F : FlashS} (h : FlashAt w p pb pe F) (first count at_ n : Int) (hc : 0 ≤ count ∧ count ≤ 1024) (ha : -4611686018427387904 ≤ at_ ∧ at_ ≤ 4611686018427387904) :
    Calls Tryz.prog 158 #[regV p first count, .int .i64 at_, .int .i64 n] w fun e w' => e = .returned (.int .i64 (mayE F count at_ n)) ∧ Kept [] w w' := by
  have H := Lib.hid (h.keep0 ((Kept.refl [] w).alloc (.cells #[.pointer (some ⟨p, 0, none⟩), .int .i64 first, .int .i64 count] 113)))
  have hlt := lt_of_blk h.ex.choose_spec.choose_spec.choose_spec.1
  clear h
  unfold regV mayE
  cases hoff : F.off with
  | true =>
    go_enter Tryz.func158, Tryz.ntmps158
    go_wp2_with (go_at_call 106; refine (off_any H.out).mono ?_; rintro e w' ⟨rfl, rfl⟩)
    go_ret
    exact ⟨rfl, (Kept.refl _ _).alloc _⟩
  | false =>
    by_cases hw : 0 ≤ at_ ∧ 0 ≤ n ∧ at_ ≤ count * 1024 ∧ n ≤ count * 1024 - at_
    · rw [within_yes hw]
      obtain ⟨w1, w2, w3, w4⟩ := hw
      go_enter Tryz.func158, Tryz.ntmps158
      go_wp2_with (first
        | (go_at_call 106; refine (off_any H.out).mono ?_; rintro e w' ⟨rfl, rfl⟩)
        | (go_at_call 222; refine (rsize_any p first count _ hc).mono ?_; rintro e w1 ⟨rfl, hk⟩; have hb := hk.box (by simp))
        | (go_at_call 222; refine (rsize_any p first count _ hc).mono ?_; rintro e w2 ⟨rfl, hk2⟩; have hb2 := hk2.blk hb (by simp)))
      go_ret
      exact ⟨rfl, hk.unbox.trans hk2⟩
    · rw [within_not hw]
      go_enter Tryz.func158, Tryz.ntmps158
      go_wp2_with (first
        | (go_at_call 106; refine (off_any H.out).mono ?_; rintro e w' ⟨rfl, rfl⟩)
        | (go_at_call 222; refine (rsize_any p first count _ hc).mono ?_; rintro e w1 ⟨rfl, hk⟩; have hb := hk.box (by simp))
        | (go_at_call 222; refine (rsize_any p first count _ hc).mono ?_; rintro e w2 ⟨rfl, hk2⟩; have hb2 := hk2.blk hb (by simp)))
      all_goals (go_ret; first | exact ⟨rfl, hk.unbox.trans hk2⟩ | exact ⟨rfl, hk.unbox⟩ | exact ⟨rfl, (Kept.refl _ _).alloc _⟩)
def rRead (F : FlashS) (first count at_ n : Int) : List UInt8 × Int :=
  if mayE F count at_ n = 0 then F.read (first * 1024 + at_) n else ([], mayE F count at_ n)
set_option maxHeartbeats 1000000 in
theorem rread_any {w : World} {p pb pe : Nat} {F : FlashS} (h : FlashAt w p pb pe F) (first count at_ n : Int) (hf : 0 ≤ first ∧ first ≤ 1024) (hc : 0 ≤ count ∧ count ≤ 1024) (ha : -4611686018427380000 ≤ at_ ∧ at_ ≤ 4611686018427380000) :
    Calls Tryz.prog 73 #[regV p first count, .int .i64 at_, .int .i64 n] w fun e w' =>
      ∃ v, e = .returned (.tuple #[v, .int .i64 (rRead F first count at_ n).2]) ∧ Own w' w.heap.size v (rRead F first count at_ n).1 ∧ Kept [] w w' := by
  have H := Lib.hid (h.keep0 ((Kept.refl [] w).alloc (.cells #[.pointer (some ⟨p, 0, none⟩), .int .i64 first, .int .i64 count] 113)))
  have hlt := lt_of_blk h.ex.choose_spec.choose_spec.choose_spec.1
  clear h
  unfold rRead
  have hm := may_any (w := w.alloc (.cells #[.pointer (some ⟨p, 0, none⟩), .int .i64 first, .int .i64 count] 113)) H.out first count at_ n hc (by omega)
  have HM := Lib.hid hm
  clear hm
  by_cases h0 : mayE F count at_ n = 0
  · rw [if_pos h0]
    rw [h0] at HM
    have h1 : 0 ≤ at_ ∧ at_ ≤ count * 1024 := by
      unfold mayE at h0
      split at h0
      · cases h0
      · split at h0
        · rename_i hw; have := within_nat hw; omega
        · cases h0
    clear h0
    unfold regV at HM ⊢
    go_enter Tryz.func73, Tryz.ntmps73
    go_wp2_with (go_at_call 158; refine HM.out.mono ?_; rintro e w1 ⟨rfl, hk⟩; have hb := hk.box (by simp); have hH := Lib.hid (H.out.keep0 hk))
    have hs : IntKind.i64.wrap (first * 1024 + at_) = first * 1024 + at_ := IntWalk.i64_in _ (by omega)
    go_region_held3 (fun w' => w'.blk w.heap.size = some (.cells #[.pointer (some ⟨p, 0, none⟩), .int .i64 first, .int .i64 count] 113 (0, 0)))
      (first | exact hb | exact hb2 | exact hb3)
      (first
        | (go_at_call 160; refine (rbase_any p first count _ hf).mono ?_; rintro e w2 ⟨rfl, hk2'⟩; have hk2 := hk2'.undrew; clear hk2'; have hb2 := hk2.blk hb (by simp); have hH2 := Lib.hid (hH.out.keep0 hk2))
        | (go_at_call 159; refine (flash_read_any hH2.out _ _ (by omega)).mono ?_; rintro e w3 ⟨v, rfl, ho, hk3⟩; have hb3 := hk3.blk hb2 (by simp)))
    go_wp2
    go_ret2
    exact ⟨v, rfl, ho.mono (Nat.le_trans (hk.unbox.size) hk2.size), (hk.unbox.trans hk2).trans hk3⟩
  · rw [if_neg h0]
    generalize mayE F count at_ n = m at *
    have h1 : (m != 0) = true := by rw [bne_iff_ne]; exact h0
    clear h0
    unfold regV at HM ⊢
    go_enter Tryz.func73, Tryz.ntmps73
    go_wp2_with (go_at_call 158; refine HM.out.mono ?_; rintro e w1 ⟨rfl, hk⟩; have hb := hk.box (by simp))
    go_ret2
    exact ⟨_, rfl, Own.nil _ _, hk.unbox⟩
end Go.Bj
