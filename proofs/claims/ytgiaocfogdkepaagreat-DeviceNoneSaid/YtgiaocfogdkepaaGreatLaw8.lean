import Derived.Test.YtgiaocfogdkepaaGreatDev4
import Derived.Great.BuildSlice
namespace Go.Bj
open Go Go.RowKit Proofs
attribute [local go_sem] cell_at frozen_at at_some fz_some setAt_some heap_setCell heap_alloc heap_drew heap_drewN
theorem num_any (n : Int) (w : World) : Calls Tryz.prog 53 #[.int .i64 n] w fun e w' => e = .returned (.int .i64 n) ∧ w = w' := by
  go_enter Tryz.func53, Tryz.ntmps53
  go_wp2
  go_ret
  exact ⟨rfl, rfl⟩
def oneKey : List Value := (Value.int .u8 1) :: List.replicate 31 (.int .u8 0)
/-- boot on a new device, with its own told -/
theorem dev_boot_blank {w : World} {pd p pb pe : Nat} {F : FlashS} (h : FlashAt w p pb pe F) (hF : BlankFlash F) (A : Option Addr) (nk c : Nat) (slots : Int) (hf : fitsB nk slots F.er.length = true) (lv : Value)
    (hd : w.blk pd = some (.cells (devC (.slice A nk c) slots p lv) 168 (0, 0))) (n a : Int) (B : Option Addr) (l d : Nat) :
    Calls Tryz.prog 29 #[.pointer (some ⟨pd, 0, none⟩), .agg #[.int .i64 7, .int .i64 n, .int .i64 a, .slice B l d]] w fun e w' =>
      e = .returned (.agg (toldC 13 0 (-1) (zeros 64)).toArray) ∧ Kept [] w w' := by
  refine (dev_boot (.slice A nk c) lv slots [] (by simp) (by simp) (zeros 64) (by simp [zeros]) (-1) 13 (fun _ _ => True) (fun W K => ?_) (fun W K => ?_) hd n a B l d).mono ?_
  · exact (run_blank (h.keep0 K) hF A nk c slots hf).mono fun e w' ⟨h1, h2⟩ => ⟨h1, h2, trivial⟩
  · have := off_any (h.keep0 K)
    rw [hF.off] at this
    exact this.mono fun e w' ⟨h1, h2⟩ => ⟨h1, h2.symm⟩
  · rintro e w' ⟨h1, W, w1, _, _, _, h2, _⟩
    exact ⟨h1, h2⟩
theorem zeros_len (n : Nat) : (zeros n).length = n := by simp [zeros]
theorem told2g (e o s : Int) (m : List UInt8) (h : 2 < (toldC e o s m).length) : (toldC e o s m)[2]'h = .int .i64 s := rfl
theorem told0g (e o s : Int) (m : List UInt8) (h : 0 < (toldC e o s m).length) : (toldC e o s m)[0]'h = .int .i64 e := rfl
attribute [local go_sem] told2g told0g
theorem told2 (e o s : Int) (m : List UInt8) : (toldC e o s m)[2]? = some (.int .i64 s) := rfl
set_option maxRecDepth 100000 in
set_option maxHeartbeats 2000000 in
theorem alive_true (w : World) : Calls Tryz.prog 50 #[] w fun e w' => e = .returned (.bool true) ∧ Kept [] w w' := by
  have hrd : Rd (w.alloc (.cells oneKey.toArray 22)) (.slice (some ⟨w.heap.size, 0, none⟩) 1 1) 32 1 oneKey :=
    ⟨_, _, rfl, rfl, Nat.le_refl _, by simp [maxLen], fun _ => ⟨_, _, rfl, by simp, fun j u hu => by rw [blk_new, at_some, Nat.zero_add]; simpa using hu⟩⟩
  have HN := Lib.hid (dev_new_yes (w := w.alloc (.cells oneKey.toArray 22)) (some ⟨w.heap.size, 0, none⟩) 1 1 3 oneKey hrd (by intro v hv; simp [oneKey] at hv; rcases hv with rfl | rfl <;> rfl) (by decide))
  clear hrd
  have h0 := told0 13 0 (-1) (zeros 64)
  have h2 := told2 13 0 (-1) (zeros 64)
  have hln := toldC_length (err := 13) (offset := 0) (slot := -1) (zeros_len 64)
  go_enter Tryz.func50, Tryz.ntmps50
  go_wp2_with (first
    | (go_at_call 25
       refine HN.out.mono ?_
       rintro e w1 ⟨pd, p, pb, pe, pl, B, d, kv, pg, pj, rfl, hpd, hp, hd1, hrd1, hF1, _, _, hk1⟩
       have HB := fun W (K : Kept [] w1 W) => Lib.hid (dev_boot_blank (hF1.keep0 K) (newF_blank _ (by omega) (by omega)) B 1 d 3 (by decide) _ (K.blk hd1 (by simp)) 0 0 none 0 0)
       have HON := fun W (K : Kept [] w1 W) => Lib.hid (dev_on (hF1.keep0 K) _ _ _ (K.blk hd1 (by simp)))
       have HW := fun W (K : Kept [] w1 W) => Lib.hid (dev_wear (hF1.keep0 K) _ _ _ (K.blk hd1 (by simp)))
       have hk1' := ((Kept.refl [] w).alloc _).trans hk1
       clear HN hF1 hrd1)
    | (go_at_call 53
       refine (num_any _ _).mono ?_
       rintro e w2 ⟨rfl, rfl⟩)
    | (go_at_call 29
       refine (HB _ (Kept.refl _ _)).out.mono ?_
       rintro e w3 ⟨rfl, hk3⟩)
    | (refine wpList_store_all rfl _ _ _ rfl _ rfl (toldC 13 0 (-1) (zeros 64)) rfl (blk_new _ _) info_told hln zero_told (told_one _ _ _ _) ?_
       intro w4 hb4 ho4 hz4 hk4
       have hk5 : Kept [] w1 w4 := hk4 _ _ (hk3.alloc _) (.inr hk3.size))
    | (go_at_call 31
       refine (HON _ hk5).out.mono ?_
       rintro e w6 ⟨rfl, rfl⟩)
    | (go_at_call 35
       refine (HW _ hk5).out.mono ?_
       rintro e w7 ⟨v, xs, rfl, ho7, hk7⟩
       obtain ⟨A7, c7, rfl, hc7, hd7⟩ := ho7.form))
  go_ret
  exact ⟨by congr 2, hk1'.trans (hk5.trans hk7)⟩
end Go.Bj
