import Derived.Test.YtgiaocfogdkepaaGreatDev3
import Derived.Deep.RegionLaw
import Derived.Laws.FloatArith
namespace Go.Bj
open Go Go.RowKit Proofs
attribute [local go_sem] cell_at frozen_at at_some fz_some setAt_some heap_setCell heap_alloc heap_drew heap_drewN
theorem run_quo_any {P : Program} (t : TypeId) (x y : Nat) (w : World) : ∃ r w', (binOp .quo t (.float .f64 x) (.float .f64 y)).run P w = .ok (.float .f64 r) w' ∧ Kept [] w w' := by
  cases h : floatBits .quo .f64 x y with
  | some r => exact ⟨r, w, run_float_arith w _ _ _ _ _ _ h, Kept.refl _ _⟩
  | none =>
    have h' : FloatKind.f64.format.div x y = none := h
    simp [binOp, Op.floatArith, h']
    split
    · exact ⟨_, _, rfl, Kept.refl _ _⟩
    · exact ⟨_, _, rfl, (Kept.refl _ _).drew⟩
theorem run_store_float (P : Program) (w : World) (a : Addr) (m : Mode) (k : FloatKind) (b : Nat) : (store a (.float k b) m).run P w = stored P w a (.float k b) m := run_store P w a _ m rfl
attribute [local irreducible] FloatKind.nearest floatOfInt
set_option maxHeartbeats 400000 in
set_option maxRecDepth 100000 in
theorem rate_any (a b : Int) (w : World) : Calls Tryz.prog 115 #[.int .i64 a, .int .i64 b] w fun e w' => ∃ x, e = .returned (.float .f64 x) ∧ Kept [] w w' := by
  go_enter Tryz.func115, Tryz.ntmps115
  obtain ⟨r, w1, hr, hk⟩ := run_quo_any (P := Tryz.prog) 55 (floatOfInt .f64 a) (floatOfInt .f64 b) w
  go_wp2
  go_ret
  exact ⟨_, rfl, hk⟩
set_option maxRecDepth 100000 in
set_option maxHeartbeats 2000000 in
theorem dev_on {w : World} {pd p pb pe : Nat} {F : FlashS} (h : FlashAt w p pb pe F) (kv : Value) (slots : Int) (lv : Value)
    (hd : w.blk pd = some (.cells (devC kv slots p lv) 168 (0, 0))) :
    Calls Tryz.prog 31 #[.pointer (some ⟨pd, 0, none⟩)] w fun e w' => e = .returned (.bool (!F.off)) ∧ w = w' := by
  have HO := Lib.hid (off_any h)
  clear h
  unfold devC at hd
  go_enter Tryz.func31, Tryz.ntmps31
  go_wp2_with (go_at_call 106; refine HO.out.mono ?_; rintro e w1 ⟨rfl, rfl⟩)
  go_ret
  exact ⟨rfl, rfl⟩
set_option maxRecDepth 100000 in
set_option maxHeartbeats 2000000 in
theorem dev_new_no {w : World} (A : Option Addr) (nk c : Nat) (sl : Int) (hn : nk ≤ 1099511627776) (hr : rightB nk sl = false) :
    Calls Tryz.prog 25 #[cfgV (.slice A nk c) sl] w fun e w' => e = .returned (.tuple #[.pointer none, .int .i64 1]) ∧ Kept [] w w' := by
  have HR := fun W => Lib.hid (right_any A nk c sl W hn)
  rw [hr] at HR
  unfold cfgV at *
  go_enter Tryz.func25, Tryz.ntmps25
  go_wp2_with (
      go_at_call 89
      refine (HR _).out.mono ?_
      rintro e w1 ⟨rfl, hk⟩
      have hb1 := hk.box (by simp)
      have hk1 := hk.unbox)
  go_ret2
  exact ⟨rfl, hk1⟩
def OwnF (w : World) (base : Nat) (v : Value) (n : Nat) (xs : List Value) : Prop := w.ownsRow base 55 1 v n xs
theorem OwnF.form {w : World} {base : Nat} {v : Value} {n : Nat} {xs : List Value} (h : OwnF w base v n xs) : ∃ A c, v = .slice A n c ∧ n ≤ c ∧ c ≤ maxLen := by
  rcases h.2 with ⟨rfl, rfl⟩ | ⟨g, cap, cur, rfl, _, _, h1, h2, _⟩
  · exact ⟨none, 0, rfl, Nat.le_refl _, by simp [maxLen]⟩
  · exact ⟨_, _, rfl, h1, h2⟩
theorem OwnF.base_le {w : World} {base : Nat} {v : Value} {n : Nat} {xs : List Value} (h : OwnF w base v n xs) {g : Nat} (hg : v.ownBlock = some g) : base ≤ g := by
  rcases h.2 with ⟨rfl, _⟩ | ⟨g', cap, cur, rfl, hb, _⟩
  · cases hg
  · have : g' = g := by simpa [Value.ownBlock] using hg
    omega
theorem OwnF.keep {S : List Nat} {w w' : World} {base : Nat} {v : Value} {n : Nat} {xs : List Value} (h : OwnF w base v n xs) (k : Kept S w w') (hS : ∀ x ∈ S, x < base) : OwnF w' base v n xs := by
  refine ⟨h.1, ?_⟩
  rcases h.2 with h' | ⟨g, cap, cur, h1, h2, h3, h4⟩
  · exact .inl h'
  · exact .inr ⟨g, cap, cur, h1, h2, k.blk h3 (fun hg => by have := hS g hg; omega), h4⟩
theorem OwnF.mono {w : World} {base base' : Nat} {v : Value} {n : Nat} {xs : List Value} (h : OwnF w base v n xs) (hb : base' ≤ base) : OwnF w base' v n xs := by
  refine ⟨h.1, ?_⟩
  rcases h.2 with h' | ⟨g, cap, cur, h1, h2, h3⟩
  · exact .inl h'
  · exact .inr ⟨g, cap, cur, h1, Nat.le_trans hb h2, h3⟩
theorem f64_info : (Tryz.prog.info? 55).map (fun i => (i.zero, i.size, i.bytes)) = some (some (.float .f64 0), 1, 8) := by kernel_rfl
attribute [local go_sem] run_store_float
set_option maxRecDepth 100000 in
set_option maxHeartbeats 2000000 in
theorem dev_wear {w : World} {pd p pb pe : Nat} {F : FlashS} (h : FlashAt w p pb pe F) (kv : Value) (slots : Int) (lv : Value)
    (hd : w.blk pd = some (.cells (devC kv slots p lv) 168 (0, 0))) :
    Calls Tryz.prog 35 #[.pointer (some ⟨pd, 0, none⟩)] w fun e w' => ∃ v xs, e = .returned v ∧ OwnF w' w.heap.size v F.er.length xs ∧ Kept [] w w' := by
  obtain ⟨i0, hi0, hz0, hz1, hz2⟩ := info_parts f64_info
  have HS := Lib.hid (size_any h)
  have hlen := h.len
  have hle := h.le
  have HE := fun W (K : Kept [] w W) s hs => Lib.hid (erases_any (h.keep0 K) s hs)
  clear h
  unfold devC at hd
  rw [hlen] at HS
  have hq : IntKind.i64.wrap (Int.tdiv (((F.er.length * 1024 : Nat)) : Int) 1024) = F.er.length := by
    rw [show (((F.er.length * 1024 : Nat)) : Int) = (F.er.length : Int) * 1024 by omega, Int.mul_tdiv_cancel _ (by omega)]; exact IntWalk.i64_in _ (by omega)
  go_enter Tryz.func35, Tryz.ntmps35
  go_wp2_with (go_at_call 66; refine HS.out.mono ?_; rintro e w1 ⟨rfl, rfl⟩)
  go_loopw [13, 3] (fun i v wr => ∃ (k : Nat) (xs : List Value), k ≤ F.er.length ∧ i = .int .i64 k ∧ OwnF wr w.heap.size v k xs ∧ Kept [] w wr) (fun i _ _ => F.er.length - (intOf i).toNat)
  case atStart => exact ⟨0, [], Nat.zero_le _, rfl, ⟨rfl, .inl ⟨rfl, rfl⟩⟩, Kept.refl _ _⟩
  case round =>
    obtain ⟨k, xs, hk, rfl, ho, hkr⟩ := hrel
    have hd' := hkr.blk hd (by simp)
    obtain ⟨A, c, rfl, hc1, hc2⟩ := ho.form
    by_cases hlt : k < F.er.length
    · go_wp2_with (first
        | (go_at_call 70
           refine (HE _ hkr k hlt).out.mono ?_
           rintro e w1 ⟨rfl, rfl⟩)
        | (go_at_call 115
           refine (rate_any _ _ _).mono ?_
           rintro e w2 ⟨x, rfl, hk2⟩)
        | (at_builtin
           have hk3 : Kept [] wr (w2.alloc (.cells #[.float .f64 x] 55)) := hk2.alloc _
           have hr2 : Rd (w2.alloc (.cells #[.float .f64 x] 55)) (.slice (some ⟨w2.heap.size, 0, none⟩) 1 1) 1 1 [.float .f64 x] :=
             ⟨_, _, rfl, rfl, Nat.le_refl _, by simp [maxLen], fun _ => ⟨_, _, rfl, by simp, fun j u hu => by rw [blk_new, at_some, Nat.zero_add]; simpa using hu⟩⟩
           have ho2 : OwnF (w2.alloc (.cells #[.float .f64 x] 55)) w.heap.size (.slice A k c) k xs := ho.keep hk3 (by simp)
           have hs0 := hkr.size
           have hs2 := hk3.size
           refine wpList_append_rd rfl _ _ _ rfl w.heap.size 55 i0 _ 1 8 Tryz.underlying53 hi0 hz0 hz1 hz2 rfl (by omega) (.slice A k c) k xs rfl ho2 (.slice (some ⟨w2.heap.size, 0, none⟩) 1 1) 1 [.float .f64 x] rfl hr2 (by simp [Value.oneCell']) (by simp only [maxLen]; omega) (by omega) (by omega) ?_
           intro v1 w3 hown1 hg1 hat1))
      exact ⟨⟨k + 1, xs ++ [Value.float .f64 x], by omega, by go_num, hown1, (hkr.trans hk3).step hg1 (fun g hg => .inr (ho.base_le hg))⟩, by simp [intOf]; omega⟩
    · obtain rfl : k = F.er.length := by omega
      go_wp2
      go_ret
      exact ⟨_, xs, rfl, ho, hkr⟩
end Go.Bj
