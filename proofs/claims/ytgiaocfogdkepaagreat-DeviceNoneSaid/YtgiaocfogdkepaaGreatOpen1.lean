import Derived.Test.YtgiaocfogdkepaaGreatOpen0
import Derived.Test.YtgiaocfogdkepaaGreatFlashNew
namespace Go.Bj
open Go Go.RowKit Proofs
attribute [local go_sem] cell_at frozen_at at_some fz_some setAt_some heap_setCell heap_alloc heap_drew heap_drewN

theorem key_info : (Tryz.prog.info? 22).map (fun i => (i.zero, i.size, i.bytes)) = some (some (.agg (Array.replicate 32 (.int .u8 0))), 32, 32) := by kernel_rfl
/-- keys that read as cells -/
def OwnK (w : World) (base : Nat) (v : Value) (n : Nat) (xs : List Value) : Prop := w.ownsRow base 22 32 v n xs
theorem OwnK.form {w : World} {base : Nat} {v : Value} {n : Nat} {xs : List Value} (h : OwnK w base v n xs) : ∃ A c, v = .slice A n c ∧ n ≤ c ∧ c ≤ maxLen := by
  rcases h.2 with ⟨rfl, rfl⟩ | ⟨g, cap, cur, rfl, _, _, h1, h2, _⟩
  · exact ⟨none, 0, rfl, Nat.le_refl _, by simp [maxLen]⟩
  · exact ⟨_, _, rfl, h1, h2⟩
theorem OwnK.base_le {w : World} {base : Nat} {v : Value} {n : Nat} {xs : List Value} (h : OwnK w base v n xs) {g : Nat} (hg : v.ownBlock = some g) : base ≤ g := by
  rcases h.2 with ⟨rfl, _⟩ | ⟨g', cap, cur, rfl, hb, _⟩
  · cases hg
  · have : g' = g := by simpa [Value.ownBlock] using hg
    omega
theorem OwnK.keep {S : List Nat} {w w' : World} {base : Nat} {v : Value} {n : Nat} {xs : List Value} (h : OwnK w base v n xs) (k : Kept S w w') (hS : ∀ x ∈ S, x < base) : OwnK w' base v n xs := by
  refine ⟨h.1, ?_⟩
  rcases h.2 with h' | ⟨g, cap, cur, h1, h2, h3, h4⟩
  · exact .inl h'
  · exact .inr ⟨g, cap, cur, h1, h2, k.blk h3 (fun hg => by have := hS g hg; omega), h4⟩
theorem OwnK.mono {w : World} {base base' : Nat} {v : Value} {n : Nat} {xs : List Value} (h : OwnK w base v n xs) (hb : base' ≤ base) : OwnK w base' v n xs := by
  refine ⟨h.1, ?_⟩
  rcases h.2 with h' | ⟨g, cap, cur, h1, h2, h3⟩
  · exact .inl h'
  · exact .inr ⟨g, cap, cur, h1, Nat.le_trans hb h2, h3⟩
set_option maxHeartbeats 400000 in
theorem clone_keys (v : Value) (n : Nat) (xs : List Value) (w : World) (h : Rd w v 32 n xs) (h1 : AllOne xs) (hn : n ≤ 1048576) :
    Calls Tryz.prog 102 #[v] w fun e w' => ∃ v', e = .returned v' ∧ OwnK w' w.heap.size v' n xs ∧ Kept [] w w' := by
  obtain ⟨i0, hi0, hz0, hz1, hz2⟩ := info_parts key_info
  have H' := Lib.hid h
  obtain ⟨A, c, rfl, hll, hc1, hc2, hr⟩ := h
  have HR := Lib.hid hr
  have HL := Lib.hid hll
  clear hr hll
  unfold maxLen at hc2
  have hnil := fun w => Lib.run_eql_slice_nil (P := Tryz.prog) w 29 22 A n c 0 0 Tryz.underlying29
  go_enter Tryz.func102, Tryz.ntmps102
  cases A with
  | none =>
    go_wp2
    go_ret
    have : n = 0 := by
      rcases Nat.eq_zero_or_pos n with h | h
      · exact h
      · obtain ⟨b, o, h, _⟩ := HR.out h; cases h
    subst this
    have hx : xs = [] := List.eq_nil_of_length_eq_zero (by simpa using HL.out)
    subst hx
    exact ⟨_, rfl, ⟨rfl, .inl ⟨rfl, rfl⟩⟩, Kept.refl _ _⟩
  | some a =>
    go_wp2_with (at_builtin
                 refine wpList_append_rd rfl (.tmp 5) (.tmp 6) _ rfl w.heap.size 22 i0 _ 32 32 Tryz.underlying29 hi0 hz0 hz1 hz2 rfl (by omega) (.slice (some ⟨w.heap.size, 0, none⟩) 0 0) 0 [] rfl
                   ⟨rfl, .inr ⟨w.heap.size, 0, #[], rfl, Nat.le_refl _, blk_new _ _, Nat.le_refl _, by simp [maxLen], rfl, rfl⟩⟩ (.slice (some a) n c) n xs rfl (H'.out.keep0 ((Kept.refl _ _).alloc _)) h1 (by simp only [maxLen]; omega) (by omega) (by simp) ?_
                 intro v1 w1 hown1 hg1 hat1)
    go_ret
    exact ⟨v1, rfl, by simpa [OwnK] using hown1, ((Kept.refl _ _).alloc _).step hg1 (fun x hx => .inr (by simp [Value.ownBlock] at hx; omega))⟩

set_option maxRecDepth 100000 in
set_option maxHeartbeats 1000000 in
theorem slot_yes {w : World} {p pb pe : Nat} {F : FlashS} (h : FlashAt w p pb pe F) (A : Option Addr) (nk c : Nat) (slots : Int) (hn : nk ≤ 1099511627776) (hf : fitsB nk slots F.er.length = true) (slot : Nat) (hs : slot ≤ 1) :
    Calls Tryz.prog 72 #[.pointer (some ⟨p, 0, none⟩), cfgV (.slice A nk c) slots, .int .i64 slot] w fun e w' => e = .returned (.tuple #[regV p (2 + slot * slots) slots, .int .i64 0]) ∧ Kept [] w w' := by
  have hr : 3 ≤ slots ∧ slots ≤ 100 ∧ 2 + 2 * slots ≤ F.er.length := by
    simp only [fitsB, rightB, Bool.and_eq_true, decide_eq_true_iff] at hf; omega
  obtain ⟨hs1, hs2, hs3⟩ := hr
  have hm : (slot : Int) * slots = if slot = 0 then 0 else slots := by
    rcases (show slot = 0 ∨ slot = 1 by omega) with rfl | rfl <;> simp
  have hm0 : 0 ≤ (slot : Int) * slots ∧ (slot : Int) * slots ≤ slots := by rw [hm]; split <;> omega
  obtain ⟨hm1, hm2⟩ := hm0
  have HF := fun W (K : Kept [] w W) => Lib.hid (fits_any (h.keep0 K) A nk c slots hn)
  rw [hf] at HF
  have HO := fun W (K : Kept [] w W) => Lib.hid (of_yes (h.keep0 K) (2 + (slot : Int) * slots) slots (by omega))
  clear h hf hm
  unfold cfgV regV at *
  go_enter Tryz.func72, Tryz.ntmps72
  go_wp2_with (first
    | (go_at_call 145
       refine (HF _ (((Kept.refl _ _).alloc _).alloc _)).out.mono ?_
       rintro e w1 ⟨rfl, hk⟩
       have hb0 := hk.blk (blk_new1 _ _ _) (by simp)
       have hb1 := hk.blk ((blk_old (by simp)).trans (blk_new w _)) (by simp)
       have hk0 : Kept [] w w1 := (((Kept.refl _ _).alloc _).alloc _).trans hk)
    | (go_at_call 146
       refine (HO _ hk0).out.mono ?_
       rintro e w2 ⟨rfl, hk2⟩
       have hb2 := hk2.blk hb0 (by simp)))
  refine bodyPost_ret (v := .tuple #[regV p (2 + slot * slots) slots, .int .i64 0]) (by simp [results, Tryz.results72, go_sem, hb2]; rfl) rfl ⟨rfl, ?_⟩
  exact (((hk0.trans hk2).setCell _ (.inr (by omega))).setCell _ (.inr (by omega))).setCell _ (.inr (by omega))

theorem LedgerBlk.keep {S : List Nat} {w w' : World} {pg pj : Nat} {s : StateS} {midv : Value} (h : LedgerBlk w pg pj s midv) (k : Kept S w w') (hg : pg ∉ S) (hm : Off midv S) : LedgerBlk w' pg pj s midv :=
  ⟨k.blk h.blk hg, h.ok, h.mid.keep k hm, h.one⟩
/-- a loader in memory, without a session -/
def loaderC (p : Nat) (kv : Value) (slots : Int) (pg : Nat) (sv : Value) : Array Value := #[.pointer (some ⟨p, 0, none⟩), kv, .int .i64 slots, .pointer (some ⟨pg, 0, none⟩), sv]
set_option maxRecDepth 100000 in
set_option maxHeartbeats 2000000 in
theorem loader_open_blank {w : World} {p pb pe : Nat} {F : FlashS} (h : FlashAt w p pb pe F) (hF : BlankFlash F) (A : Option Addr) (nk c : Nat) (slots : Int) (xs : List Value) (hkv : Rd w (.slice A nk c) 32 nk xs) (h1 : AllOne xs)
    (hf : fitsB nk slots F.er.length = true) :
    Calls Tryz.prog 62 #[.pointer (some ⟨p, 0, none⟩), cfgV (.slice A nk c) slots] w fun e w' => ∃ pl kv pg pj, e = .returned (.tuple #[.pointer (some ⟨pl, 0, none⟩), .int .i64 0]) ∧ w.heap.size ≤ pl ∧
      w'.blk pl = some (.cells (loaderC p kv slots pg (.pointer none)) 219 (0, 0)) ∧ OwnK w' w.heap.size kv nk xs ∧ LedgerBlk w' pg pj blankS nilV ∧ Kept [] w w' := by
  have hnk : nk ≤ 8 := by simp only [fitsB, rightB, Bool.and_eq_true, decide_eq_true_iff] at hf; omega
  have HF := fun W (K : Kept [] w W) => Lib.hid (fits_any (h.keep0 K) A nk c slots (by omega))
  rw [hf] at HF
  have HO := fun W (K : Kept [] w W) => Lib.hid (of_yes (h.keep0 K) 0 2 (by have := hF.ge; omega))
  have HL := fun W (K : Kept [] w W) => Lib.hid (ledger_open_blank (h.keep0 K) hF)
  have HK := fun W (K : Kept [] w W) => Lib.hid (clone_keys (.slice A nk c) nk xs W (hkv.keep0 K) h1 (by omega))
  clear h hF hf hkv
  unfold cfgV regV at *
  go_enter Tryz.func62, Tryz.ntmps62
  go_wp2_with (first
    | (go_at_call 145
       refine (HF _ ((Kept.refl _ _).alloc _)).out.mono ?_
       rintro e w1 ⟨rfl, hk⟩
       have hb1 := hk.box (by simp)
       have hk1 := hk.unbox)
    | (go_at_call 146
       refine (HO _ hk1).out.mono ?_
       rintro e w2 ⟨rfl, hk2⟩
       have hb2 := hk2.blk hb1 (by simp))
    | (go_at_call 147
       refine (HL _ (by exact ((hk1.trans hk2).alloc _))).out.mono ?_
       rintro e w3 ⟨pg, pj, rfl, hpg, hL, hk3⟩
       have hb3 := hk3.blk ((blk_old (lt_of_blk hb2)).trans hb2) (by simp))
    | (go_at_call 102
       refine (HK _ (((hk1.trans hk2).alloc _).trans hk3)).out.mono ?_
       rintro e w4 ⟨kv, rfl, hkv, hk4⟩
       obtain ⟨B, d, rfl, hd1, hd2⟩ := hkv.form
       have hb4 := hk4.blk hb3 (by simp)))
  go_ret2
  have hlb1 := lt_of_blk hb1
  have hs2 := hk2.size
  have hs3 := hk3.size
  have hs4 := hk4.size
  have hs1 := hk1.size
  simp only [size_al] at hs3 hpg
  have K4 : Kept [w.heap.size] w4 ((w4.setCell ⟨w.heap.size, 0, none⟩ (.slice B nk d)).alloc (.cells (loaderC p (.slice B nk d) slots pg (.pointer none)) 219)) := ((Kept.refl _ _).setCell _ (.inl (by simp))).alloc _
  have K3 : Kept [w.heap.size] w3 w4 := hk4.mono (by simp)
  exact ⟨w4.heap.size, .slice B nk d, pg, pj, rfl, by omega, by rw [heap_alloc]; simp [loaderC], (hkv.keep K4 (by intro x hx; simp at hx; omega)).mono (by omega),
    hL.keep (K3.trans K4) (by simp; omega) (by simp [Off, nilV, Value.ownBlock]), (((((hk1.trans hk2).alloc _).trans hk3).trans hk4).setCell _ (.inr (Nat.le_refl _))).alloc _⟩
end Go.Bj
