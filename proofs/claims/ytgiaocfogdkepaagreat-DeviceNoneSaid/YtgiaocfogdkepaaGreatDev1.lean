import Derived.Test.YtgiaocfogdkepaaGreatDev0
namespace Go.Bj
open Go Go.RowKit Proofs
attribute [local go_sem] cell_at frozen_at at_some fz_some setAt_some heap_setCell heap_alloc heap_drew heap_drewN

theorem blk_ne {w : World} {a b : Nat} {c c' : Array Value} {t t' : TypeId} {f f' : Nat × Nat} (h : w.blk a = some (.cells c t f)) (h' : w.blk b = some (.cells c' t' f')) (hne : t ≠ t') : a ≠ b := fun e => by
  subst e; rw [h] at h'; injection h' with h'; injection h' with _ h'; exact hne h'
def devC (kv : Value) (slots : Int) (p : Nat) (lv : Value) : Array Value := #[kv, .int .i64 slots, .pointer (some ⟨p, 0, none⟩), lv]
theorem newF_blank (n : Nat) (h : 2 ≤ n) (h2 : n ≤ 256) : BlankFlash (newF n) := ⟨rfl, by simp [newF], by simpa [newF] using h, by simpa [newF] using h2⟩
theorem Kept.then {S T : List Nat} {a b c : World} (h : Kept S a b) (k : Kept T b c) (hT : ∀ x ∈ T, x ∈ S ∨ a.heap.size ≤ x) : Kept S a c :=
  ⟨k.os.trans h.os, k.tape.trans h.tape, k.output.trans h.output, Nat.le_trans h.size k.size, fun x hx hS =>
    (k.block x (Nat.lt_of_lt_of_le hx h.size) (fun hm => by
      rcases hT x hm with h | h
      · exact hS h
      · omega)).trans (h.block x hx hS)⟩
theorem OwnK.lt {w : World} {base : Nat} {v : Value} {n : Nat} {xs : List Value} (h : OwnK w base v n xs) {g : Nat} (hg : v.ownBlock = some g) : g < w.heap.size := by
  rcases h.2 with ⟨rfl, _⟩ | ⟨g', cap, cur, rfl, hb, hh, _⟩
  · cases hg
  · have : g' = g := by simpa [Value.ownBlock] using hg
    subst this
    exact lt_of_blk hh
theorem FlashAt.lts {w : World} {p pb pe : Nat} {F : FlashS} (h : FlashAt w p pb pe F) : p < w.heap.size ∧ pb < w.heap.size ∧ pe < w.heap.size := by
  obtain ⟨⟨cap, pv, r, h1, h2, _⟩, h7, _⟩ := h
  exact ⟨lt_of_blk h1, lt_of_blk h2, lt_of_blk h7⟩
theorem Byt.any_nil {w w' : World} {v : Value} (h : Byt w v []) : Byt w' v [] := by
  obtain ⟨A, c, e, h1, h2, h3, _⟩ := h
  exact ⟨A, c, e, h1, h2, h3, fun h => absurd h (Nat.lt_irrefl _)⟩
set_option maxRecDepth 100000 in
set_option maxHeartbeats 2000000 in
theorem dev_open_blank {w : World} {pd p pb pe : Nat} {F : FlashS} (h : FlashAt w p pb pe F) (hF : BlankFlash F) (A : Option Addr) (nk c : Nat) (slots : Int) (xs : List Value) (hkv : Rd w (.slice A nk c) 32 nk xs) (h1 : AllOne xs)
    (hf : fitsB nk slots F.er.length = true) (lv : Value) (hd : w.blk pd = some (.cells (devC (.slice A nk c) slots p lv) 168 (0, 0))) :
    Calls Tryz.prog 103 #[.pointer (some ⟨pd, 0, none⟩)] w fun e w' => ∃ pl kv pg pj, e = .returned (.int .i64 0) ∧ w.heap.size ≤ pl ∧ w'.blk pd = some (.cells (devC (.slice A nk c) slots p (.pointer (some ⟨pl, 0, none⟩))) 168 (0, 0)) ∧
      w'.blk pl = some (.cells (loaderC p kv slots pg (.pointer none)) 219 (0, 0)) ∧ OwnK w' w.heap.size kv nk xs ∧ LedgerBlk w' pg pj blankS nilV ∧ Kept [pd] w w' := by
  have HO := fun W (K : Kept [] w W) => Lib.hid (loader_open_blank (h.keep0 K) hF A nk c slots xs (hkv.keep0 K) h1 hf)
  have hlt := lt_of_blk hd
  clear h hF hkv hf
  unfold cfgV at *
  unfold devC at hd
  go_enter Tryz.func103, Tryz.ntmps103
  go_wp2
  go_region_held3 (fun w' => w'.blk pd = some (.cells #[.slice A nk c, .int .i64 slots, .pointer (some ⟨p, 0, none⟩), lv] 168 (0, 0)))
    (first | exact hd | exact hd2)
    (first
      | (go_at_call 62
         refine (HO _ (Kept.refl _ _).drew).out.mono ?_
         rintro e w2 ⟨pl, kv, pg, pj, rfl, hpl, hl, hkv, hg, hk2'⟩
         have hk2 := hk2'.undrew
         clear hk2'
         have hd2 := hk2.blk hd (by simp)))
  go_wp2
  go_ret
  have hne1 := blk_ne hl hd2 (by decide)
  have hne2 := blk_ne hg.blk hd2 (by decide)
  have K : Kept [pd] w2 (w2.setCell ⟨pd, 3, none⟩ (.pointer (some ⟨pl, 0, none⟩))) := (Kept.refl _ _).setCell _ (.inl (by simp))
  exact ⟨pl, kv, pg, pj, rfl, hpl, by rw [heap_setCell, if_pos rfl, hd2]; simp [setAt, devC], K.blk hl (by simpa using hne1), hkv.keep K (by intro x hx; simp at hx ⊢; omega),
    hg.keep K (by simpa using hne2) (by simp [Off, nilV, Value.ownBlock]), (hk2.mono (by simp)).trans K⟩

set_option maxRecDepth 100000 in
set_option maxHeartbeats 2000000 in
theorem dev_new_yes {w : World} (A : Option Addr) (nk c sl : Nat) (xs : List Value) (hkv : Rd w (.slice A nk c) 32 nk xs) (h1 : AllOne xs) (hr : rightB nk sl = true) :
    Calls Tryz.prog 25 #[cfgV (.slice A nk c) sl] w fun e w' => ∃ pd p pb pe pl B d kv pg pj, e = .returned (.tuple #[.pointer (some ⟨pd, 0, none⟩), .int .i64 0]) ∧ w.heap.size ≤ pd ∧ w.heap.size ≤ p ∧
      w'.blk pd = some (.cells (devC (.slice B nk d) sl p (.pointer (some ⟨pl, 0, none⟩))) 168 (0, 0)) ∧ Rd w' (.slice B nk d) 32 nk xs ∧ FlashAt w' p pb pe (newF (2 + 2 * sl)) ∧
      w'.blk pl = some (.cells (loaderC p kv sl pg (.pointer none)) 219 (0, 0)) ∧ LedgerBlk w' pg pj blankS nilV ∧ Kept [] w w' := by
  have hrr : 1 ≤ nk ∧ nk ≤ 8 ∧ 3 ≤ sl ∧ sl ≤ 100 := by simp only [rightB, decide_eq_true_iff] at hr; omega
  obtain ⟨r1, r2, r3, r4⟩ := hrr
  have hfit : fitsB nk sl ((newF (2 + 2 * sl)).er.length : Int) = true := by
    simp only [fitsB, hr, Bool.true_and, decide_eq_true_iff, newF, List.length_replicate]; omega
  have HR := fun W => Lib.hid (right_any A nk c sl W (by omega))
  rw [hr] at HR
  have HK := fun W (K : Kept [] w W) => Lib.hid (clone_keys (.slice A nk c) nk xs W (hkv.keep0 K) h1 (by omega))
  have HN : ∀ W, Hid (Calls Tryz.prog 41 #[.int .i64 (2 + 2 * (sl : Int))] W fun e w' => ∃ p pb pe, e = .returned (.pointer (some ⟨p, 0, none⟩)) ∧ FlashAt w' p pb pe (newF (2 + 2 * sl)) ∧ W.heap.size ≤ p ∧ W.heap.size ≤ pb ∧ W.heap.size ≤ pe ∧ Kept [] W w') := fun W => by
    have := flash_new (2 + 2 * sl) W (by omega) (by omega)
    rw [show ((2 + 2 * sl : Nat) : Int) = 2 + 2 * (sl : Int) by omega] at this
    exact Lib.hid this
  clear hkv hr
  unfold cfgV at *
  go_enter Tryz.func25, Tryz.ntmps25
  go_wp2_with (first
    | (go_at_call 89
       refine (HR _).out.mono ?_
       rintro e w1 ⟨rfl, hk⟩
       have hb1 := hk.box (by simp)
       have hk1 := hk.unbox)
    | (go_at_call 102
       refine (HK _ hk1).out.mono ?_
       rintro e w2 ⟨kv, rfl, hkv, hk2⟩
       obtain ⟨B, d, rfl, hd1, hd2⟩ := hkv.form
       have hb2 := hk2.blk hb1 (by simp)))
  have hb3 : (w2.setCell ⟨w.heap.size, 0, none⟩ (.slice B nk d)).blk w.heap.size = some (.cells #[.slice B nk d, .int .i64 sl] 31 (0, 0)) := by
    rw [heap_setCell, if_pos rfl, hb2]; simp [setAt]
  have hs2 := hk2.size
  have hs1 := hk1.size
  have hlb1 := lt_of_blk hb1
  have K2 : Kept [] w (w2.setCell ⟨w.heap.size, 0, none⟩ (.slice B nk d)) := (hk1.trans hk2).setCell _ (.inr (Nat.le_refl _))
  have hkv2 : OwnK (w2.setCell ⟨w.heap.size, 0, none⟩ (.slice B nk d)) (w.heap.size + 1) (.slice B nk d) nk xs :=
    (hkv.keep ((Kept.refl [w.heap.size] w2).setCell _ (.inl (by simp))) (by intro x hx; simp at hx; omega)).mono (by omega)
  have hs : IntKind.i64.wrap (2 * (sl : Int)) = 2 * (sl : Int) := IntWalk.i64_in _ (by omega)
  have hs' : IntKind.i64.wrap (2 + 2 * (sl : Int)) = 2 + 2 * (sl : Int) := IntWalk.i64_in _ (by omega)
  generalize w2.setCell ⟨w.heap.size, 0, none⟩ (.slice B nk d) = wx at hb3 K2 hkv2 ⊢
  clear hb1 hb2 hk2 hs2 hs1 hkv
  go_region_held3 (fun w' => w'.blk w.heap.size = some (.cells #[.slice B nk d, .int .i64 sl] 31 (0, 0)))
    (first | exact hb3 | exact hb4 | (rw [blk_old (lt_of_blk hb4)]; exact hb4))
    (first
      | (go_at_call 41
         refine (HN _).out.mono ?_
         rintro e w4 ⟨p, pb, pe, rfl, hF, hp1, hp2, hp3, hk4'⟩
         have hk4 := hk4'.undrew
         clear hk4'
         have hb4 := hk4.blk hb3 (by simp)))
  have hs4 := hk4.size
  have Kn : Kept [] w4 (w4.alloc (.cells #[.slice B nk d, .int .i64 sl, .pointer (some ⟨p, 0, none⟩), .pointer none] 168)) := (Kept.refl _ _).alloc _
  have hF5 := Lib.hid (hF.keep0 Kn)
  have hd5 : (w4.alloc (.cells #[.slice B nk d, .int .i64 sl, .pointer (some ⟨p, 0, none⟩), .pointer none] 168)).blk w4.heap.size = some (.cells (devC (.slice B nk d) sl p (.pointer none)) 168 (0, 0)) := blk_new _ _
  have K5 : Kept [] w (w4.alloc (.cells #[.slice B nk d, .int .i64 sl, .pointer (some ⟨p, 0, none⟩), .pointer none] 168)) := (K2.trans hk4).trans Kn
  have hkv5 := hkv2.keep ((hk4.trans Kn)) (by simp)
  generalize w4.alloc (.cells #[.slice B nk d, .int .i64 sl, .pointer (some ⟨p, 0, none⟩), .pointer none] 168) = w5 at hF5 hd5 K5 hkv5 ⊢
  have HO := Lib.hid (dev_open_blank hF5.out (newF_blank _ (by omega) (by omega)) B nk d sl xs (Rd.of_own hkv5) h1 hfit _ hd5)
  have hrd := Rd.of_own hkv5
  clear hb3 hb4
  go_wp2_with (go_at_call 103
               refine HO.out.mono ?_
               rintro e w6 ⟨pl, kv, pg, pj, rfl, hpl, hd6, hl6, hkv6, hL6, hk6⟩)
  go_ret2
  obtain ⟨l1, l2, l3⟩ := hF.lts
  have hsx := K2.size
  simp only [World.size_drew] at hp1 hp2 hp3
  refine ⟨w4.heap.size, p, pb, pe, pl, B, d, kv, pg, pj, rfl, by omega, by omega, hd6, hrd.keep hk6 ?_, hF5.out.keep hk6 (by simp; omega) (by simp; omega) (by simp; omega) (fun _ hv => hv.any_nil), hl6, hL6, K5.then hk6 (by intro x hx; simp at hx; exact .inr (by omega))⟩
  intro b hb
  have := hkv2.lt hb
  have := hk4.size
  simp; omega
end Go.Bj
