import Derived.Test.YtgiaocfogdkepaaGreatFlash
import Derived.Deep.RegionLaw
namespace Go.Bj
open Go Go.RowKit Proofs
attribute [local go_sem] cell_at frozen_at at_some fz_some setAt_some heap_setCell heap_alloc heap_drew heap_drewN
def newF (n : Nat) : FlashS := ⟨blankL (n * 1024), List.replicate n 0, 0, false, false, 0, []⟩
theorem run_make_ints (n : Nat) (hn : n ≤ 1073741824) (w : World) : (Instr.makeSlice 44 (.int .i64 (n : Int)) (.int .i64 (n : Int))).run Tryz.prog w
    = .ok (.slice (some ⟨w.heap.size, 0, none⟩) n n) (w.alloc (.cells (cellsI (List.replicate n 0)) 3)) := by
  obtain ⟨i0, hi0, hz0, hz1, hz2⟩ := info_parts int_info
  have h := run_make (P := Tryz.prog) w 44 3 i0 (.int .i64 0) Tryz.underlying44 hi0 hz0 .i64 .i64 n n (by omega) (by omega) (by rw [hz2]; omega) (by omega)
  simp only [Int.toNat_natCast, hz1, Nat.mul_one] at h
  rw [h]
  have : madeCells (Value.int IntKind.i64 0).cells n = cellsI (List.replicate n 0) := by
    apply Array.toList_inj.1
    rw [show (Value.int IntKind.i64 0).cells = #[Value.int IntKind.i64 0] from rfl, toList_madeCells_one]
    simp [cellsI]
  rw [this]
theorem blank_add (a b : Nat) : blankL a ++ blankL b = blankL (a + b) := by simp only [blankL, List.replicate_append_replicate]
def flash0 (v : Value) (pe n : Nat) : Array Value := #[v, .slice (some ⟨pe, 0, none⟩) n n, .int .i64 0, .bool false, .bool false, .int .i64 0, .slice none 0 0]
theorem flash_of_own {w : World} {p pe n base : Nat} {v : Value} (h : Own w base v (blankL (n * 1024))) (hn : 0 < n) (hn2 : n ≤ 256)
    (hp : w.blk p = some (.cells (flash0 v pe n) 183 (0, 0))) (he : w.blk pe = some (.cells (cellsI (List.replicate n 0)) 3 (0, 0))) :
    ∃ pb, base ≤ pb ∧ FlashAt w p pb pe (newF n) := by
  have hlen : (blankL (n * 1024)).length = n * 1024 := by simp [blankL]
  rcases h.2 with ⟨_, h0⟩ | ⟨g, cap, cur, rfl, hb, hh, h1, h2, h3, h4⟩
  · rw [hlen] at h0; omega
  · refine ⟨g, hb, ⟨⟨cap, .slice none 0 0, cur.toList.drop (n * 1024), ?_, ?_, ?_, h2, Rd.nil _ 1, by simp [Off, Value.ownBlock]⟩, ?_, ?_, ?_, ?_⟩⟩
    · rw [hp]; simp [flash0, flashC, newF, hlen]
    · rw [show w.blk g = _ from hh]
      congr 2
      simp only [cellsR, newF]
      rw [Nat.mul_one, hlen] at h4
      rw [← h4, List.take_append_drop]
    · exact h1
    · simpa [newF] using he
    · simp [newF, hlen]
    · simpa [newF] using hn
    · simpa [newF] using hn2
set_option maxRecDepth 100000 in
set_option maxHeartbeats 2000000 in
theorem flash_new (n : Nat) (w : World) (hn : 2 ≤ n) (hn2 : n ≤ 255) :
    Calls Tryz.prog 41 #[.int .i64 n] w fun e w' => ∃ p pb pe, e = .returned (.pointer (some ⟨p, 0, none⟩)) ∧ FlashAt w' p pb pe (newF n) ∧ w.heap.size ≤ p ∧ w.heap.size ≤ pb ∧ w.heap.size ≤ pe ∧ Kept [] w w' := by
  have hmk := run_make_ints n (by omega)
  go_enter Tryz.func41, Tryz.ntmps41
  go_wp2
  go_loopw [13] (fun i wr => ∃ (k : Nat) (v : Value), k ≤ n ∧ i = .int .i64 k ∧ Own wr (w.heap.size + 2) v (blankL (k * 1024)) ∧ wr.blk (w.heap.size + 1) = some (.cells (flash0 v w.heap.size n) 183 (0, 0)) ∧
      wr.blk w.heap.size = some (.cells (cellsI (List.replicate n 0)) 3 (0, 0)) ∧ Kept [] w wr) (fun i _ => n - (intOf i).toNat)
  case atStart => exact ⟨0, .slice none 0 0, Nat.zero_le _, rfl, Own.nil _ _, blk_new1 _ _ _, (blk_old (by simp)).trans (blk_new _ _), ((Kept.refl _ _).alloc _).alloc _⟩
  case round =>
    obtain ⟨k, v, hk, rfl, ho, hp, he, hkr⟩ := hrel
    have hlt := lt_of_blk hp
    obtain ⟨A, c, hv, hc1, hc2⟩ := ho.byt.form
    subst hv
    by_cases hlt2 : k < n
    · unfold flash0 at hp
      go_wp2
      go_region_law (first
          | (refine step_append_bytes rfl _ _ rfl (w.heap.size + 2) _ _ rfl ho2 _ _ rfl hu.byt (by simp [blankL]; omega) (by have := hk2.size; omega) ?_
             intro v3 w3 ho3 hk3 hg3
             obtain ⟨A3, c3, hv3, hc31, hc32⟩ := ho3.byt.form
             subst hv3
             have hk4 : Kept [] w w3 := hk3 [] w (hkr.trans hk2) (by omega)
             have hne : (Value.slice A (blankL (k * 1024)).length c).ownBlock ≠ some (w.heap.size + 1) := fun e => by have := ho2.base_le e; omega
             have hne2 : (Value.slice A (blankL (k * 1024)).length c).ownBlock ≠ some w.heap.size := fun e => by have := ho2.base_le e; omega
             have hp3 := grown_blk hg3 hp2 hne
             have he3 := grown_blk hg3 he2 hne2)
          | (go_simp
             go_at_call 117
             refine (blank_any 1024 _ (by omega) (by omega)).mono ?_
             rintro e w2 ⟨u, rfl, hu, hk2'⟩
             have hk2 := hk2'.undrew
             clear hk2'
             have hp2 := hk2.blk hp (by simp)
             have he2 := hk2.blk he (by simp)
             have ho2 := ho.keep hk2 (by simp)))
      all_goals
        go_wp2
        go_roundw
        case rel =>
          refine ⟨k + 1, .slice A3 ((blankL (k * 1024)).length + (blankL 1024).length) c3, by omega, by go_num, ?_, ?_, ?_, hk4.setCell _ (.inr (by omega))⟩
          · have := ho3.keep (w' := w3.setCell ⟨w.heap.size + 1, 0, none⟩ (.slice A3 ((blankL (k * 1024)).length + (blankL 1024).length) c3)) ((Kept.refl [w.heap.size + 1] w3).setCell _ (.inl (by simp))) (by simp)
            rw [show blankL ((k + 1) * 1024) = blankL (k * 1024) ++ blankL 1024 by rw [blank_add]; congr 1; omega]
            rw [List.length_append] at this; exact this
          · rw [heap_setCell, if_pos rfl, hp3]; simp [setAt, flash0]
          · rw [heap_setCell, if_neg (fun e => by have := congrArg Addr.block e; simp at this)]; exact he3
        case measure => simp [intOf]; omega
    · obtain rfl : k = n := by omega
      obtain ⟨pb, hpb, hF⟩ := flash_of_own ho (by omega) (by omega) hp he
      go_wp2
      go_ret
      exact ⟨_, pb, _, rfl, hF, by omega, by omega, by omega, hkr⟩
end Go.Bj
