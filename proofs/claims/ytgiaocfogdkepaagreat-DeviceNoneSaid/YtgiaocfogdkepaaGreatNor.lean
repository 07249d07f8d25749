import Derived.Test.YtgiaocfogdkepaaGreatKit
namespace Go.Bj
open Go Go.RowKit Proofs
attribute [local go_sem] cell_at frozen_at at_some fz_some setAt_some heap_setCell heap_alloc heap_drew heap_drewN

set_option maxHeartbeats 400000 in
theorem clone_bytes (v : Value) (l : List UInt8) (w : World) (h : Byt w v l) (hl : l.length < 1099511627776) :
    Calls Tryz.prog 148 #[v] w fun e w' => ∃ v', e = .returned v' ∧ Own w' w.heap.size v' l ∧ Kept [] w w' := by
  have H' := Lib.hid h
  obtain ⟨A, c, rfl, hll, hc1, hc2, hr⟩ := h
  have HR := Lib.hid hr
  clear hr hll
  unfold maxLen at hc2
  have hnil := fun w => Lib.run_eql_slice_nil (P := Tryz.prog) w 39 5 A l.length c 0 0 Tryz.underlying39
  go_enter Tryz.func148, Tryz.ntmps148
  cases A with
  | none =>
    go_wp2
    go_ret
    have : l = [] := by
      rcases l with _ | ⟨x, l⟩
      · rfl
      · obtain ⟨b, o, h, _⟩ := HR.out (by simp); cases h
    subst this
    exact ⟨_, rfl, Own.nil _ _, Kept.refl _ _⟩
  | some a =>
    go_wp2_with (at_builtin
                 refine wpList_append_bytes rfl (.tmp 5) (.tmp 6) rfl w.heap.size (.slice (some ⟨w.heap.size, 0, none⟩) 0 0) [] rfl
                   (Own.lit0 (Nat.le_refl _)) (.slice (some a) l.length c) l rfl (H'.out.keep0 ((Kept.refl _ _).alloc _)) (by simp; omega) (by simp) ?_
                 intro v1 w1 hown1 hk1)
    go_ret
    exact ⟨v1, rfl, by simpa using hown1, hk1 _ _ ((Kept.refl _ _).alloc _) (Nat.le_refl _)⟩

theorem getElem?_map_bv (l : List UInt8) (j : Nat) : (l.map bv)[j]? = (l[j]?).map bv := by simp
def blankL (n : Nat) : List UInt8 := List.replicate n 255
theorem blankTo_set (n k : Nat) (hk : k < n) : (List.replicate k (255 : UInt8) ++ List.replicate (n - k) 0).set k 255 = List.replicate (k + 1) 255 ++ List.replicate (n - (k + 1)) 0 := by
  rw [List.set_append_right _ _ (by simp)]
  simp only [List.length_replicate, Nat.sub_self]
  obtain ⟨m, hm⟩ : ∃ m, n - k = m + 1 := ⟨n - k - 1, by omega⟩
  rw [hm, List.replicate_succ, List.set_cons_zero, show n - (k + 1) = m by omega, List.replicate_succ', List.append_assoc]
  rfl
def blankTo (n k : Nat) : List UInt8 := List.replicate k (255 : UInt8) ++ List.replicate (n - k) 0
theorem blankTo_get (n k : Nat) (hk : k < n) : (cellsB (blankTo n k))[k]? = some (bv 0) := by
  have : (blankTo n k)[k]? = some 0 := by
    unfold blankTo
    rw [List.getElem?_append_right (by simp)]
    rw [List.getElem?_replicate]; simp only [List.length_replicate]; rw [if_pos (by omega)]
  rw [cellsB_get, this]; rfl
set_option maxRecDepth 100000 in
set_option maxHeartbeats 400000 in
theorem blank_any (n : Nat) (w : World) (hn0 : 0 < n) (hn : n ≤ 65536) :
    Calls Tryz.prog 117 #[.int .i64 n] w fun e w' => ∃ v', e = .returned v' ∧ Own w' w.heap.size v' (blankL n) ∧ Kept [] w w' := by
  have hmk := run_make_bytes n (by omega)
  go_enter Tryz.func117, Tryz.ntmps117
  go_wp2
  go_loopw [11, 4] (fun i _ wr => ∃ k : Nat, k ≤ n ∧ i = .int .i64 k ∧ (wr.blk (w.heap.size)) = some (.cells (cellsB (blankTo n k)) 5 (0, 0)) ∧ Kept [] w wr) (fun i _ _ => n - (intOf i).toNat)
  case atStart => exact ⟨0, Nat.zero_le _, rfl, by rw [heap_alloc]; simp [blankTo], (Kept.refl _ _).alloc _⟩
  case round =>
    obtain ⟨k, hk, rfl, hb, hkp⟩ := hrel
    by_cases hlt : k < n
    · have hg := blankTo_get n k hlt
      go_wp2
      go_roundw
      case rel =>
        refine ⟨k + 1, by omega, by go_num, ?_, hkp.setCell _ (.inr (Nat.le_refl _))⟩
        simp [heap_setCell, hb, setAt]
        rw [show Value.int IntKind.u8 255 = bv 255 from rfl, cellsB_set, blankTo, blankTo_set n k hlt]; rfl
      case measure => simp [intOf]; omega
    · obtain rfl : k = n := by omega
      go_wp2
      go_ret
      exact ⟨_, rfl, Own.of_blk (by simpa [blankTo, blankL] using hb) (Nat.le_refl _) (by simp [blankL]) (by simp [maxLen]; omega), hkp⟩
end Go.Bj
