import Derived.Test.YtgiaocfogdkepaaGreatDev2
namespace Go.Bj
open Go Go.RowKit Proofs
attribute [local go_sem] cell_at frozen_at at_some fz_some setAt_some heap_setCell heap_alloc heap_drew heap_drewN
theorem told0 (e o s : Int) (m : List UInt8) : (toldC e o s m)[0]? = some (.int .i64 e) := rfl
theorem told_put {C : Array Value} (hC : C = (toldC 0 0 0 (zeros 64)).toArray) (s : Int) (m : List UInt8) (hm : m.length = 64) :
    ((C.setIfInBounds 2 (.int .i64 s)).toList.take 3 ++ List.map bv m ++ (C.setIfInBounds 2 (.int .i64 s)).toList.drop (3 + (List.map bv m).length)).toArray = (toldC 0 0 s m).toArray := by
  subst hC
  have e : (3 + (List.map bv m).length) = 67 := by simp [hm]
  rw [e]
  have : ∀ x : Value, (((toldC 0 0 0 (zeros 64)).toArray.setIfInBounds 2 x).toList.drop 67) = [] := fun x => by
    apply List.drop_eq_nil_of_le; simp [toldC_length, zeros]
  rw [this]
  simp [toldC]
theorem told_err (s e : Int) (m : List UInt8) : (toldC 0 0 s m).toArray.setIfInBounds 0 (.int .i64 e) = (toldC e 0 s m).toArray := by simp [toldC]
set_option maxRecDepth 100000 in
set_option maxHeartbeats 2000000 in
theorem dev_boot {w : World} {pd p : Nat} (kv lv : Value) (slots : Int) (S : List Nat) (hS : pd ∉ S) (hSl : ∀ b ∈ S, b < w.heap.size) (m : List UInt8) (hm : m.length = 64) (slot err : Int)
    (X : World → World → Prop)
    (HR : ∀ W, Kept [] w W → Calls Tryz.prog 48 #[.pointer (some ⟨p, 0, none⟩), cfgV kv slots] W fun e w' => e = .returned (.tuple #[.int .i64 slot, arrV m, .int .i64 err]) ∧ Kept S W w' ∧ X W w')
    (HO : ∀ W, Kept [] w W → Calls Tryz.prog 106 #[.pointer (some ⟨p, 0, none⟩)] W fun e w' => e = .returned (.bool false) ∧ w' = W)
    (hd : w.blk pd = some (.cells (devC kv slots p lv) 168 (0, 0))) (n a : Int) (B : Option Addr) (l d : Nat) :
    Calls Tryz.prog 29 #[.pointer (some ⟨pd, 0, none⟩), .agg #[.int .i64 7, .int .i64 n, .int .i64 a, .slice B l d]] w fun e w' =>
      e = .returned (.agg (toldC err 0 slot m).toArray) ∧ ∃ W w1, Kept [] w W ∧ Kept S W w1 ∧ X W w1 ∧ Kept S w w' ∧ (∀ b, b < w.heap.size → w'.blk b = w1.blk b) := by
  have HR := fun W K => Lib.hid (HR W K)
  have HO := fun W K => Lib.hid (HO W K)
  have hlt := lt_of_blk hd
  have hS1 : w.heap.size + 1 ∉ S := fun h => by have := hSl _ h; omega
  have hS2 : w.heap.size + 1 + 1 ∉ S := fun h => by have := hSl _ h; omega
  unfold cfgV at *
  unfold devC at hd
  have hI : (Tryz.prog.info? 35).map (·.size) = some (List.map bv m).length := by rw [info_arr64]; simp [hm]
  have h64 : ∀ v ∈ List.map bv m, v.oneCell' = true := bv_one m
  have hml : (List.map bv m).length = 64 := by simp [hm]
  have hput := fun (C : Array Value) hC s => told_put (C := C) hC s m hm
  unfold arrV at *
  go_enter Tryz.func29, Tryz.ntmps29
  go_wp2_with (first
    | (go_at_call 106
       refine (HO _ (((Kept.refl _ _).alloc _).alloc _)).out.mono ?_
       rintro e w1 ⟨rfl, rfl⟩))
  have e1 : (((w.alloc (.cells #[.int .i64 7, .int .i64 n, .int .i64 a, .slice B l d] 41)).alloc (.cells Tryz.zeroCells37 37)).alloc (.cells Tryz.zeroCells37 37)).blk pd = some (.cells #[kv, .int .i64 slots, .pointer (some ⟨p, 0, none⟩), lv] 168 (0, 0)) := by
    rw [blk_old (by simp; omega), blk_old (by simp; omega), blk_old hlt]; exact hd
  have e2 := blk_new2 w (.cells #[.int .i64 7, .int .i64 n, .int .i64 a, .slice B l d] 41) (.cells Tryz.zeroCells37 37) (.cells Tryz.zeroCells37 37)
  have e3 : (((w.alloc (.cells #[.int .i64 7, .int .i64 n, .int .i64 a, .slice B l d] 41)).alloc (.cells Tryz.zeroCells37 37)).alloc (.cells Tryz.zeroCells37 37)).blk (w.heap.size + 1) = some (.cells Tryz.zeroCells37 37 (0, 0)) := by
    rw [blk_old (by simp)]; exact blk_new1 _ _ _
  have K3 : Kept [] w (((w.alloc (.cells #[.int .i64 7, .int .i64 n, .int .i64 a, .slice B l d] 41)).alloc (.cells Tryz.zeroCells37 37)).alloc (.cells Tryz.zeroCells37 37)) := (((Kept.refl _ _).alloc _).alloc _).alloc _
  have hs3 : (((w.alloc (.cells #[.int .i64 7, .int .i64 n, .int .i64 a, .slice B l d] 41)).alloc (.cells Tryz.zeroCells37 37)).alloc (.cells Tryz.zeroCells37 37)).heap.size = w.heap.size + 3 := by simp
  generalize (((w.alloc (.cells #[.int .i64 7, .int .i64 n, .int .i64 a, .slice B l d] 41)).alloc (.cells Tryz.zeroCells37 37)).alloc (.cells Tryz.zeroCells37 37)) = W3 at *
  have hZ : Tryz.zeroCells37 = (toldC 0 0 0 (zeros 64)).toArray := by kernel_rfl
  have hZs : (Tryz.zeroCells37).size = 67 := by kernel_rfl
  have hZ2 : (Tryz.zeroCells37)[2]? = some (.int .i64 0) := by kernel_rfl
  have hinfo := info_told
  clear HO
  generalize Tryz.zeroCells37 = Z at *
  have hne : pd ≠ w.heap.size + 1 + 1 := by omega
  go_region_held3 (fun w' => w'.blk pd = some (.cells #[kv, .int .i64 slots, .pointer (some ⟨p, 0, none⟩), lv] 168 (0, 0)))
    (first | (rw [heap_drew]; with_reducible exact e1) | with_reducible exact e4 | (rw [blk_setCell_ne hne]; with_reducible exact e4) | (rw [blk_setCells_ne hne, blk_setCell_ne hne]; with_reducible exact e4) | (rw [blk_setCell_ne hne, blk_setCells_ne hne, blk_setCell_ne hne]; with_reducible exact e4))
    (first
      | (go_at_call 48
         refine (HR _ K3.drew).out.mono ?_
         rintro e w4 ⟨rfl, hk4', hx4⟩
         have hk4 := hk4'.undrew
         clear hk4'
         have e4 := hk4.blk e1 hS
         have e5 : w4.blk (w.heap.size + 1 + 1) = _ := hk4.blk e2 hS2
         have e6 := hk4.blk e3 hS1
         have e7 : (w4.setCell ⟨w.heap.size + 1 + 1, 2, none⟩ (.int .i64 slot)).blk (w.heap.size + 1 + 1) = some (.cells (Z.setIfInBounds 2 (.int .i64 slot)) 37 (0, 0)) := by
           rw [heap_setCell, if_pos rfl, e5]; rfl
         have e8 : (w4.setCell ⟨w.heap.size + 1 + 1, 2, none⟩ (.int .i64 slot)).there (w.heap.size + 1 + 1) 3 (List.map bv m).length := there_of e7 (by simp [hZs, hm])
         have e9 : ((w4.setCell ⟨w.heap.size + 1 + 1, 2, none⟩ (.int .i64 slot)).setCells (w.heap.size + 1 + 1) 3 (List.map bv m)).blk (w.heap.size + 1 + 1) = some (.cells (toldC 0 0 slot m).toArray 37 (0, 0)) := by
           rw [blk_setCells _ _ _ _ e7 (by simp [hZs, hm]), hput _ hZ]
         have e10 := told0 0 0 slot m))
  rename_i hB0
  have hB : (((w4.setCell ⟨w.heap.size + 1 + 1, 2, none⟩ (.int .i64 slot)).setCells (w.heap.size + 1 + 1) 3 (List.map bv m)).setCell ⟨w.heap.size + 1 + 1, 0, none⟩ (.int .i64 err)).blk (w.heap.size + 1 + 1) = some (.cells (toldC err 0 slot m).toArray 37 (0, 0)) := by
    rw [heap_setCell, if_pos rfl, e9]; exact congrArg (fun c => some (Obj.cells c 37 (0, 0))) (told_err _ _ _)
  have hB6 : (((w4.setCell ⟨w.heap.size + 1 + 1, 2, none⟩ (.int .i64 slot)).setCells (w.heap.size + 1 + 1) 3 (List.map bv m)).setCell ⟨w.heap.size + 1 + 1, 0, none⟩ (.int .i64 err)).blk (w.heap.size + 1) = some (.cells Z 37 (0, 0)) := by
    rw [blk_setCell_ne (by omega), blk_setCells_ne (by omega), blk_setCell_ne (by omega)]; exact e6
  have hsz : w.heap.size ≤ w4.heap.size := by have := hk4.size; omega
  have hBo : ∀ b, b < w.heap.size → (((w4.setCell ⟨w.heap.size + 1 + 1, 2, none⟩ (.int .i64 slot)).setCells (w.heap.size + 1 + 1) 3 (List.map bv m)).setCell ⟨w.heap.size + 1 + 1, 0, none⟩ (.int .i64 err)).blk b = w4.blk b := fun b hb => by
    rw [blk_setCell_ne (by omega), blk_setCells_ne (by omega), blk_setCell_ne (by omega)]
  have hBk : Kept S w (((w4.setCell ⟨w.heap.size + 1 + 1, 2, none⟩ (.int .i64 slot)).setCells (w.heap.size + 1 + 1) 3 (List.map bv m)).setCell ⟨w.heap.size + 1 + 1, 0, none⟩ (.int .i64 err)) :=
    (Kept.setCells (.inr (by omega)) _ _ (((K3.mono (by simp)).trans hk4).setCell _ (.inr (by omega)))).setCell _ (.inr (by omega))
  generalize (((w4.setCell ⟨w.heap.size + 1 + 1, 2, none⟩ (.int .i64 slot)).setCells (w.heap.size + 1 + 1) 3 (List.map bv m)).setCell ⟨w.heap.size + 1 + 1, 0, none⟩ (.int .i64 err)) = W5 at *
  have hti : (Tryz.prog.info? 37).map (·.size) = some ((toldC err 0 slot m).toArray).size := by rw [hinfo]; simp [toldC_length hm]
  go_wp2_with (first
   | refine wpList_load_all rfl _ _ rfl _ rfl hB Tryz.underlying37 rfl hti ?_
   | (refine wpList_store_all rfl _ _ _ rfl _ rfl (toldC err 0 slot m) rfl hB6 hinfo (toldC_length hm) hZs (told_one _ _ _ _) ?_
      intro w6 hb6 ho6 hz6 hk6))
  exact bodyPost_cell rfl rfl rfl hb6 Tryz.underlying37 rfl hti ⟨rfl, W3.drew, w4, K3.drew, ⟨hk4.os, hk4.tape, hk4.output, hk4.size, hk4.block⟩, hx4, hk6 _ _ hBk (.inr (by omega)), fun b hb => (ho6 b (by omega)).trans (hBo b hb)⟩
end Go.Bj
