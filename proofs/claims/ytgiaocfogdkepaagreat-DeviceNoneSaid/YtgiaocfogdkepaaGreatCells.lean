import Derived.Test.YtgiaocfogdkepaaGreatDev1
import Derived.Deep.MidRow
namespace Go.Bj
open Go Go.RowKit
theorem setAt_cells (c : Array Value) (e : TypeId) (f : Nat × Nat) (i : Nat) (v : Value) : setAt i v (.cells c e f) = .cells (c.setIfInBounds i v) e f := rfl
theorem blk_setCell_ne {w : World} {p i : Nat} {v : Value} {b : Nat} (h : b ≠ p) : (w.setCell ⟨p, i, none⟩ v).blk b = w.blk b := by
  rw [heap_setCell, if_neg (fun e => h (congrArg Addr.block e).symm)]
theorem blk_putSeg_ne {w : World} {g off : Nat} {vs : List Value} {b : Nat} (h : b ≠ g) : (w.putSeg g off vs).blk b = w.blk b := by
  rw [blk_putSeg, if_neg (fun e => h (congrArg Addr.block e).symm)]
theorem blk_setCells_ne {g b : Nat} (h : b ≠ g) : ∀ (vs : List Value) (off : Nat) (w : World), (w.setCells g off vs).blk b = w.blk b
  | [], _, _ => rfl
  | v :: r, off, w => by rw [World.setCells, blk_setCells_ne h r (off + 1) _, blk_setCell_ne h]
theorem blk_setCells {g : Nat} {e : TypeId} {f : Nat × Nat} : ∀ (vs : List Value) (off : Nat) (w : World) (c : Array Value), w.blk g = some (.cells c e f) → off + vs.length ≤ c.size →
    (w.setCells g off vs).blk g = some (.cells (c.toList.take off ++ vs ++ c.toList.drop (off + vs.length)).toArray e f)
  | [], off, w, c, h, _ => by simpa [World.setCells] using h
  | v :: r, off, w, c, h, hl => by
    simp only [List.length_cons] at hl
    have h1 : (w.setCell ⟨g, off, none⟩ v).blk g = some (.cells (c.setIfInBounds off v) e f) := by rw [heap_setCell, if_pos rfl, h]; rfl
    rw [World.setCells, blk_setCells r (off + 1) _ _ h1 (by simp; omega)]
    have e := list_seg_step c.toList off v r (by simp; omega)
    simp only [Array.toList_setIfInBounds, List.length_cons] at e ⊢
    rw [← e]
theorem size_setCells {g : Nat} : ∀ (vs : List Value) (off : Nat) (w : World), (w.setCells g off vs).heap.size = w.heap.size
  | [], _, _ => rfl
  | v :: r, off, w => by rw [World.setCells, size_setCells r]; simp
theorem Kept.setCells {S : List Nat} {a : World} {g : Nat} (hg : g ∈ S ∨ a.heap.size ≤ g) : ∀ (vs : List Value) (off : Nat) {w : World}, Kept S a w → Kept S a (w.setCells g off vs)
  | [], _, _, h => h
  | v :: r, off, _, h => Kept.setCells hg r (off + 1) (h.setCell v hg)
theorem there_of {w : World} {g off n : Nat} {c : Array Value} {e : TypeId} (h : w.blk g = some (.cells c e (0, 0))) (hn : off + n ≤ c.size) : w.there g off n := fun j hj => by
  rw [cell_at, frozen_at, h, at_some, fz_some]
  have : off + j < c.size := by omega
  simp [this]
end Go.Bj
