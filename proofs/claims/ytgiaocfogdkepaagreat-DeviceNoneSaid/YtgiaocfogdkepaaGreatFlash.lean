import Derived.Test.YtgiaocfogdkepaaGreatNor
namespace Go.Bj
open Go Go.RowKit Proofs
attribute [local go_sem] cell_at frozen_at at_some fz_some setAt_some heap_setCell heap_alloc heap_drew heap_drewN

structure FlashS where
  b : List UInt8
  er : List Int
  steps : Int
  off : Bool
  armed : Bool
  after : Int
  pick : List UInt8

def cellsR (l : List UInt8) (r : List Value) : Array Value := (l.map bv ++ r).toArray
def cellsI (l : List Int) : Array Value := (l.map (Value.int .i64)).toArray
def flashC (pb pe cap : Nat) (pv : Value) (F : FlashS) : Array Value :=
  #[.slice (some ⟨pb, 0, none⟩) F.b.length cap, .slice (some ⟨pe, 0, none⟩) F.er.length F.er.length, .int .i64 F.steps, .bool F.off, .bool F.armed, .int .i64 F.after, pv]
structure FlashAt (w : World) (p pb pe : Nat) (F : FlashS) : Prop where
  ex : ∃ cap pv r, (w.blk p) = some (.cells (flashC pb pe cap pv F) 183 (0, 0)) ∧ (w.blk pb) = some (.cells (cellsR F.b r) 5 (0, 0)) ∧ F.b.length ≤ cap ∧ cap ≤ maxLen ∧
    Byt w pv F.pick ∧ Off pv [pb]
  er : (w.blk pe) = some (.cells (cellsI F.er) 3 (0, 0))
  len : F.b.length = F.er.length * 1024
  pos : 0 < F.er.length
  le : F.er.length ≤ 256

def withinB (len at_ n : Int) : Bool := decide (0 ≤ at_ ∧ 0 ≤ n ∧ at_ ≤ len ∧ n ≤ len - at_)
theorem within_mk {len at_ n : Int} {b : Bool} (h : b = true ↔ (0 ≤ at_ ∧ 0 ≤ n ∧ at_ ≤ len ∧ n ≤ len - at_)) : b = withinB len at_ n := by
  unfold withinB
  cases b
  · symm; rw [decide_eq_false_iff_not]; intro hh; exact absurd (h.2 hh) (by simp)
  · symm; rw [decide_eq_true_iff]; exact h.1 rfl

set_option maxHeartbeats 400000 in
theorem within_any {w : World} {p pb pe : Nat} {F : FlashS} (h : FlashAt w p pb pe F) (at_ n : Int) (ha : -4611686018427387904 ≤ at_ ∧ at_ ≤ 4611686018427387904) :
    Calls Tryz.prog 119 #[.pointer (some ⟨p, 0, none⟩), .int .i64 at_, .int .i64 n] w fun e w' => e = .returned (.bool (withinB F.b.length at_ n)) ∧ w = w' := by
  obtain ⟨⟨cap, pv, r, hp, hb, hc1, hc2, _, _⟩, _, hl, h0, hle⟩ := h
  unfold flashC at hp
  have hle : F.b.length ≤ 262144 := by omega
  clear hl
  go_enter Tryz.func119, Tryz.ntmps119
  go_wp2
  all_goals (go_ret; refine ⟨congrArg (fun b => Ending.returned (.bool b)) (within_mk ?_), rfl⟩; simp; omega)

set_option maxHeartbeats 400000 in
theorem size_any {w : World} {p pb pe : Nat} {F : FlashS} (h : FlashAt w p pb pe F) :
    Calls Tryz.prog 66 #[.pointer (some ⟨p, 0, none⟩)] w fun e w' => e = .returned (.int .i64 F.b.length) ∧ w = w' := by
  obtain ⟨⟨cap, pv, r, hp, hb, hc1, hc2, _, _⟩, _, hl, h0, hle⟩ := h
  unfold flashC at hp
  clear hl hb
  go_enter Tryz.func66, Tryz.ntmps66
  go_wp2
  go_ret
  exact ⟨rfl, rfl⟩

theorem FlashAt.keep {S : List Nat} {w w' : World} {p pb pe : Nat} {F : FlashS} (h : FlashAt w p pb pe F) (k : Kept S w w') (hp : p ∉ S) (hb : pb ∉ S) (he : pe ∉ S)
    (hk : ∀ pv, Byt w pv F.pick → Byt w' pv F.pick) : FlashAt w' p pb pe F := by
  obtain ⟨⟨cap, pv, r, h1, h2, h3, h4, h5, h6⟩, h7, h8, h9, h10⟩ := h
  exact ⟨⟨cap, pv, r, k.blk h1 hp, k.blk h2 hb, h3, h4, hk _ h5, h6⟩, k.blk h7 he, h8, h9, h10⟩
theorem FlashAt.keep0 {w w' : World} {p pb pe : Nat} {F : FlashS} (h : FlashAt w p pb pe F) (k : Kept [] w w') : FlashAt w' p pb pe F :=
  h.keep k (by simp) (by simp) (by simp) (fun _ hv => hv.keep0 k)

/-- a piece of the flash, as a slice -/
theorem FlashAt.piece {w : World} {p pb pe : Nat} {F : FlashS} (h : FlashAt w p pb pe F) (at_ n : Nat) (ha : at_ + n ≤ F.b.length) (c : Nat) (hc : n ≤ c) (hm : c ≤ maxLen) :
    Byt w (.slice (some ⟨pb, at_, none⟩) n c) ((F.b.drop at_).take n) := by
  obtain ⟨⟨cap, pv, r, h1, h2, h3, h4, h5, h6⟩, h7, h8, h9, h10⟩ := h
  have hlen : ((F.b.drop at_).take n).length = n := by simp; omega
  refine ⟨some ⟨pb, at_, none⟩, c, by rw [hlen], by simp, by rw [hlen]; exact hc, hm, fun _ => ⟨pb, at_, rfl, lt_of_blk h2, fun j u hu => ?_⟩⟩
  have hj : j < n := by have := (List.getElem?_eq_some_iff.1 hu).1; simp at this; omega
  rw [h2, at_some, ← hu]
  simp only [cellsR, List.getElem?_toArray, List.getElem?_map]
  rw [List.getElem?_append_left (by simp; omega), List.getElem?_take_of_lt hj, List.getElem?_drop, List.getElem?_map]

set_option maxHeartbeats 400000 in
theorem peek_any {w : World} {p pb pe : Nat} {F : FlashS} (h : FlashAt w p pb pe F) (at_ n : Nat) (ha : at_ + n ≤ F.b.length) :
    Calls Tryz.prog 65 #[.pointer (some ⟨p, 0, none⟩), .int .i64 at_, .int .i64 n] w fun e w' => ∃ v, e = .returned v ∧ Own w' w.heap.size v ((F.b.drop at_).take n) ∧ Kept [] w w' := by
  have H := Lib.hid h
  obtain ⟨⟨cap, pv, r, hp, hb, hc1, hc2, _, _⟩, _, hl, h0, hle⟩ := h
  have hl2 : F.b.length ≤ 262144 := by omega
  have hw : withinB F.b.length at_ n = true := by simp [withinB]; omega
  unfold flashC at hp
  unfold maxLen at hc2
  clear hl hb
  go_enter Tryz.func65, Tryz.ntmps65
  go_wp2_with (go_at_call 119; refine (within_any H.out _ _ (by omega)).mono ?_; rintro e w' ⟨rfl, rfl⟩)
  · obtain rfl : n = 0 := by omega
    refine (clone_bytes _ [] _ (Byt.empty _ _ _ (by simp [maxLen])) (by simp)).mono ?_
    rintro e w1 ⟨v, rfl, ho, hk⟩
    go_wp2
    go_ret
    exact ⟨v, rfl, by simpa using ho, hk⟩
  · refine (clone_bytes _ _ _ (H.out.piece at_ n ha _ (by omega) (by simp only [maxLen]; omega)) (by simp; omega)).mono ?_
    rintro e w1 ⟨v, rfl, ho, hk⟩
    go_wp2
    go_ret
    exact ⟨v, rfl, ho, hk⟩
def FlashS.read (F : FlashS) (at_ n : Int) : List UInt8 × Int :=
  if F.off = true then ([], 5) else if withinB F.b.length at_ n = true then ((F.b.drop at_.toNat).take n.toNat, 0) else ([], 2)
theorem within_nat {len at_ n : Int} (h : withinB len at_ n = true) : 0 ≤ at_ ∧ 0 ≤ n ∧ at_ ≤ len ∧ n ≤ len - at_ := by simpa [withinB] using h

set_option maxHeartbeats 400000 in
theorem flash_read_any {w : World} {p pb pe : Nat} {F : FlashS} (h : FlashAt w p pb pe F) (at_ n : Int) (ha : -4611686018427387904 ≤ at_ ∧ at_ ≤ 4611686018427387904) :
    Calls Tryz.prog 159 #[.pointer (some ⟨p, 0, none⟩), .int .i64 at_, .int .i64 n] w fun e w' => ∃ v, e = .returned (.tuple #[v, .int .i64 (F.read at_ n).2]) ∧ Own w' w.heap.size v (F.read at_ n).1 ∧ Kept [] w w' := by
  have H := Lib.hid h
  obtain ⟨⟨cap, pv, r, hp, hb, hc1, hc2, _, _⟩, _, hl, h0, hle⟩ := h
  unfold flashC at hp
  clear hl hb
  unfold FlashS.read
  cases hoff : F.off with
  | true =>
    rw [hoff] at hp
    clear hoff
    go_enter Tryz.func159, Tryz.ntmps159
    go_wp2
    go_ret2
    exact ⟨_, rfl, Own.nil _ _, Kept.refl _ _⟩
  | false =>
    rw [hoff] at hp
    clear hoff
    cases hw : withinB F.b.length at_ n with
    | true =>
      obtain ⟨w1, w2, w3, w4⟩ := within_nat hw
      obtain ⟨a, rfl⟩ := Int.eq_ofNat_of_zero_le w1
      obtain ⟨m, rfl⟩ := Int.eq_ofNat_of_zero_le w2
      clear hw
      have hw : withinB F.b.length a m = true := by simp [withinB]; omega
      go_enter Tryz.func159, Tryz.ntmps159
      go_wp2_with (first
        | (go_at_call 119; refine (within_any H.out _ _ (by omega)).mono ?_; rintro e w' ⟨rfl, rfl⟩)
        | (go_at_call 65; refine (peek_any H.out _ _ (by omega)).mono ?_; rintro e w1 ⟨v, rfl, ho, hk⟩))
      go_ret2
      exact ⟨v, rfl, ho, hk⟩
    | false =>
      go_enter Tryz.func159, Tryz.ntmps159
      go_wp2_with (first
        | (go_at_call 119; refine (within_any H.out _ _ (by omega)).mono ?_; rintro e w' ⟨rfl, rfl⟩))
      go_ret2
      exact ⟨_, rfl, Own.nil _ _, Kept.refl _ _⟩

set_option maxHeartbeats 400000 in
theorem off_any {w : World} {p pb pe : Nat} {F : FlashS} (h : FlashAt w p pb pe F) :
    Calls Tryz.prog 106 #[.pointer (some ⟨p, 0, none⟩)] w fun e w' => e = .returned (.bool F.off) ∧ w = w' := by
  obtain ⟨⟨cap, pv, r, hp, hb, hc1, hc2, _, _⟩, _, hl, h0, hle⟩ := h
  unfold flashC at hp
  clear hl hb
  go_enter Tryz.func106, Tryz.ntmps106
  go_wp2
  go_ret
  exact ⟨rfl, rfl⟩
theorem cellsI_get (l : List Int) (j : Nat) : (cellsI l)[j]? = (l[j]?).map (Value.int .i64) := by simp [cellsI]
theorem cellsI_set (l : List Int) (j : Nat) (c : Int) : (cellsI l).setIfInBounds j (.int .i64 c) = cellsI (l.set j c) := by simp [cellsI, List.map_set]
set_option maxHeartbeats 400000 in
theorem erases_any {w : World} {p pb pe : Nat} {F : FlashS} (h : FlashAt w p pb pe F) (s : Nat) (hs : s < F.er.length) :
    Calls Tryz.prog 70 #[.pointer (some ⟨p, 0, none⟩), .int .i64 s] w fun e w' => e = .returned (.int .i64 (F.er[s]'hs)) ∧ w = w' := by
  obtain ⟨⟨cap, pv, r, hp, hb, hc1, hc2, _, _⟩, he, hl, h0, hle⟩ := h
  have hg : (cellsI F.er)[s]? = some (.int .i64 (F.er[s]'hs)) := by rw [cellsI_get, List.getElem?_eq_getElem hs]; rfl
  unfold flashC at hp
  clear hl hb
  go_enter Tryz.func70, Tryz.ntmps70
  go_wp2
  go_ret
  exact ⟨rfl, rfl⟩
end Go.Bj
