import Derived.Test.YtgiaocfogdkepaaGreatFacts
import Derived.Test.YtgiaocfogdkepaaGreatLaw8b
import Derived.ProofKit
import Derived.OpenShut
import Derived.ChangeOld
import Derived.Below
import Derived.Deep.Slices
import Derived.Lib.SmallJoins
namespace Go.Bj
open Go Go.RowKit Proofs Go.ChangeShapes Go.WideShapes
theorem cells_key : Tryz.prog.cellsOf 22 = 32 := by kernel_rfl
theorem cells_byte : Tryz.prog.cellsOf 5 = 1 := by kernel_rfl
section
variable {H : Type} {enc : TypeId × Value → H} {w : World} {base : Nat} {spare : Nat → Bool} {held : Bool} {fuel : Nat}
theorem cell_u8 {v : Value} {y : DataW H × List MemPlace} (h : DataW.trod enc Tryz.prog w base spare held fuel 5 [v] = some y) : ∃ c : UInt8, v = bv c := by
  obtain ⟨n, hc, _, hw⟩ := DataW.trod_int Tryz.underlying5 h
  simp at hc
  subst hc
  simp [Lit.wf, IntKind.min, IntKind.max, IntKind.signed, IntKind.bits] at hw
  refine ⟨UInt8.ofNat n.toNat, ?_⟩
  have : (UInt8.ofNat n.toNat).toNat = n.toNat := by simp; omega
  simp only [bv, this]
  congr 1; omega
theorem at_cell {w : World} {a : Addr} {v : Value} (h : w.cell? a = some v) : a = ⟨a.block, a.off, none⟩ ∧ at? (w.blk a.block) a.off = some v := by
  have hs := World.cell?_spot h
  obtain ⟨b, o, s⟩ := a
  simp only at hs
  subst hs
  exact ⟨rfl, by rw [← cell_at]; exact h⟩
theorem lt_of_at {w : World} {b i : Nat} {v : Value} (h : at? (w.blk b) i = some v) : b < w.heap.size := by
  cases hb : w.blk b with
  | none => rw [hb] at h; cases h
  | some o => exact lt_of_blk hb
theorem rd_of_cells {a : Addr} {size n cap : Nat} (hc : n ≤ cap) (hm : cap ≤ maxLen) (hs : 0 < size) (h : ∀ j, j < n * size → ∃ c : UInt8, w.cell? (a.add j) = some (bv c)) :
    ∃ l : List UInt8, l.length = n * size ∧ Rd w (.slice (some a) n cap) size n (l.map bv) := by
  obtain ⟨f, hf⟩ := Deep.choose_lt (α := UInt8) (p := fun j c => w.cell? (a.add j) = some (bv c)) h
  refine ⟨(List.range (n * size)).map f, by simp, some a, cap, rfl, by simp, hc, hm, fun h0 => ?_⟩
  have h00 : 0 < n * size := Nat.mul_pos h0 hs
  have hz : a.add 0 = a := by simp [Addr.add]
  have hat := hf 0 h00
  rw [hz] at hat
  obtain ⟨ha, hb⟩ := at_cell hat
  refine ⟨a.block, a.off, by rw [← ha], lt_of_at hb, fun j u hu => ?_⟩
  have hj : j < n * size := by
    have := (List.getElem?_eq_some_iff.1 hu).1
    simpa using this
  have h2 := hf j hj
  rw [ha, Addr.add_mid, cell_at] at h2
  rw [h2]
  simp [hj] at hu
  exact congrArg some hu
theorem open_byt {v : Value} {y : DataW H × List MemPlace} (h : DataW.trod enc Tryz.prog w base spare held fuel 39 [v] = some y) : ∃ A n c l, v = .slice A n c ∧ Byt w (.slice A n c) l := by
  rcases Deep.open_slice Tryz.underlying39 h with ⟨hc, _⟩ | ⟨a, len, cap, m, n, D, Pl, hc, _, hl, hm, hmm, _, hx⟩
  · simp at hc
    subst hc
    exact ⟨none, 0, 0, [], rfl, Rd.nil _ _⟩
  · simp at hc
    subst hc
    have hlm : len ≤ m := by rw [hmm]; split <;> omega
    obtain ⟨l, hl2, hr⟩ := rd_of_cells (w := w) (a := a) (size := 1) (n := len) hl hm (by omega) (fun j hj => by
      obtain ⟨cs, h1, h2⟩ := hx j (by omega)
      rw [cells_byte, Nat.mul_one] at h1
      obtain ⟨_, hl3, hi⟩ := World.cells?_some h1
      match cs, hl3 with
      | [u], _ =>
        obtain ⟨c, rfl⟩ := cell_u8 h2
        have := hi 0 (by omega)
        exact ⟨c, by simpa [Addr.add] using this⟩)
    refine ⟨some a, len, cap, l, rfl, ?_⟩
    rw [Nat.mul_one] at hl2
    unfold Byt
    rw [hl2]; exact hr
theorem open_keys {v : Value} {y : DataW H × List MemPlace} (h : DataW.trod enc Tryz.prog w base spare held fuel 29 [v] = some y) : ∃ A n c l, v = .slice A n c ∧ Rd w (.slice A n c) 32 n (List.map bv l) := by
  rcases Deep.open_slice Tryz.underlying29 h with ⟨hc, _⟩ | ⟨a, len, cap, m, n, D, Pl, hc, _, hl, hm, hmm, _, hx⟩
  · simp at hc
    subst hc
    exact ⟨none, 0, 0, [], rfl, Rd.nil _ _⟩
  · simp at hc
    subst hc
    have hlm : len ≤ m := by rw [hmm]; split <;> omega
    obtain ⟨l, hl2, hr⟩ := rd_of_cells (w := w) (a := a) (size := 32) (n := len) hl hm (by omega) (fun j hj => by
      obtain ⟨cs, h1, h2⟩ := hx (j / 32) (by omega)
      rw [cells_key] at h1
      obtain ⟨_, hl3, hi⟩ := World.cells?_some h1
      have hi' := hi (j % 32) (Nat.mod_lt _ (by omega))
      rw [Deep.add_add, show j / 32 * 32 + j % 32 = j by omega] at hi'
      obtain ⟨ys, k, _, _, _, hy, he⟩ := DataW.trod_array Tryz.underlying22 h2
      have he' := he (j % 32) (Nat.mod_lt _ (by omega))
      rw [cells_byte, Nat.mul_one] at he'
      have hlt : j % 32 < cs.length := by omega
      have hlt2 : j % 32 < ys.length := by omega
      rw [List.getElem?_eq_getElem hlt2] at he'
      have hone : (cs.drop (j % 32)).take 1 = [cs[j % 32]] := by rw [List.drop_eq_getElem_cons hlt]; rfl
      rw [hone] at he'
      obtain ⟨c, hc⟩ := cell_u8 he'
      exact ⟨c, by rw [hi', List.getElem?_eq_getElem hlt, hc]⟩)
    exact ⟨some a, len, cap, l, rfl, hr⟩
end
end Go.Bj
