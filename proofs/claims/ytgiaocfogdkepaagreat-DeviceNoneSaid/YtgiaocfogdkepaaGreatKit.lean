import Derived.Test.YtgiaocfogdkepaaGreatProg
import Derived.Test.YtgiaocfogdkepaaGreatBase
import Derived.Test.YtgiaocfogdkepaaGreatSeg
import Derived.Laws.MakeOwn
namespace Go.Bj
open Go Go.RowKit Proofs

theorem u8_info : (Tryz.prog.info? 5).map (fun i => (i.zero, i.size, i.bytes)) = some (some (.int .u8 0), 1, 1) := by kernel_rfl
theorem int_info : (Tryz.prog.info? 3).map (fun i => (i.zero, i.size, i.bytes)) = some (some (.int .i64 0), 1, 8) := by kernel_rfl

/-- a []byte of the call's own -/
def Own (w : World) (base : Nat) (v : Value) (l : List UInt8) : Prop := w.ownsRow base 5 1 v l.length (l.map bv)
theorem Own.byt {w : World} {base : Nat} {v : Value} {l : List UInt8} (h : Own w base v l) : Byt w v l := Rd.of_own h
theorem Own.base_le {w : World} {base : Nat} {v : Value} {l : List UInt8} (h : Own w base v l) {g : Nat} (hg : v.ownBlock = some g) : base ≤ g := by
  rcases h.2 with ⟨rfl, _⟩ | ⟨g', cap, cur, rfl, hb, _⟩
  · cases hg
  · have : g' = g := by simpa [Value.ownBlock] using hg
    omega
theorem Own.mono {w : World} {base base' : Nat} {v : Value} {l : List UInt8} (h : Own w base v l) (hb : base' ≤ base) : Own w base' v l := by
  refine ⟨h.1, ?_⟩
  rcases h.2 with h' | ⟨g, cap, cur, h1, h2, h3⟩
  · exact .inl h'
  · exact .inr ⟨g, cap, cur, h1, Nat.le_trans hb h2, h3⟩
theorem Own.keep {S : List Nat} {w w' : World} {base : Nat} {v : Value} {l : List UInt8} (h : Own w base v l) (k : Kept S w w') (hS : ∀ x ∈ S, x < base) : Own w' base v l := by
  refine ⟨h.1, ?_⟩
  rcases h.2 with h' | ⟨g, cap, cur, h1, h2, h3, h4⟩
  · exact .inl h'
  · exact .inr ⟨g, cap, cur, h1, h2, k.blk h3 (fun hg => by have := hS g hg; omega), h4⟩
theorem Own.nil (w : World) (base : Nat) : Own w base (.slice none 0 0) [] := ⟨rfl, .inl ⟨rfl, rfl⟩⟩
theorem Own.lit0 {w : World} {base : Nat} (hb : base ≤ w.heap.size) : Own (w.alloc (.cells #[] 5)) base (.slice (some ⟨w.heap.size, 0, none⟩) 0 0) [] :=
  ⟨rfl, .inr ⟨w.heap.size, 0, #[], rfl, hb, blk_new _ _, by simp, by simp [maxLen], rfl, rfl⟩⟩
theorem wpList_append_bytes {w : World} {ops : Array Oper} {rest : List Oper} {o : Oper} {a : Act} {Q : Exit → Act → World → Prop} (hgd : o.guard = none) (s x : Operand)
    (ho : o.op = .call { callee := .builtin .append, args := #[s, x], argTypes := #[39, 39] })
    (base : Nat) (v : Value) (l : List UInt8) (hs : a.eval s = v) (hown : Own w base v l)
    (xv : Value) (m : List UInt8) (hx : a.eval x = xv) (hr : Byt w xv m) (hl : l.length + m.length ≤ 1099511627776) (hbase : base ≤ w.heap.size)
    (h : ∀ v' w', Own w' base v' (l ++ m) → (∀ S w0, Kept S w0 w → w0.heap.size ≤ base → Kept S w0 w') → wpList Tryz.prog ops Q rest (a.put o.dst v') w') : wpList Tryz.prog ops Q (o :: rest) a w := by
  obtain ⟨i0, hi0, hz0, hz1, hz2⟩ := info_parts u8_info
  refine wpList_append_rd hgd s x _ ho base 5 i0 _ 1 1 Tryz.underlying39 hi0 hz0 hz1 hz2 rfl (by omega) v l.length (l.map bv) hs hown xv m.length (m.map bv) hx hr (bv_one m) (by simp only [maxLen]; omega) (by omega) hbase ?_
  intro v' w' ho' hg' _
  exact h v' w' (by simpa [Own] using ho') (fun S w0 k hb => k.step hg' (fun g hg => .inr (Nat.le_trans hb (hown.base_le hg))))
theorem step_append_bytes {w : World} {ops : Array Oper} {o : Oper} {a : Act} {K : Act → World → Prop} {Q : Exit → Act → World → Prop} {E : Prop} (hgd : o.guard = none) (s x : Operand)
    (ho : o.op = .call { callee := .builtin .append, args := #[s, x], argTypes := #[39, 39] })
    (base : Nat) (v : Value) (l : List UInt8) (hs : a.eval s = v) (hown : Own w base v l)
    (xv : Value) (m : List UInt8) (hx : a.eval x = xv) (hr : Byt w xv m) (hl : l.length + m.length ≤ 1099511627776) (hbase : base ≤ w.heap.size)
    (h : ∀ v' w', Own w' base v' (l ++ m) → (∀ S w0, Kept S w0 w → w0.heap.size ≤ base → Kept S w0 w') → w.grownBy w' v.ownBlock → K (a.put o.dst v') w') :
    if Region.wanted o (yielded ops a.tmps) = true then Oper.wp Tryz.prog o a w K Q else E := by
  have hw : Region.wanted o (yielded ops a.tmps) = true := by simp [Region.wanted, hgd]
  rw [if_pos hw]
  obtain ⟨i0, hi0, hz0, hz1, hz2⟩ := info_parts u8_info
  refine wp_append_rd w s x _ ho base 5 i0 _ 1 1 Tryz.underlying39 hi0 hz0 hz1 hz2 rfl (by omega) v l.length (l.map bv) hs hown xv m.length (m.map bv) hx hr (bv_one m) (by simp only [maxLen]; omega) (by omega) hbase ?_
  intro v' w' ho' hg' _
  exact h v' w' (by simpa [Own] using ho') (fun S w0 k hb => k.step hg' (fun g hg => .inr (Nat.le_trans hb (hown.base_le hg)))) hg'
theorem Own.of_blk {w : World} {base g cap : Nat} {l : List UInt8} (h : (w.blk g) = some (.cells (cellsB l) 5 (0, 0))) (hb : base ≤ g) (hc : l.length = cap) (hm : cap ≤ maxLen) :
    Own w base (.slice (some ⟨g, 0, none⟩) cap cap) l := by
  subst hc
  exact ⟨by simp, .inr ⟨g, l.length, cellsB l, rfl, hb, h, Nat.le_refl _, hm, by simp [cellsB], by simp [cellsB, List.take_of_length_le]⟩⟩
theorem run_make_bytes (n : Nat) (hn : n ≤ 1099511627776) (w : World) : (Instr.makeSlice 39 (.int .i64 (n : Int)) (.int .i64 (n : Int))).run Tryz.prog w
    = .ok (.slice (some ⟨w.heap.size, 0, none⟩) n n) (w.alloc (.cells (cellsB (List.replicate n 0)) 5)) := by
  obtain ⟨i0, hi0, hz0, hz1, hz2⟩ := info_parts u8_info
  have h := run_make (P := Tryz.prog) w 39 5 i0 (.int .u8 0) Tryz.underlying39 hi0 hz0 .i64 .i64 n n (by omega) (by omega) (by rw [hz2]; omega) (by omega)
  simp only [Int.toNat_natCast, hz1, Nat.mul_one] at h
  rw [h]
  have : madeCells (Value.int IntKind.u8 0).cells n = cellsB (List.replicate n 0) := by
    apply Array.toList_inj.1
    rw [show (Value.int IntKind.u8 0).cells = #[Value.int IntKind.u8 0] from rfl, toList_madeCells_one]
    simp [cellsB, bv]
  rw [this]
end Go.Bj
