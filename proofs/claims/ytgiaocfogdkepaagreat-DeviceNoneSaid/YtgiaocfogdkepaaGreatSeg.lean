import Derived.Test.YtgiaocfogdkepaaGreatBase
namespace Go
/-- a run of cells, written -/
def World.putSeg (w : World) (g off : Nat) (vs : List Value) : World :=
  { w with heap := w.heap.modify g fun
      | .cells c e f => .cells (c.toList.take off ++ vs ++ c.toList.drop (off + vs.length)).toArray e f
      | o => o }
end Go
namespace Go.Bj
open Go Go.RowKit
def segSet (off : Nat) (vs : List Value) : Obj → Obj
  | .cells c e f => .cells (c.toList.take off ++ vs ++ c.toList.drop (off + vs.length)).toArray e f
  | o => o
theorem segSet_some (off : Nat) (vs : List Value) (c : Array Value) (e : TypeId) (f : Nat × Nat) :
    segSet off vs (.cells c e f) = .cells (c.toList.take off ++ vs ++ c.toList.drop (off + vs.length)).toArray e f := rfl
theorem seg_all (vs : List Value) (c : Array Value) (e : TypeId) (f : Nat × Nat) (h : c.size = vs.length) : segSet 0 vs (.cells c e f) = .cells vs.toArray e f := by
  have : c.toList.drop (0 + vs.length) = [] := List.drop_eq_nil_of_le (by simp; omega)
  simp only [segSet, List.take_zero, List.nil_append, this, List.append_nil]
theorem blk_putSeg (w : World) (g off : Nat) (vs : List Value) (b : Nat) :
    (w.putSeg g off vs).blk b = if (⟨g, 0, none⟩ : Addr) = ⟨b, 0, none⟩ then (w.blk b).map (segSet off vs) else w.blk b := by
  unfold World.blk
  simp only [World.putSeg, Array.getElem?_modify]
  by_cases h : g = b
  · subst h
    simp only [if_true]
    cases w.heap[g]? with
    | none => rfl
    | some o => cases o <;> simp [segSet]
  · have : ¬ ((⟨g, 0, none⟩ : Addr) = ⟨b, 0, none⟩) := fun e => h (congrArg Addr.block e)
    rw [if_neg h, if_neg this]
theorem size_putSeg (w : World) (g off : Nat) (vs : List Value) : (w.putSeg g off vs).heap.size = w.heap.size := by simp [World.putSeg]
theorem Kept.putSeg {S : List Nat} {a w : World} (h : Kept S a w) {g off : Nat} (vs : List Value) (hg : g ∈ S ∨ a.heap.size ≤ g) : Kept S a (w.putSeg g off vs) :=
  ⟨h.os, h.tape, h.output, by rw [size_putSeg]; exact h.size, fun b hb hS => by
    rw [blk_putSeg, if_neg (fun e => by
      have := congrArg Addr.block e
      simp at this
      subst this
      rcases hg with hg | hg
      · exact hS hg
      · omega)]
    exact h.block b hb hS⟩
theorem putSeg_eq_setRow (w : World) (g off : Nat) (vs : List Value) (c : Array Value) (e : TypeId) (f : Nat × Nat) (h : w.blk g = some (.cells c e f)) :
    w.putSeg g off vs = w.setRow g (c.toList.take off ++ vs ++ c.toList.drop (off + vs.length)).toArray := by
  unfold World.putSeg World.setRow
  congr 1
  apply Array.ext_getElem?
  intro i
  simp only [Array.getElem?_modify]
  by_cases hi : g = i
  · subst hi
    rw [if_pos rfl, if_pos rfl, show w.heap[g]? = some (.cells c e f) from h]; rfl
  · rw [if_neg hi, if_neg hi]

/-- what 'build' makes of a part of several cells -/
theorem foldl_put_list (off : Nat) : ∀ (l : List Value) (k : Nat) (c : Array Value), off + k + l.length ≤ c.size →
    (l.zipIdx k).foldl (fun a x => a.setIfInBounds (off + x.2) x.1) c = (c.toList.take (off + k) ++ l ++ c.toList.drop (off + k + l.length)).toArray
  | [], k, c, _ => by simp
  | v :: l, k, c, h => by
    simp only [List.length_cons] at h
    rw [List.zipIdx_cons, List.foldl_cons, foldl_put_list off l (k + 1) _ (by simp; omega)]
    have e := list_seg_step c.toList (off + k) v l (by simp; omega)
    simp only [Array.toList_setIfInBounds, List.length_cons] at e ⊢
    rw [show off + (k + 1) = off + k + 1 from rfl]
    exact congrArg List.toArray e
/-- a struct of one cell and an aggregate behind it -/
theorem foldl_put1 (v : Value) (l : List Value) (z : Array Value) (h : z.size = l.length + 1) :
    l.zipIdx.foldl (fun a x => a.setIfInBounds (1 + x.2) x.1) (z.setIfInBounds 0 v) = (v :: l).toArray := by
  rw [foldl_put_list 1 l 0 _ (by simp; omega)]
  have h1 : (z.setIfInBounds 0 v).toList.take (1 + 0) = [v] := by
    rcases z with ⟨_ | ⟨a, t⟩⟩
    · simp at h
    · simp
  rw [h1, List.drop_eq_nil_of_le (by simp; omega)]; simp
theorem foldl_put (off : Nat) (cs : List Value) (c : Array Value) (h : off + cs.length ≤ c.size) :
    Array.foldl (fun a (x : Value × Nat) => a.setIfInBounds (off + x.2) x.1) c (cs.toArray.zipIdx) 0 cs.toArray.size = (c.toList.take off ++ cs ++ c.toList.drop (off + cs.length)).toArray := by
  have h1 := foldl_put_list off cs 0 c (by simpa using h)
  have h2 : Array.foldl (fun a (x : Value × Nat) => a.setIfInBounds (off + x.2) x.1) c (cs.toArray.zipIdx) 0 cs.toArray.size = (cs.toArray.zipIdx).foldl (fun a x => a.setIfInBounds (off + x.2) x.1) c := by
    congr 1; simp
  rw [h2, ← Array.foldl_toList, Array.toList_zipIdx]
  simpa using h1
section
variable {P : Program}
theorem run_loadVar_seg (w : World) (g off : Nat) (t ty : TypeId) (cs : Array Value) (fr : Nat × Nat) (d : TypeDesc) (n : Nat) (hg : w.blk g = some (.cells cs t fr))
    (hu : P.underlying ty = some d) (hd : (match d with | .struct _ | .array _ _ => true | _ => false) = true) (hi : (P.info? ty).map (·.size) = some n) (hn : off + n ≤ cs.size) :
    (loadVar ty ⟨g, off, none⟩).run P w = .ok (.agg ((cs.toList.drop off).take n).toArray) w := by
  have hlen : ((cs.toList.drop off).take n).length = n := by simp; omega
  have hl : (loadCells ⟨g, off, none⟩ n).run P w = .ok ((cs.toList.drop off).take n).toArray w := by
    have := run_loadCells_list (P := P) w ⟨g, off, none⟩ ((cs.toList.drop off).take n) (fun j v hv => by
      have hj : j < n := by have := (List.getElem?_eq_some_iff.1 hv).1; omega
      rw [add_addr, cell_at, hg, at_some]
      rw [List.getElem?_take_of_lt hj, List.getElem?_drop] at hv
      simpa using hv)
    rwa [hlen] at this
  cases hq : P.info? ty with
  | none => simp [hq] at hi
  | some i =>
    have hs : i.size = n := by simpa [hq] using hi
    have hagg : (isAgg ty).run P w = .ok true w := by
      unfold isAgg
      rw [Sem.run_bind, run_underlying hu w]
      cases d <;> simp_all
    simp [loadVar, Sem.run_bind, hagg, sizeOf, typeInfo, hq, hs, hl]

theorem wpList_load_seg {w : World} {ops : Array Oper} {rest : List Oper} {o : Oper} {a : Act} {Q : Exit → Act → World → Prop} (hgd : o.guard = none) (ty : TypeId) (x : Operand) (ho : o.op = .load ty x)
    (g off : Nat) (hx : a.eval x = .pointer (some ⟨g, off, none⟩)) {t : TypeId} {cs : Array Value} {fr : Nat × Nat} (hg : w.blk g = some (.cells cs t fr)) {d : TypeDesc}
    (hu : P.underlying ty = some d) (hd : (match d with | .struct _ | .array _ _ => true | _ => false) = true) {n : Nat} (hi : (P.info? ty).map (·.size) = some n) (hn : off + n ≤ cs.size)
    (h : wpList P ops Q rest (a.put o.dst (.agg ((cs.toList.drop off).take n).toArray)) w) : wpList P ops Q (o :: rest) a w :=
  wpList_plain hgd fun _ hK => by
    unfold Oper.wp execOp
    simp only [ho, hx, Instr.loadAt, Instr.sureAddr, Sem.run_bind, Sem.run_pure, Result.andThen_ok, run_loadVar_seg w g off t ty cs fr d n hg hu hd hi hn]
    exact hK _ _ h

theorem wpList_load_all {w : World} {ops : Array Oper} {rest : List Oper} {o : Oper} {a : Act} {Q : Exit → Act → World → Prop} (hgd : o.guard = none) (ty : TypeId) (x : Operand) (ho : o.op = .load ty x)
    (g : Nat) (hx : a.eval x = .pointer (some ⟨g, 0, none⟩)) {t : TypeId} {cs : Array Value} {fr : Nat × Nat} (hg : w.blk g = some (.cells cs t fr)) {d : TypeDesc}
    (hu : P.underlying ty = some d) (hd : (match d with | .struct _ | .array _ _ => true | _ => false) = true) (hi : (P.info? ty).map (·.size) = some cs.size)
    (h : wpList P ops Q rest (a.put o.dst (.agg cs)) w) : wpList P ops Q (o :: rest) a w :=
  wpList_load_row hgd ty x ho g hx t cs fr d hg hu hd hi h
def AllOne (vs : List Value) : Prop := ∀ v ∈ vs, v.oneCell' = true
theorem wpList_store_seg {w : World} {ops : Array Oper} {rest : List Oper} {o : Oper} {a : Act} {Q : Exit → Act → World → Prop} (hgd : o.guard = none) (ty : TypeId) (x y : Operand) (ho : o.op = .store ty x y)
    (g off : Nat) (hx : a.eval x = .pointer (some ⟨g, off, none⟩)) (vs : Array Value) (hy : a.eval y = .agg vs) {t : TypeId} {cs : Array Value} (hg : w.blk g = some (.cells cs t (0, 0)))
    {n : Nat} (hi : (P.info? ty).map (·.size) = some n) (hs : vs.size = n) (hn : off + n ≤ cs.size) (h1 : AllOne vs.toList)
    (h : wpList P ops Q rest (a.put o.dst undef) (w.putSeg g off vs.toList)) : wpList P ops Q (o :: rest) a w :=
  wpList_plain hgd fun _ hK => by
    cases hq : P.info? ty with
    | none => simp [hq] at hi
    | some i =>
      have hs' : i.size = n := by simpa [hq] using hi
      have hst : (storeCells ⟨g, off, none⟩ vs.toList 0).run P w = .ok () (w.putSeg g off vs.toList) := by
        rw [run_storeCells_at (P := P) g off t vs.toList 0 cs w hg (by simp; omega) h1, putSeg_eq_setRow w g off vs.toList cs t (0, 0) hg]
        rfl
      unfold Oper.wp execOp
      simp only [ho, hx, hy, Instr.storeAt, Instr.sureAddr, storeVar, Sem.run_bind, Sem.run_pure, Result.andThen_ok]
      simp [sizeOf, typeInfo, hq, hs', Value.cells, hs, Sem.run_bind, hst]
      exact hK _ _ h
/-- a whole variable is stored: the world behind it by its blocks -/
theorem wpList_store_all {w : World} {ops : Array Oper} {rest : List Oper} {o : Oper} {a : Act} {Q : Exit → Act → World → Prop} (hgd : o.guard = none) (ty : TypeId) (x y : Operand) (ho : o.op = .store ty x y)
    (g : Nat) (hx : a.eval x = .pointer (some ⟨g, 0, none⟩)) (vs : List Value) (hy : a.eval y = .agg vs.toArray) {t : TypeId} {cs : Array Value} (hg : w.blk g = some (.cells cs t (0, 0)))
    {n : Nat} (hi : (P.info? ty).map (·.size) = some n) (hs : vs.length = n) (hn : cs.size = n) (h1 : AllOne vs)
    (h : ∀ w', w'.blk g = some (.cells vs.toArray t (0, 0)) → (∀ b, b ≠ g → w'.blk b = w.blk b) → w'.heap.size = w.heap.size → (∀ S u, Kept S u w → (g ∈ S ∨ u.heap.size ≤ g) → Kept S u w') →
      wpList P ops Q rest (a.put o.dst undef) w') : wpList P ops Q (o :: rest) a w :=
  wpList_store_seg hgd ty x y ho g 0 hx vs.toArray hy hg hi (by simpa using hs) (by omega) h1 (h _
    (by rw [blk_putSeg, if_pos rfl, hg]; exact congrArg some (seg_all _ _ _ _ (by simp; omega)))
    (fun b hb => by rw [blk_putSeg, if_neg (fun e => hb (congrArg Addr.block e).symm)])
    (size_putSeg _ _ _ _) (fun _ _ k hk => k.putSeg _ hk))
theorem results_cell_seg {fn : Func} {p : Tmp} {ty : TypeId} (tmps : Array Value) (w : World) (g off : Nat) {t : TypeId} {cs : Array Value} {fr : Nat × Nat} {d : TypeDesc}
    (hp : tmps.getD p undef = .pointer (some ⟨g, off, none⟩)) (hg : w.blk g = some (.cells cs t fr))
    (hu : P.underlying ty = some d) (hd : (match d with | .struct _ | .array _ _ => true | _ => false) = true) {n : Nat} (hi : (P.info? ty).map (·.size) = some n) (hn : off + n ≤ cs.size)
    (h : fn.results = #[.cell p ty]) : (results fn tmps).run P w = .ok (.agg ((cs.toList.drop off).take n).toArray) w := by
  have hp' : tmps[p]?.getD undef = .pointer (some ⟨g, off, none⟩) := by simpa using hp
  simp [results, h, hp', asAddr, run_loadVar_seg w g off t ty cs fr d n hg hu hd hi hn]
/-- the result lies in memory, alone in its block -/
theorem bodyPost_cell {fn : Func} {R : Ending → World → Prop} {p : Tmp} {ty : TypeId} {a : Act} {w : World} (h : fn.results = #[.cell p ty]) (hd : a.defers = []) {g : Nat} (hp : a.tmps.getD p undef = .pointer (some ⟨g, 0, none⟩))
    {vs : List Value} {t : TypeId} {fr : Nat × Nat} (hg : w.blk g = some (.cells vs.toArray t fr)) {d : TypeDesc}
    (hu : P.underlying ty = some d) (hd' : (match d with | .struct _ | .array _ _ => true | _ => false) = true) (hi : (P.info? ty).map (·.size) = some vs.length)
    (hR : R (.returned (.agg vs.toArray)) w) : bodyPost P fn R .ret a w := by
  refine bodyPost_ret (v := .agg vs.toArray) ?_ hd hR
  rw [results_cell_seg a.tmps w g 0 hp hg hu hd' hi (by simp) h]
  simp
end
end Go.Bj
