import Derived.WalkKit
import Derived.Lib.Hide
import Derived.Deep.QuietTactic
import Derived.BigQuiet
import Derived.Deep.RegionWith
import Derived.Deep.RegionHeld3
import Derived.Deep.LoopGhost
import Derived.Deep.DeepFit
import Derived.WalkSpells
import Derived.Maps.AppendAt
import Derived.Deep.AppendLies
namespace Go
/-- a block of the memory (a name of its own: simp has rules for the array's) -/
def World.blk (w : World) (b : Nat) : Option Obj := w.heap[b]?
end Go
namespace Go.Bj
open Go Go.RowKit

def at? : Option Obj → Nat → Option Value
  | some (.cells c _ _), i => c[i]?
  | _, _ => none
def fz? : Option Obj → Nat → Bool
  | some (.cells _ _ (lo, hi)), i => lo ≤ i && i < hi
  | _, _ => false
def setAt (i : Nat) (v : Value) : Obj → Obj
  | .cells c e f => .cells (c.setIfInBounds i v) e f
  | o => o

theorem cell_at (w : World) (b i : Nat) : w.cell? ⟨b, i, none⟩ = at? (w.blk b) i := by
  unfold World.cell? at? World.blk
  cases h : w.heap[b]? with
  | none => simp
  | some o => cases o <;> simp
theorem frozen_at (w : World) (b i : Nat) : w.frozen? ⟨b, i, none⟩ = fz? (w.blk b) i := by
  unfold World.frozen? fz? World.blk
  cases h : w.heap[b]? with
  | none => simp
  | some o => cases o <;> simp
theorem at_some (c : Array Value) (e : TypeId) (f : Nat × Nat) (i : Nat) : at? (some (.cells c e f)) i = c[i]? := rfl
theorem fz_some (c : Array Value) (e : TypeId) (i : Nat) : fz? (some (.cells c e (0, 0))) i = false := by simp [fz?]
theorem setAt_some (c : Array Value) (e : TypeId) (f : Nat × Nat) (i : Nat) (v : Value) : setAt i v (.cells c e f) = .cells (c.setIfInBounds i v) e f := rfl
theorem heap_setCell (w : World) (p i : Nat) (v : Value) (b : Nat) :
    ((w.setCell ⟨p, i, none⟩ v).blk b) = if (⟨p, 0, none⟩ : Addr) = ⟨b, 0, none⟩ then ((w.blk b)).map (setAt i v) else (w.blk b) := by
  unfold World.blk
  simp only [World.setCell, Array.getElem?_modify]
  by_cases h : p = b
  · subst h
    simp only [if_true]
    cases w.heap[p]? with
    | none => rfl
    | some o => cases o <;> simp [setAt]
  · have : ¬ ((⟨p, 0, none⟩ : Addr) = ⟨b, 0, none⟩) := fun e => h (congrArg Addr.block e)
    rw [if_neg h, if_neg this]
theorem heap_alloc (w : World) (o : Obj) (b : Nat) :
    ((w.alloc o).blk b) = if (⟨w.heap.size, 0, none⟩ : Addr) = ⟨b, 0, none⟩ then some o else (w.blk b) := by
  show (w.heap.push o)[b]? = _
  rw [Array.getElem?_push]
  by_cases h : b = w.heap.size
  · subst h; simp
  · have : ¬ ((⟨w.heap.size, 0, none⟩ : Addr) = ⟨b, 0, none⟩) := fun e => h (congrArg Addr.block e).symm
    rw [if_neg h, if_neg this]; rfl
theorem heap_drew (w : World) (b : Nat) : w.drew.blk b = w.blk b := rfl
theorem heap_drewN (w : World) (n b : Nat) : ((w.drewN n).blk b) = (w.blk b) := rfl

theorem blk_new (w : World) (o : Obj) : (w.alloc o).blk w.heap.size = some o := by rw [heap_alloc]; simp
theorem blk_old {w : World} {o : Obj} {b : Nat} (h : b < w.heap.size) : (w.alloc o).blk b = w.blk b := by
  rw [heap_alloc, if_neg (fun e => by have := congrArg Addr.block e; simp at this; omega)]
theorem size_al (w : World) (o : Obj) : (w.alloc o).heap.size = w.heap.size + 1 := World.size_alloc w o
theorem blk_new1 (w : World) (a o : Obj) : ((w.alloc a).alloc o).blk (w.heap.size + 1) = some o := by rw [← size_al w a]; exact blk_new _ _
theorem blk_new2 (w : World) (a b o : Obj) : (((w.alloc a).alloc b).alloc o).blk (w.heap.size + 2) = some o := by
  rw [show w.heap.size + 2 = ((w.alloc a).alloc b).heap.size by rw [size_al, size_al]]; exact blk_new _ _
structure Kept (S : List Nat) (w w' : World) : Prop where
  os : w'.os = w.os
  tape : w'.tape = w.tape
  output : w'.output = w.output
  size : w.heap.size ≤ w'.heap.size
  block : ∀ b, b < w.heap.size → b ∉ S → (w'.blk b) = (w.blk b)

theorem lt_of_blk {w : World} {b : Nat} {o : Obj} (h : (w.blk b) = some o) : b < w.heap.size := by
  rcases Nat.lt_or_ge b w.heap.size with hlt | hge
  · exact hlt
  · unfold World.blk at h; rw [Array.getElem?_eq_none hge] at h; cases h
theorem Kept.refl (S : List Nat) (w : World) : Kept S w w := ⟨rfl, rfl, rfl, Nat.le_refl _, fun _ _ _ => rfl⟩
theorem Kept.trans {S : List Nat} {a b c : World} (h : Kept S a b) (k : Kept S b c) : Kept S a c :=
  ⟨k.os.trans h.os, k.tape.trans h.tape, k.output.trans h.output, Nat.le_trans h.size k.size,
   fun x hx hS => (k.block x (Nat.lt_of_lt_of_le hx h.size) hS).trans (h.block x hx hS)⟩
theorem Kept.blk {S : List Nat} {w w' : World} (h : Kept S w w') {b : Nat} {o : Obj} (hb : (w.blk b) = some o) (hS : b ∉ S) : (w'.blk b) = some o :=
  (h.block b (lt_of_blk hb) hS).trans hb
theorem Kept.drew {S : List Nat} {a w : World} (h : Kept S a w) : Kept S a w.drew := ⟨h.os, h.tape, h.output, h.size, h.block⟩
theorem Kept.drewN {S : List Nat} {a w : World} (h : Kept S a w) (n : Nat) : Kept S a (w.drewN n) := ⟨h.os, h.tape, h.output, h.size, h.block⟩
theorem Kept.undrew {S : List Nat} {a w : World} (h : Kept S a.drew w) : Kept S a w := ⟨h.os, h.tape, h.output, h.size, h.block⟩
theorem Kept.undrewN {S : List Nat} {a w : World} {n : Nat} (h : Kept S (a.drewN n) w) : Kept S a w := ⟨h.os, h.tape, h.output, h.size, h.block⟩
theorem Kept.alloc {S : List Nat} {a w : World} (h : Kept S a w) (o : Obj) : Kept S a (w.alloc o) :=
  ⟨h.os, h.tape, h.output, Nat.le_trans h.size (by simp), fun b hb hS => by
    have : b < w.heap.size := Nat.lt_of_lt_of_le hb h.size
    rw [heap_alloc, if_neg (fun e => by have := congrArg Addr.block e; simp at this; omega)]
    exact h.block b hb hS⟩
theorem Kept.setCell {S : List Nat} {a w : World} (h : Kept S a w) {p i : Nat} (v : Value) (hp : p ∈ S ∨ a.heap.size ≤ p) : Kept S a (w.setCell ⟨p, i, none⟩ v) :=
  ⟨h.os, h.tape, h.output, by simpa using h.size, fun b hb hS => by
    rw [heap_setCell, if_neg (fun e => by
      have := congrArg Addr.block e
      simp at this
      subst this
      rcases hp with hp | hp
      · exact hS hp
      · omega)]
    exact h.block b hb hS⟩
theorem Kept.mono {S T : List Nat} {a w : World} (h : Kept S a w) (hST : ∀ x ∈ S, x ∈ T ∨ a.heap.size ≤ x) : Kept T a w :=
  ⟨h.os, h.tape, h.output, h.size, fun b hb hT => h.block b hb (fun hS => by
    rcases hST b hS with h | h
    · exact hT h
    · omega)⟩

/-- the worlds behind calls that only make memory -/
def Later (w : World) : Type := { w' : World // Kept [] w w' }
instance (w : World) : Nonempty (Later w) := ⟨⟨w, Kept.refl _ _⟩⟩
theorem later_new {w : World} : (fun w' => ∃ u : Later w, w' = u.1) { w with drawn := w.drawn + 1 } := ⟨⟨_, (Kept.refl _ w).drew⟩, rfl⟩
theorem Later.blk {w : World} {b : Nat} {o : Obj} (h : w.blk b = some o) (u : Later w) : u.1.blk b = some o := u.2.blk h (by simp)
theorem later_of {P : Program} {w : World} {u : Later w} {f : FuncId} {args : Array Value} {v : Value} (h : Calls P f args u.1 fun e w' => e = .returned v ∧ Kept [] u.1 w') :
    Calls P f args u.1 fun e w'' => e = .returned v ∧ ∃ u' : Later w, w'' = u'.1 := h.mono fun _ w'' ⟨he, hk⟩ => ⟨he, ⟨w'', u.2.trans hk⟩, rfl⟩
theorem later_same {P : Program} {w : World} {u : Later w} {f : FuncId} {args : Array Value} {v : Value} (h : Calls P f args u.1 fun e w' => e = .returned v ∧ u.1 = w') :
    Calls P f args u.1 fun e w'' => e = .returned v ∧ ∃ u' : Later w, w'' = u'.1 := h.mono fun _ _ ⟨he, hk⟩ => ⟨he, u, hk.symm⟩
theorem wp_region_later {P : Program} {id : Nat} {Q : Exit → Act → World → Prop} {a : Act} {w : World} {l : List Oper} (hm : P.follows .mixedOrders = true) (hB : Region.lexB .any l.toArray = true)
    (h : wpQuiet P l.toArray (fun w' => ∃ u : Later w, w' = u.1) (fun a' => ∀ w', (∃ u : Later w, w' = u.1) → Q .normal a' w') l a) : (Code.region id l.toArray true).wp P Q a w :=
  wp_region_quiet (C := fun w' => ∃ u : Later w, w' = u.1) hm hB later_new (by simpa using h)
/-! slices that read as a list of cells -/
def Rd (w : World) (v : Value) (size n : Nat) (xs : List Value) : Prop :=
  ∃ A c, v = .slice A n c ∧ xs.length = n * size ∧ n ≤ c ∧ c ≤ maxLen ∧
    (0 < n → ∃ b o, A = some ⟨b, o, none⟩ ∧ b < w.heap.size ∧ ∀ j u, xs[j]? = some u → at? (w.blk b) (o + j) = some u)
def Off (v : Value) (S : List Nat) : Prop := ∀ b, v.ownBlock = some b → b ∉ S
def Fresh (w : World) (v : Value) : Prop := ∀ b, v.ownBlock = some b → w.heap.size ≤ b
theorem Off.nil (v : Value) : Off v [] := fun _ _ => by simp
theorem Off.of_fresh {w : World} {v : Value} {S : List Nat} (h : Fresh w v) (hS : ∀ b ∈ S, b < w.heap.size) : Off v S := fun b hb hm => by
  have := h b hb; have := hS b hm; omega
theorem cell_kept {S : List Nat} {w w' : World} (k : Kept S w w') {b i : Nat} (hb : b < w.heap.size) (hS : b ∉ S) : w'.cell? ⟨b, i, none⟩ = w.cell? ⟨b, i, none⟩ := by
  rw [cell_at, cell_at, k.block b hb hS]
theorem add_addr (b o j : Nat) : (⟨b, o, none⟩ : Addr).add j = ⟨b, o + j, none⟩ := by unfold Addr.add; split <;> simp_all

theorem Rd.keep {S : List Nat} {w w' : World} {v : Value} {size n : Nat} {xs : List Value} (h : Rd w v size n xs) (k : Kept S w w') (hS : Off v S) : Rd w' v size n xs := by
  obtain ⟨A, c, rfl, hl, h1, h2, h3⟩ := h
  refine ⟨A, c, rfl, hl, h1, h2, fun hn => ?_⟩
  obtain ⟨b, o, rfl, hb, hc⟩ := h3 hn
  exact ⟨b, o, rfl, Nat.lt_of_lt_of_le hb k.size, fun j u hu => by rw [k.block b hb (hS b (by simp [Value.ownBlock]))]; exact hc j u hu⟩
theorem Rd.keep0 {w w' : World} {v : Value} {size n : Nat} {xs : List Value} (h : Rd w v size n xs) (k : Kept [] w w') : Rd w' v size n xs := h.keep k (Off.nil _)
theorem Rd.nil (w : World) (size : Nat) : Rd w (.slice none 0 0) size 0 [] := ⟨none, 0, rfl, by simp, by omega, by simp [maxLen], fun h => by omega⟩
theorem Rd.of_own {w : World} {base : Nat} {e : TypeId} {size n : Nat} {v : Value} {xs : List Value} (h : w.ownsRow base e size v n xs) : Rd w v size n xs := by
  obtain ⟨hl, h | ⟨g, cap, cur, rfl, hb, hh, hn, hc, hs, ht⟩⟩ := h
  · obtain ⟨rfl, rfl⟩ := h
    have : xs = [] := List.eq_nil_of_length_eq_zero (by omega)
    subst this
    exact Rd.nil w size
  · refine ⟨_, _, rfl, hl, hn, hc, fun _ => ⟨g, 0, rfl, lt_of_blk hh, fun j u hu => ?_⟩⟩
    rw [show w.blk g = _ from hh, at_some, Nat.zero_add]
    have hj : j < xs.length := (List.getElem?_eq_some_iff.1 hu).1
    rw [← ht, List.getElem?_take] at hu
    split at hu
    · simpa using hu
    · cases hu
theorem Kept.of_grown {w w' : World} {row : Option Nat} (h : w.grownBy w' row) {S : List Nat} (hr : ∀ g, row = some g → g ∈ S ∨ w.heap.size ≤ g) : Kept S w w' :=
  ⟨h.os, h.tape, h.output, h.size, fun b hb hS => h.block b hb (fun e => by
    rcases hr b e.symm with h | h
    · exact hS h
    · omega)⟩
theorem Kept.step {S : List Nat} {a w w' : World} {row : Option Nat} (h : Kept S a w) (g : w.grownBy w' row) (hr : ∀ x, row = some x → x ∈ S ∨ a.heap.size ≤ x) : Kept S a w' :=
  ⟨g.os.trans h.os, g.tape.trans h.tape, g.output.trans h.output, Nat.le_trans h.size g.size, fun b hb hS =>
    (g.block b (Nat.lt_of_lt_of_le hb h.size) (fun e => by
      rcases hr b e.symm with h | h
      · exact hS h
      · omega)).trans (h.block b hb hS)⟩
theorem grown_blk {w w' : World} {row : Option Nat} (g : w.grownBy w' row) {b : Nat} {o : Obj} (h : w.blk b = some o) (hne : row ≠ some b) : w'.blk b = some o :=
  (g.block b (lt_of_blk h) (Ne.symm hne)).trans h
theorem Kept.below {w w' : World} (h : Kept [] w w') : Below w.heap.size w w' := ⟨h.os, h.tape, h.output, h.size, fun b hb => h.block b hb (by simp)⟩
theorem Kept.of_below {w w' : World} (h : Below w.heap.size w w') (S : List Nat) : Kept S w w' := ⟨h.os, h.tape, h.output, h.size, fun b hb _ => h.block b hb⟩

section
variable {P : Program}
theorem run_append_rd (w : World) (base : Nat) (t ty e : TypeId) (i : TypeInfo) (z : Value) (size bytes : Nat) (ht : P.underlying t = some (.slice e)) (hi : P.info? e = some i) (hz : i.zero = some z)
    (hsize : i.size = size) (hby : i.bytes = bytes) (hzs : z.cells.size = size) (hsz : 0 < size)
    (v : Value) (n : Nat) (xs : List Value) (hown : w.ownsRow base e size v n xs)
    (x : Value) (m : Nat) (news : List Value) (hx : Rd w x size m news) (h1 : ∀ u ∈ news, u.oneCell' = true)
    (h63 : n + m ≤ maxLen) (hbytes : (n + m) * bytes ≤ 140737488355328) (hbase : base ≤ w.heap.size) :
    ∃ v' w', (Builtin.append_ #[t, t] ty #[v, x]).run P w = .ok v' w' ∧ w'.ownsRow base e size v' (n + m) (xs ++ news) ∧ w.grownBy w' v.ownBlock ∧
      (v'.ownBlock = v.ownBlock ∨ v'.ownBlock = some w.heap.size) := by
  obtain ⟨A, c, rfl, hl, hmc, hcm, hr⟩ := hx
  rcases A with _ | ad
  · have hm : m = 0 := by
      rcases Nat.eq_zero_or_pos m with h0 | h0
      · exact h0
      · obtain ⟨b, o, h, _⟩ := hr h0
        cases h
    subst hm
    have hn : news = [] := List.eq_nil_of_length_eq_zero (by simpa using hl)
    subst hn
    refine ⟨v, w, ?_, by simpa using hown, World.grownBy.refl w _, .inl rfl⟩
    rcases hown.2 with ⟨rfl, rfl⟩ | ⟨g, cap, cur, rfl, _, _, hnc, _⟩
    · simp [Builtin.append_, run_underlying ht, sizeOf, typeInfo, hi, Builtin.lenOf, Builtin.firstCells]
    · simp [Builtin.append_, run_underlying ht, sizeOf, typeInfo, hi, Builtin.lenOf, Builtin.firstCells, hnc, storeCells]
  · have hcells : ∀ j u, news[j]? = some u → w.cell? (ad.add j) = some u := by
      intro j u hu
      rcases Nat.eq_zero_or_pos m with h0 | h0
      · subst h0
        have hn : news = [] := List.eq_nil_of_length_eq_zero (by simpa using hl)
        subst hn
        simp at hu
      · obtain ⟨b, o, h, _, hc⟩ := hr h0
        injection h with h
        subst h
        rw [add_addr, cell_at]
        exact hc j u hu
    obtain ⟨v', w', hrun, h2, h3, _, h5⟩ := run_append_own_at (P := P) w base t ty e i z size bytes ht hi hz hsize hby hzs hsz v n xs hown ad m c news hl hcells h1 h63 hbytes hbase
    exact ⟨v', w', hrun, h2, h3, h5⟩

theorem wp_append_rd (w : World) {o : Oper} {a : Act} {K : Act → World → Prop} {Q : Exit → Act → World → Prop} (s x : Operand) (t : TypeId)
    (ho : o.op = .call { callee := .builtin .append, args := #[s, x], argTypes := #[t, t] })
    (base : Nat) (e : TypeId) (i : TypeInfo) (z : Value) (size bytes : Nat) (ht : P.underlying t = some (.slice e)) (hi : P.info? e = some i) (hz : i.zero = some z)
    (hsize : i.size = size) (hby : i.bytes = bytes) (hzs : z.cells.size = size) (hsz : 0 < size)
    (v : Value) (n : Nat) (xs : List Value) (hs : a.eval s = v) (hown : w.ownsRow base e size v n xs)
    (xv : Value) (m : Nat) (news : List Value) (hx : a.eval x = xv) (hr : Rd w xv size m news) (h1 : ∀ u ∈ news, u.oneCell' = true)
    (h63 : n + m ≤ maxLen) (hbytes : (n + m) * bytes ≤ 140737488355328) (hbase : base ≤ w.heap.size)
    (h : ∀ v' w', w'.ownsRow base e size v' (n + m) (xs ++ news) → w.grownBy w' v.ownBlock → (v'.ownBlock = v.ownBlock ∨ v'.ownBlock = some w.heap.size) → K (a.put o.dst v') w') : o.wp P a w K Q := by
  obtain ⟨v', w', hrun, h2, h3, h4⟩ := run_append_rd (P := P) w base t o.type e i z size bytes ht hi hz hsize hby hzs hsz v n xs hown xv m news hr h1 h63 hbytes hbase
  unfold Oper.wp execOp
  simp only [ho, resolve, invoke, builtin, Sem.run_bind, Sem.run_pure, Result.andThen_ok, List.map_toArray, List.map_cons, List.map_nil, hs, hx, hrun]
  exact h v' w' h2 h3 h4

theorem wpList_append_rd {w : World} {ops : Array Oper} {rest : List Oper} {o : Oper} {a : Act} {Q : Exit → Act → World → Prop} (hgd : o.guard = none) (s x : Operand) (t : TypeId)
    (ho : o.op = .call { callee := .builtin .append, args := #[s, x], argTypes := #[t, t] })
    (base : Nat) (e : TypeId) (i : TypeInfo) (z : Value) (size bytes : Nat) (ht : P.underlying t = some (.slice e)) (hi : P.info? e = some i) (hz : i.zero = some z)
    (hsize : i.size = size) (hby : i.bytes = bytes) (hzs : z.cells.size = size) (hsz : 0 < size)
    (v : Value) (n : Nat) (xs : List Value) (hs : a.eval s = v) (hown : w.ownsRow base e size v n xs)
    (xv : Value) (m : Nat) (news : List Value) (hx : a.eval x = xv) (hr : Rd w xv size m news) (h1 : ∀ u ∈ news, u.oneCell' = true)
    (h63 : n + m ≤ maxLen) (hbytes : (n + m) * bytes ≤ 140737488355328) (hbase : base ≤ w.heap.size)
    (h : ∀ v' w', w'.ownsRow base e size v' (n + m) (xs ++ news) → w.grownBy w' v.ownBlock → (v'.ownBlock = v.ownBlock ∨ v'.ownBlock = some w.heap.size) → wpList P ops Q rest (a.put o.dst v') w') : wpList P ops Q (o :: rest) a w :=
  wpList_plain hgd fun _ hK => wp_append_rd w s x t ho base e i z size bytes ht hi hz hsize hby hzs hsz v n xs hs hown xv m news hx hr h1 h63 hbytes hbase fun v' w' h2 h3 h4 => hK _ _ (h v' w' h2 h3 h4)
end

def bv (c : UInt8) : Value := .int .u8 c.toNat
def cellsB (l : List UInt8) : Array Value := (l.map bv).toArray
theorem cellsB_get (l : List UInt8) (j : Nat) : (cellsB l)[j]? = (l[j]?).map bv := by simp [cellsB]
theorem cellsB_set (l : List UInt8) (j : Nat) (c : UInt8) : (cellsB l).setIfInBounds j (bv c) = cellsB (l.set j c) := by simp [cellsB, List.map_set]
theorem cellsB_size (l : List UInt8) : (cellsB l).size = l.length := by simp [cellsB]
def Byt (w : World) (v : Value) (l : List UInt8) : Prop := Rd w v 1 l.length (l.map bv)
theorem Byt.empty (w : World) (A : Option Addr) (c : Nat) (hc : c ≤ maxLen) : Byt w (.slice A 0 c) [] := ⟨A, c, rfl, rfl, Nat.zero_le _, hc, fun h => absurd h (Nat.lt_irrefl _)⟩
/-- an element that is there -/
theorem Byt.at_ {w : World} {A : Option Addr} {n c : Nat} {l : List UInt8} (h : Byt w (.slice A n c) l) (hn : 0 < n) :
    ∃ b o, A = some ⟨b, o, none⟩ ∧ b < w.heap.size ∧ l.length = n ∧ n ≤ c ∧ c ≤ maxLen ∧ ∀ j, (hj : j < n) → at? (w.blk b) (o + j) = some (bv (l.getD j 0)) := by
  obtain ⟨A', c', e, hl, h1, h2, h3⟩ := h
  injection e with e1 e2 e3
  subst e1 e2 e3
  obtain ⟨b, o, rfl, hb, hc⟩ := h3 hn
  refine ⟨b, o, rfl, hb, rfl, h1, h2, fun j hj => hc j _ ?_⟩
  rw [List.getElem?_map, List.getD_eq_getElem?_getD, List.getElem?_eq_getElem hj]; rfl
theorem Byt.form {w : World} {v : Value} {l : List UInt8} (h : Byt w v l) : ∃ A c, v = .slice A l.length c ∧ l.length ≤ c ∧ c ≤ maxLen := by
  obtain ⟨A, c, e, _, h1, h2, _⟩ := h; exact ⟨A, c, e, h1, h2⟩
theorem bv_one (l : List UInt8) : ∀ u ∈ l.map bv, u.oneCell' = true := by simp [bv, Value.oneCell']
end Go.Bj
