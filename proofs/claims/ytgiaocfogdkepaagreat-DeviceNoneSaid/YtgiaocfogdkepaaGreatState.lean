import Derived.Test.YtgiaocfogdkepaaGreatKit
namespace Go.Bj
open Go Go.RowKit Proofs

structure CommitS where
  slot : Int
  version : Nat
  floor : Nat
  length : Int
  measure : List UInt8
structure CheckS where
  slot : Int
  block : Int
  offset : Int
  done : Int
  id : List UInt8
  mid : List UInt8
structure StateS where
  commit : CommitS
  has : Bool
  check : CheckS
def zeros (n : Nat) : List UInt8 := List.replicate n 0
def commitZ : CommitS := ⟨0, 0, 0, 0, zeros 64⟩
def checkZ : CheckS := ⟨0, 0, 0, 0, zeros 8, []⟩
def commitC (c : CommitS) : List Value := [.int .i64 c.slot, .int .u64 c.version, .int .u64 c.floor, .int .i64 c.length] ++ c.measure.map bv
def checkC (k : CheckS) (midv : Value) : List Value := [.int .i64 k.slot, .int .i64 k.block, .int .i64 k.offset, .int .i64 k.done] ++ k.id.map bv ++ [midv]
def stateC (s : StateS) (midv : Value) : List Value := commitC s.commit ++ [.bool s.has] ++ checkC s.check midv
abbrev stateV (s : StateS) (midv : Value) : Value := .agg (stateC s midv).toArray
def blankS : StateS := ⟨⟨-1, 0, 0, 0, zeros 64⟩, false, checkZ⟩
def nilV : Value := .slice none 0 0
theorem info_state : (Tryz.prog.info? 66).map (·.size) = some 82 := by kernel_rfl
theorem bvs_one (l : List UInt8) : AllOne (l.map bv) := bv_one l
theorem AllOne.append {a b : List Value} (ha : AllOne a) (hb : AllOne b) : AllOne (a ++ b) := fun v hv => by
  rcases List.mem_append.1 hv with h | h
  · exact ha v h
  · exact hb v h
theorem AllOne.nil : AllOne [] := fun _ h => by cases h
theorem AllOne.cons {v : Value} {a : List Value} (hv : v.oneCell' = true) (ha : AllOne a) : AllOne (v :: a) := fun u hu => by
  rcases List.mem_cons.1 hu with h | h
  · subst h; exact hv
  · exact ha u h
theorem commit_one (c : CommitS) : AllOne (commitC c) := (AllOne.cons rfl (AllOne.cons rfl (AllOne.cons rfl (AllOne.cons rfl AllOne.nil)))).append (bvs_one _)
theorem check_one (c : CheckS) {v : Value} (hv : v.oneCell' = true) : AllOne (checkC c v) := ((AllOne.cons rfl (AllOne.cons rfl (AllOne.cons rfl (AllOne.cons rfl AllOne.nil)))).append (bvs_one _)).append (AllOne.cons hv AllOne.nil)
theorem state_one (s : StateS) {v : Value} (hv : v.oneCell' = true) : AllOne (stateC s v) := ((commit_one _).append (AllOne.cons rfl AllOne.nil)).append (check_one _ hv)
theorem blank_one : AllOne (stateC blankS nilV).toArray.toList := state_one _ rfl
/-- the arrays have their lengths -/
structure StateOk (s : StateS) : Prop where
  m : s.commit.measure.length = 64
  i : s.check.id.length = 8
theorem stateC_length {s : StateS} (h : StateOk s) (v : Value) : (stateC s v).length = 82 := by
  simp [stateC, commitC, checkC, h.m, h.i]
def stateF (s : StateS) : List Value := commitC s.commit ++ [.bool s.has] ++ ([.int .i64 s.check.slot, .int .i64 s.check.block, .int .i64 s.check.offset, .int .i64 s.check.done] ++ s.check.id.map bv)
theorem stateC_split (s : StateS) (v : Value) : stateC s v = stateF s ++ [v] := by
  simp [stateC, checkC, stateF]
theorem stateC_front {s : StateS} (h : StateOk s) : (stateF s).length = 81 := by
  simp [stateF, commitC, h.m, h.i]
theorem stateC_mid {s : StateS} (h : StateOk s) (v : Value) : (stateC s v)[81]? = some v := by
  rw [stateC_split, List.getElem?_append_right (by rw [stateC_front h]; omega), stateC_front h]; rfl
theorem stateC_setMid {s : StateS} (h : StateOk s) (v u : Value) : (stateC s v).set 81 u = stateC s u := by
  rw [stateC_split, stateC_split, List.set_append_right _ _ (by rw [stateC_front h]; omega), stateC_front h]; rfl
theorem blank_ok : StateOk blankS := ⟨by simp [blankS, zeros], by simp [blankS, checkZ, zeros]⟩
theorem size_info_state {s : StateS} (h : StateOk s) (v : Value) : (Tryz.prog.info? 66).map (·.size) = some (stateC s v).toArray.size := by
  rw [info_state]; simp [stateC_length h]
theorem zero_state : (Tryz.zeroCells66).size = 82 := by kernel_rfl
end Go.Bj
