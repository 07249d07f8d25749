import Derived.Test.YtgiaocfogdkepaaGreatCells
namespace Go.Bj
open Go Go.RowKit Proofs
attribute [local go_sem] cell_at frozen_at at_some fz_some setAt_some heap_setCell heap_alloc heap_drew heap_drewN
section
variable {P : Program}
theorem wp_store_seg {w : World} {o : Oper} {a : Act} {K : Act → World → Prop} {Q : Exit → Act → World → Prop} (ty : TypeId) (x y : Operand) (ho : o.op = .store ty x y)
    (g off : Nat) (hx : a.eval x = .pointer (some ⟨g, off, none⟩)) (vs : Array Value) (hy : a.eval y = .agg vs) {t : TypeId} {cs : Array Value} (hg : w.blk g = some (.cells cs t (0, 0)))
    {n : Nat} (hi : (P.info? ty).map (·.size) = some n) (hs : vs.size = n) (hn : off + n ≤ cs.size) (h1 : AllOne vs.toList)
    (h : K (a.put o.dst undef) (w.putSeg g off vs.toList)) : o.wp P a w K Q := by
  cases hq : P.info? ty with
  | none => simp [hq] at hi
  | some i =>
    have hs' : i.size = n := by simpa [hq] using hi
    have hst : (storeCells ⟨g, off, none⟩ vs.toList 0).run P w = .ok () (w.putSeg g off vs.toList) := by
      rw [run_storeCells_at (P := P) g off t vs.toList 0 cs w hg (by simp; omega) h1, putSeg_eq_setRow w g off vs.toList cs t (0, 0) hg]
      rfl
    unfold Oper.wp execOp
    simp only [ho, hx, hy, Instr.storeAt, Instr.sureAddr, storeVar, Sem.run_bind, Sem.run_pure, Result.andThen_ok]
    simp [sizeOf, typeInfo, hq, hs', Value.cells, hs, Sem.run_bind, hst]
    exact h
/-- the same, in a region that draws -/
theorem step_store_seg {w : World} {ops : Array Oper} {o : Oper} {a : Act} {K : Act → World → Prop} {Q : Exit → Act → World → Prop} {E : Prop} (hgd : o.guard = none) (ty : TypeId) (x y : Operand) (ho : o.op = .store ty x y)
    (g off : Nat) (hx : a.eval x = .pointer (some ⟨g, off, none⟩)) (vs : Array Value) (hy : a.eval y = .agg vs) {t : TypeId} {cs : Array Value} (hg : w.blk g = some (.cells cs t (0, 0)))
    {n : Nat} (hi : (P.info? ty).map (·.size) = some n) (hs : vs.size = n) (hn : off + n ≤ cs.size) (h1 : AllOne vs.toList)
    (h : K (a.put o.dst undef) (w.putSeg g off vs.toList)) : if Region.wanted o (yielded ops a.tmps) = true then Oper.wp P o a w K Q else E := by
  rw [if_pos (by simp [Region.wanted, hgd])]
  exact wp_store_seg ty x y ho g off hx vs hy hg hi hs hn h1 h
end
theorem run_field_agg {P : Program} {t ty : TypeId} {fs : Array Field} {i off n : Nat} {d : TypeDesc} (cs : Array Value) (hu : P.underlying t = some (.struct fs)) (hf : (fs[i]?).map (fun f => (f.type, f.offset)) = some (ty, off))
    (hd : P.underlying ty = some d) (ha : (match d with | .struct _ | .array _ _ => true | _ => false) = true) (hn : (P.info? ty).map (·.size) = some n) (w : World) :
    (Instr.field t (.agg cs) i).run P w = .ok (.agg (cs.extract off (off + n))) w := by
  cases hq : fs[i]? with
  | none => simp [hq] at hf
  | some f =>
    simp only [hq, Option.map_some, Option.some.injEq, Prod.mk.injEq] at hf
    obtain ⟨rfl, rfl⟩ := hf
    cases hi : P.info? f.type with
    | none => simp [hi] at hn
    | some ii =>
      have hs : ii.size = n := by simpa [hi] using hn
      have hagg : (isAgg f.type).run P w = .ok true w := by
        unfold isAgg
        rw [Sem.run_bind, run_underlying hd w]
        cases d <;> simp_all
      simp [Instr.field, run_underlying hu, hq, part, Sem.run_bind, hagg, sizeOf, typeInfo, hi, hs, asAgg]
theorem run_state_commit (s : StateS) (h : StateOk s) (v : Value) (w : World) : (Instr.field 66 (stateV s v) 0).run Tryz.prog w = .ok (.agg (commitC s.commit).toArray) w := by
  rw [run_field_agg (ty := 61) (off := 0) (n := 68) (stateC s v).toArray Tryz.underlying66 rfl Tryz.underlying61 rfl (by kernel_rfl) w]
  congr 2
  have : (commitC s.commit).length = 68 := by simp [commitC, h.m]
  apply Array.toList_inj.1
  simp [stateC, this]
theorem info_commit : (Tryz.prog.info? 61).map (·.size) = some 68 := by kernel_rfl
theorem zero_commit : (Tryz.zeroCells61).size = 68 := by kernel_rfl
theorem commit_len {c : CommitS} (h : c.measure.length = 64) : (commitC c).length = 68 := by simp [commitC, h]
set_option maxRecDepth 100000 in
set_option maxHeartbeats 2000000 in
theorem commit_blank {w : World} {p pb pe : Nat} {F : FlashS} (h : FlashAt w p pb pe F) (hF : BlankFlash F) (A : Option Addr) (nk c : Nat) (slots : Int) (hf : fitsB nk slots F.er.length = true) :
    Calls Tryz.prog 132 #[.pointer (some ⟨p, 0, none⟩), cfgV (.slice A nk c) slots] w fun e w' => e = .returned (.tuple #[.agg (commitC blankS.commit).toArray, .int .i64 0]) ∧ Kept [] w w' := by
  have hnk : nk ≤ 8 := by simp only [fitsB, rightB, Bool.and_eq_true, decide_eq_true_iff] at hf; omega
  have HS := fun W (K : Kept [] w W) => Lib.hid (slot_yes (h.keep0 K) A nk c slots (by omega) hf 0 (by omega))
  have HO := fun W (K : Kept [] w W) => Lib.hid (of_yes (h.keep0 K) 0 2 (by have := hF.ge; omega))
  have HL := fun W (K : Kept [] w W) => Lib.hid (ledger_open_blank (h.keep0 K) hF)
  clear h hF hf
  have hcm := fun v W => run_state_commit blankS blank_ok v W
  unfold cfgV regV at *
  go_enter Tryz.func132, Tryz.ntmps132
  go_wp2_with (first
    | (go_at_call 72
       refine (HS _ (((Kept.refl _ _).alloc _).alloc _)).out.mono ?_
       rintro e w1 ⟨rfl, hk⟩
       have hk1 : Kept [] w w1 := (((Kept.refl _ _).alloc _).alloc _).trans hk
       have hb1 := hk.blk (blk_new1 _ _ _) (by simp))
    | (go_at_call 146
       refine (HO _ (hk1.alloc _)).out.mono ?_
       rintro e w2 ⟨rfl, hk2⟩
       have hk2' : Kept [] w w2 := (hk1.alloc _).trans hk2
       have hb2 := hk2.blk ((blk_old (lt_of_blk hb1)).trans hb1) (by simp))
    | (go_at_call 147
       refine (HL _ (hk2'.alloc _)).out.mono ?_
       rintro e w3 ⟨pg, pj, rfl, hpg, hL, hk3⟩
       have hk3' : Kept [] w w3 := (hk2'.alloc _).trans hk3
       have hb3 := hk3.blk ((blk_old (lt_of_blk hb2)).trans hb2) (by simp))
    | (go_at_call 161
       refine (ledger_state hL (by simp [blankS, checkZ])).mono ?_
       rintro e w4 ⟨v, rfl, ho, hk4⟩
       have hb4 := hk4.blk hb3 (by simp))
    | (refine wpList_store_all rfl _ _ _ rfl _ rfl (commitC blankS.commit) rfl hb4 info_commit (commit_len blank_ok.m) zero_commit (commit_one _) ?_
       intro w5 hb5 ho5 hz5 hk5))
  refine bodyPost_ret (v := .tuple #[.agg (commitC blankS.commit).toArray, .int .i64 0]) ?_ rfl ⟨rfl, hk5 _ _ (hk3'.trans hk4) (.inr (by omega))⟩
  have := run_loadVar_row (P := Tryz.prog) w5 (w.heap.size + 1) _ 61 _ _ _ hb5 Tryz.underlying61 rfl (by rw [info_commit]; simp [commit_len blank_ok.m])
  simp [results, Tryz.results132, this, asAddr]

theorem info_arr64 : (Tryz.prog.info? 35).map (·.size) = some 64 := by kernel_rfl
def arrV (l : List UInt8) : Value := .agg (l.map bv).toArray
set_option maxRecDepth 100000 in
set_option maxHeartbeats 2000000 in
theorem run_blank {w : World} {p pb pe : Nat} {F : FlashS} (h : FlashAt w p pb pe F) (hF : BlankFlash F) (A : Option Addr) (nk c : Nat) (slots : Int) (hf : fitsB nk slots F.er.length = true) :
    Calls Tryz.prog 48 #[.pointer (some ⟨p, 0, none⟩), cfgV (.slice A nk c) slots] w fun e w' => e = .returned (.tuple #[.int .i64 (-1), arrV (zeros 64), .int .i64 13]) ∧ Kept [] w w' := by
  have HC := fun W (K : Kept [] w W) => Lib.hid (commit_blank (h.keep0 K) hF A nk c slots hf)
  clear h hF hf
  have h0 : (commitC blankS.commit)[0]? = some (.int .i64 (-1)) := rfl
  unfold cfgV at *
  go_enter Tryz.func48, Tryz.ntmps48
  go_wp2_with (first
    | (go_at_call 132
       refine (HC _ (((Kept.refl _ _).alloc _).alloc _)).out.mono ?_
       rintro e w1 ⟨rfl, hk⟩
       have hk1 : Kept [] w w1 := (((Kept.refl _ _).alloc _).alloc _).trans hk
       have hb1 := hk.blk (blk_new1 _ _ _) (by simp))
    | (refine wpList_store_all rfl _ _ _ rfl _ rfl (commitC blankS.commit) rfl (blk_new _ _) info_commit (commit_len blank_ok.m) zero_commit (commit_one _) ?_
       intro w2 hb2 ho2 hz2 hk2
       have hb3 := (ho2 (w.heap.size + 1) (by have := lt_of_blk hb1; omega)).trans ((blk_old (lt_of_blk hb1)).trans hb1))
    | (refine wpList_store_all rfl _ _ _ rfl _ rfl ((zeros 64).map bv) (by kernel_rfl) hb3 info_arr64 (by simp [zeros]) (by kernel_rfl) (bvs_one _) ?_
       intro w4 hb4 ho4 hz4 hk4))
  refine bodyPost_ret (v := .tuple #[.int .i64 (-1), arrV (zeros 64), .int .i64 13]) ?_ rfl ⟨rfl, hk4 _ _ (hk2 _ _ (hk1.alloc _) (.inr hk1.size)) (.inr (by omega))⟩
  have := run_loadVar_row (P := Tryz.prog) w4 (w.heap.size + 1) _ 35 _ _ _ hb4 Tryz.underlying35 rfl (by rw [info_arr64]; simp [zeros])
  simp [results, Tryz.results48, this, asAddr, arrV]

end Go.Bj
