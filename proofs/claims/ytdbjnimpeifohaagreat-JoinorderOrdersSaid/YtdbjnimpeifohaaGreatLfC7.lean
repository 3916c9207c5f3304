/- lineagelaw39.JoinorderOrders: by its text, out of the contract of awake. -/
import Derived.Test.YtdbjnimpeifohaaGreatLfC30
set_option linter.all false
namespace Go.Lf
open Go.Proofs
def l7 : LFunc := ⟨1, 25, [(.tmp 2)],
  (.seq (.region false [
    ⟨(some 2), .mv, [c (vb false)], none, 0⟩] [0])
  (.seq (.seq (.region false [
    ⟨(some 5), .call, [c (.d (.fn 20 [] []))], none, 0⟩,
    ⟨(some 6), (.un .not), [t 5], none, 0⟩] [6, 0])
  (.cond (t 6)
   (.seq (.region false [
     ⟨(some 2), .mv, [c (vb false)], none, 0⟩] [2])
   .ret)
   .skip))
  (.seq (.region false [
    ⟨(some 3), .mv, [c (vi 0)], none, 0⟩] [0, 3])
  (.seq (.seq (.region false [
    ⟨(some 7), .mv, [t 0], none, 0⟩,
    ⟨(some 8), (.bin .geq), [t 7, c (vi 0)], none, 0⟩,
    ⟨(some 9), .mv, [t 8], none, 0⟩,
    ⟨(some 10), .mv, [t 0], (some (9, true)), 0⟩,
    ⟨(some 11), (.bin .leq), [t 10, c (vi 8)], (some (9, true)), 0⟩,
    ⟨(some 12), .pick, [t 9, t 11, c (vb false)], none, 0⟩] [12, 0, 3])
  (.cond (t 12)
   (.seq (.region false [
     ⟨(some 3), .mv, [c (vi 1)], none, 0⟩] [0, 3])
   (.seq (.region false [
     ⟨(some 4), .mv, [c (vi 2)], none, 0⟩] [4, 0, 3])
   (.block 0 (.loop (.seq (.seq (.region false [
     ⟨(some 13), .mv, [t 4], none, 0⟩,
     ⟨(some 14), .mv, [t 0], none, 0⟩,
     ⟨(some 15), (.bin .leq), [t 13, t 14], none, 0⟩] [15, 4, 0, 3])
   (.cond (t 15)
    .skip
    (.exit 0)))
   (.seq (.block 1 (.region false [
     ⟨(some 18), .mv, [t 3], none, 0⟩,
     ⟨(some 19), .mv, [t 4], none, 0⟩,
     ⟨(some 20), (.bin .mul), [t 18, t 19], none, 0⟩,
     ⟨(some 3), .mv, [t 20], none, 0⟩] [4, 0, 3]))
   (.region false [
     ⟨(some 16), .mv, [t 4], none, 0⟩,
     ⟨(some 17), (.bin .add), [t 16, c (vi 1)], none, 0⟩,
     ⟨(some 4), .mv, [t 17], none, 0⟩] [4, 0, 3]))) [4, 0, 3]))))
   .skip))
  (.seq (.region false [
    ⟨(some 21), .mv, [t 0], none, 0⟩,
    ⟨(some 22), .call, [c (.d (.fn 30 [] [])), t 21], none, 0⟩,
    ⟨(some 23), .mv, [t 3], none, 0⟩,
    ⟨(some 24), (.bin .eql), [t 22, t 23], none, 0⟩,
    ⟨(some 2), .mv, [t 24], none, 0⟩] [2])
  .ret)))))⟩
set_option maxRecDepth 1000000 in
theorem c7 : cFunc Tryz.prog Tryz.f7 = some l7 := by kernel_rfl
set_option linter.unusedSimpArgs false
noncomputable def fns (f : FuncId) : Option LFunc := (Tryz.prog.funcs[f]?).bind (cFunc Tryz.prog)
theorem fns_ok : FnsOk Tryz.prog fns := fun f lf h => by
  unfold fns at h
  obtain ⟨fn, h1, h2⟩ := Option.bind_eq_some_iff.1 h
  exact ⟨fn, h1, h2⟩
def prim7 : FuncId → List D → Option (List R) := fun f ds => match ds with
  | [] => bif Nat.beq f 20 then some [.d (db true)] else none
  | _ => none
set_option maxRecDepth 1000000 in
theorem key7_0 : runPure fns prim7 (fun _ => false) 30 7 [di 0] = some [.d (db true)] := by kernel_rfl
set_option maxRecDepth 1000000 in
theorem key7_1 : runPure fns prim7 (fun _ => false) 30 7 [di 1] = some [.d (db true)] := by kernel_rfl
set_option maxRecDepth 1000000 in
theorem key7_2 : runPure fns prim7 (fun _ => false) 30 7 [di 2] = some [.d (db true)] := by kernel_rfl
set_option maxRecDepth 1000000 in
theorem key7_3 : runPure fns prim7 (fun _ => false) 30 7 [di 3] = some [.d (db true)] := by kernel_rfl
set_option maxRecDepth 1000000 in
theorem key7_4 : runPure fns prim7 (fun _ => false) 30 7 [di 4] = some [.d (db true)] := by kernel_rfl
set_option maxRecDepth 1000000 in
theorem key7_5 : runPure fns prim7 (fun _ => false) 30 7 [di 5] = some [.d (db true)] := by kernel_rfl
set_option maxRecDepth 1000000 in
theorem key7_6 : runPure fns prim7 (fun _ => false) 30 7 [di 6] = some [.d (db true)] := by kernel_rfl
set_option maxRecDepth 1000000 in
theorem key7_7 : runPure fns prim7 (fun _ => false) 30 7 [di 7] = some [.d (db true)] := by kernel_rfl
set_option maxRecDepth 1000000 in
theorem key7_8 : runPure fns prim7 (fun _ => false) 30 7 [di 8] = some [.d (db true)] := by kernel_rfl
section
variable (hawake : PCall Tryz.prog 20 [] [.d (db true)])
include hawake
set_option maxRecDepth 10000
theorem prim7_ok : PrimOk Tryz.prog prim7 := fun f ds rs h => by
  cases ds with
  | nil =>
    have h : (bif Nat.beq f 20 then some [R.d (db true)] else none) = some rs := h
    have hh := cond_some h
    have e := beq_eq hh.1
    have e2 : [R.d (db true)] = rs := Option.some.inj hh.2
    rw [e, ← e2]
    exact hawake
  | cons a r => cases h
theorem in7 (n : Int) (h : 0 ≤ n ∧ n ≤ 8) : PCall Tryz.prog 7 [di n] [.d (db true)] := by
  have key : runPure fns prim7 (fun _ => false) 30 7 [di n] = some [.d (db true)] := by
    have : n = 0 ∨ n = 1 ∨ n = 2 ∨ n = 3 ∨ n = 4 ∨ n = 5 ∨ n = 6 ∨ n = 7 ∨ n = 8 := by omega
    rcases this with rfl | rfl | rfl | rfl | rfl | rfl | rfl | rfl | rfl
    · exact key7_0
    · exact key7_1
    · exact key7_2
    · exact key7_3
    · exact key7_4
    · exact key7_5
    · exact key7_6
    · exact key7_7
    · exact key7_8
  exact runPure_ok mixed fns_ok (prim7_ok hawake) key
noncomputable def pure7 (f : FuncId) : List D → Option (List R)
  | [] => bif Nat.beq f 20 then some [.d (db true)] else none
  | [.lit (.int .i64 m)] => bif Nat.beq f 30 && decide (m < 0 ∨ 8 < m) then some [.d (di 0)] else none
  | _ => none
noncomputable def ora7 : Ora := ⟨pure7, fun _ _ _ _ => none, fun _ => false⟩
theorem ora7_ok : OraOk Tryz.prog ora7 := by
  refine ⟨fun f ds rs h => ?_, fun _ _ _ _ _ _ _ h => (by cases h)⟩
  have h : pure7 f ds = some rs := h
  unfold pure7 at h
  split at h
  · have hh := cond_some h
    have e := beq_eq hh.1
    have e2 : [R.d (db true)] = rs := Option.some.inj hh.2
    rw [e, ← e2]
    exact hawake
  · have hh := cond_some h
    have h1 := hh.1
    simp only [Bool.and_eq_true, decide_eq_true_eq] at h1
    have e := beq_eq h1.1
    have e2 : [R.d (di 0)] = rs := Option.some.inj hh.2
    rw [e, ← e2]
    exact orders_out _ h1.2
  · cases h
attribute [local irreducible] litBin pure7
set_option maxHeartbeats 4000000 in
theorem out7 (n : Int) (h : n < 0 ∨ 8 < n) : PCall Tryz.prog 7 [di n] [.d (db true)] := by
  refine pcall_of_EX mixed (ora7_ok hawake) Tryz.func7 c7 rfl ?_
  unfold l7
  have k20 : ora7.pure 20 [] = some [.d (db true)] := by unfold ora7 pure7; rfl
  have k30 : ora7.pure 30 [di n] = some [.d (di 0)] := by unfold ora7 pure7; simp [h]
  have kf : litBin .eql (.int .i64 0) (.int .i64 0) = some (.bool true) := by unfold litBin; rfl
  refine seq_of (region_n (cons_n rfl (by simp only [params, List.map_cons, List.map_nil, nput_some, nput_none, nset_nil, nset_cons, nkeep_nil, nkeep_cons, nsets_nil, nsets_cons, List.mem_cons, List.not_mem_nil, Nat.reduceEqDiff, Nat.reduceLT, Nat.reduceAdd, Nat.reduceMul, if_true, if_false, or_false, or_true, false_or, true_or, tupled, intern, List.length_cons, List.length_nil, reduceCtorEq, Nat.lt_irrefl, List.append_nil]; rfl) (rfl)) (by simp only [params, List.map_cons, List.map_nil, nput_some, nput_none, nset_nil, nset_cons, nkeep_nil, nkeep_cons, nsets_nil, nsets_cons, List.mem_cons, List.not_mem_nil, Nat.reduceEqDiff, Nat.reduceLT, Nat.reduceAdd, Nat.reduceMul, if_true, if_false, or_false, or_true, false_or, true_or, tupled, intern, List.length_cons, List.length_nil, reduceCtorEq, Nat.lt_irrefl, List.append_nil]; rfl) ?_)
  dsimp only
  refine seq_of (seq_of (region_n (cons_n (exec1_call k20 rfl rfl rfl rfl rfl rfl) (by simp only [params, List.map_cons, List.map_nil, nput_some, nput_none, nset_nil, nset_cons, nkeep_nil, nkeep_cons, nsets_nil, nsets_cons, List.mem_cons, List.not_mem_nil, Nat.reduceEqDiff, Nat.reduceLT, Nat.reduceAdd, Nat.reduceMul, if_true, if_false, or_false, or_true, false_or, true_or, tupled, intern, List.length_cons, List.length_nil, reduceCtorEq, Nat.lt_irrefl, List.append_nil]; rfl) (cons_n rfl (by simp only [params, List.map_cons, List.map_nil, nput_some, nput_none, nset_nil, nset_cons, nkeep_nil, nkeep_cons, nsets_nil, nsets_cons, List.mem_cons, List.not_mem_nil, Nat.reduceEqDiff, Nat.reduceLT, Nat.reduceAdd, Nat.reduceMul, if_true, if_false, or_false, or_true, false_or, true_or, tupled, intern, List.length_cons, List.length_nil, reduceCtorEq, Nat.lt_irrefl, List.append_nil]; rfl) (rfl))) (by simp only [params, List.map_cons, List.map_nil, nput_some, nput_none, nset_nil, nset_cons, nkeep_nil, nkeep_cons, nsets_nil, nsets_cons, List.mem_cons, List.not_mem_nil, Nat.reduceEqDiff, Nat.reduceLT, Nat.reduceAdd, Nat.reduceMul, if_true, if_false, or_false, or_true, false_or, true_or, tupled, intern, List.length_cons, List.length_nil, reduceCtorEq, Nat.lt_irrefl, List.append_nil]; rfl) ?_))
  dsimp only
  refine cond_f rfl (skip_of ?_)
  dsimp only
  refine seq_of (region_n (cons_n rfl (by simp only [params, List.map_cons, List.map_nil, nput_some, nput_none, nset_nil, nset_cons, nkeep_nil, nkeep_cons, nsets_nil, nsets_cons, List.mem_cons, List.not_mem_nil, Nat.reduceEqDiff, Nat.reduceLT, Nat.reduceAdd, Nat.reduceMul, if_true, if_false, or_false, or_true, false_or, true_or, tupled, intern, List.length_cons, List.length_nil, reduceCtorEq, Nat.lt_irrefl, List.append_nil]; rfl) (rfl)) (by simp only [params, List.map_cons, List.map_nil, nput_some, nput_none, nset_nil, nset_cons, nkeep_nil, nkeep_cons, nsets_nil, nsets_cons, List.mem_cons, List.not_mem_nil, Nat.reduceEqDiff, Nat.reduceLT, Nat.reduceAdd, Nat.reduceMul, if_true, if_false, or_false, or_true, false_or, true_or, tupled, intern, List.length_cons, List.length_nil, reduceCtorEq, Nat.lt_irrefl, List.append_nil]; rfl) ?_)
  dsimp only
  rcases h with h | h
  · have h1 : litBin .geq (.int .i64 n) (.int .i64 0) = some (.bool false) := by rw [bin_geq]; simp; omega
    refine seq_of (seq_of (region_n (cons_n rfl (by simp only [params, List.map_cons, List.map_nil, nput_some, nput_none, nset_nil, nset_cons, nkeep_nil, nkeep_cons, nsets_nil, nsets_cons, List.mem_cons, List.not_mem_nil, Nat.reduceEqDiff, Nat.reduceLT, Nat.reduceAdd, Nat.reduceMul, if_true, if_false, or_false, or_true, false_or, true_or, tupled, intern, List.length_cons, List.length_nil, reduceCtorEq, Nat.lt_irrefl, List.append_nil]; rfl) (cons_n (exec1_bin h1 rfl rfl) (by simp only [params, List.map_cons, List.map_nil, nput_some, nput_none, nset_nil, nset_cons, nkeep_nil, nkeep_cons, nsets_nil, nsets_cons, List.mem_cons, List.not_mem_nil, Nat.reduceEqDiff, Nat.reduceLT, Nat.reduceAdd, Nat.reduceMul, if_true, if_false, or_false, or_true, false_or, true_or, tupled, intern, List.length_cons, List.length_nil, reduceCtorEq, Nat.lt_irrefl, List.append_nil]; rfl) (cons_n rfl (by simp only [params, List.map_cons, List.map_nil, nput_some, nput_none, nset_nil, nset_cons, nkeep_nil, nkeep_cons, nsets_nil, nsets_cons, List.mem_cons, List.not_mem_nil, Nat.reduceEqDiff, Nat.reduceLT, Nat.reduceAdd, Nat.reduceMul, if_true, if_false, or_false, or_true, false_or, true_or, tupled, intern, List.length_cons, List.length_nil, reduceCtorEq, Nat.lt_irrefl, List.append_nil]; rfl) (cons_n rfl (by simp only [params, List.map_cons, List.map_nil, nput_some, nput_none, nset_nil, nset_cons, nkeep_nil, nkeep_cons, nsets_nil, nsets_cons, List.mem_cons, List.not_mem_nil, Nat.reduceEqDiff, Nat.reduceLT, Nat.reduceAdd, Nat.reduceMul, if_true, if_false, or_false, or_true, false_or, true_or, tupled, intern, List.length_cons, List.length_nil, reduceCtorEq, Nat.lt_irrefl, List.append_nil]; rfl) (cons_n rfl (by simp only [params, List.map_cons, List.map_nil, nput_some, nput_none, nset_nil, nset_cons, nkeep_nil, nkeep_cons, nsets_nil, nsets_cons, List.mem_cons, List.not_mem_nil, Nat.reduceEqDiff, Nat.reduceLT, Nat.reduceAdd, Nat.reduceMul, if_true, if_false, or_false, or_true, false_or, true_or, tupled, intern, List.length_cons, List.length_nil, reduceCtorEq, Nat.lt_irrefl, List.append_nil]; rfl) (cons_n rfl (by simp only [params, List.map_cons, List.map_nil, nput_some, nput_none, nset_nil, nset_cons, nkeep_nil, nkeep_cons, nsets_nil, nsets_cons, List.mem_cons, List.not_mem_nil, Nat.reduceEqDiff, Nat.reduceLT, Nat.reduceAdd, Nat.reduceMul, if_true, if_false, or_false, or_true, false_or, true_or, tupled, intern, List.length_cons, List.length_nil, reduceCtorEq, Nat.lt_irrefl, List.append_nil]; rfl) (rfl))))))) (by simp only [params, List.map_cons, List.map_nil, nput_some, nput_none, nset_nil, nset_cons, nkeep_nil, nkeep_cons, nsets_nil, nsets_cons, List.mem_cons, List.not_mem_nil, Nat.reduceEqDiff, Nat.reduceLT, Nat.reduceAdd, Nat.reduceMul, if_true, if_false, or_false, or_true, false_or, true_or, tupled, intern, List.length_cons, List.length_nil, reduceCtorEq, Nat.lt_irrefl, List.append_nil]; rfl) ?_))
    dsimp only
    refine cond_f rfl (skip_of ?_)
    dsimp only
    refine seq_of (region_n (cons_n rfl (by simp only [params, List.map_cons, List.map_nil, nput_some, nput_none, nset_nil, nset_cons, nkeep_nil, nkeep_cons, nsets_nil, nsets_cons, List.mem_cons, List.not_mem_nil, Nat.reduceEqDiff, Nat.reduceLT, Nat.reduceAdd, Nat.reduceMul, if_true, if_false, or_false, or_true, false_or, true_or, tupled, intern, List.length_cons, List.length_nil, reduceCtorEq, Nat.lt_irrefl, List.append_nil]; rfl) (cons_n (exec1_call k30 rfl rfl rfl rfl rfl rfl) (by simp only [params, List.map_cons, List.map_nil, nput_some, nput_none, nset_nil, nset_cons, nkeep_nil, nkeep_cons, nsets_nil, nsets_cons, List.mem_cons, List.not_mem_nil, Nat.reduceEqDiff, Nat.reduceLT, Nat.reduceAdd, Nat.reduceMul, if_true, if_false, or_false, or_true, false_or, true_or, tupled, intern, List.length_cons, List.length_nil, reduceCtorEq, Nat.lt_irrefl, List.append_nil]; rfl) (cons_n rfl (by simp only [params, List.map_cons, List.map_nil, nput_some, nput_none, nset_nil, nset_cons, nkeep_nil, nkeep_cons, nsets_nil, nsets_cons, List.mem_cons, List.not_mem_nil, Nat.reduceEqDiff, Nat.reduceLT, Nat.reduceAdd, Nat.reduceMul, if_true, if_false, or_false, or_true, false_or, true_or, tupled, intern, List.length_cons, List.length_nil, reduceCtorEq, Nat.lt_irrefl, List.append_nil]; rfl) (cons_n (exec1_bin kf rfl rfl) (by simp only [params, List.map_cons, List.map_nil, nput_some, nput_none, nset_nil, nset_cons, nkeep_nil, nkeep_cons, nsets_nil, nsets_cons, List.mem_cons, List.not_mem_nil, Nat.reduceEqDiff, Nat.reduceLT, Nat.reduceAdd, Nat.reduceMul, if_true, if_false, or_false, or_true, false_or, true_or, tupled, intern, List.length_cons, List.length_nil, reduceCtorEq, Nat.lt_irrefl, List.append_nil]; rfl) (cons_n rfl (by simp only [params, List.map_cons, List.map_nil, nput_some, nput_none, nset_nil, nset_cons, nkeep_nil, nkeep_cons, nsets_nil, nsets_cons, List.mem_cons, List.not_mem_nil, Nat.reduceEqDiff, Nat.reduceLT, Nat.reduceAdd, Nat.reduceMul, if_true, if_false, or_false, or_true, false_or, true_or, tupled, intern, List.length_cons, List.length_nil, reduceCtorEq, Nat.lt_irrefl, List.append_nil]; rfl) (rfl)))))) (by simp only [params, List.map_cons, List.map_nil, nput_some, nput_none, nset_nil, nset_cons, nkeep_nil, nkeep_cons, nsets_nil, nsets_cons, List.mem_cons, List.not_mem_nil, Nat.reduceEqDiff, Nat.reduceLT, Nat.reduceAdd, Nat.reduceMul, if_true, if_false, or_false, or_true, false_or, true_or, tupled, intern, List.length_cons, List.length_nil, reduceCtorEq, Nat.lt_irrefl, List.append_nil]; rfl) ?_)
    exact ⟨.inr rfl, _, rfl, rfl⟩
  · have h1 : litBin .geq (.int .i64 n) (.int .i64 0) = some (.bool true) := by rw [bin_geq]; simp; omega
    have h2 : litBin .leq (.int .i64 n) (.int .i64 8) = some (.bool false) := by rw [bin_leq]; simp; omega
    refine seq_of (seq_of (region_n (cons_n rfl (by simp only [params, List.map_cons, List.map_nil, nput_some, nput_none, nset_nil, nset_cons, nkeep_nil, nkeep_cons, nsets_nil, nsets_cons, List.mem_cons, List.not_mem_nil, Nat.reduceEqDiff, Nat.reduceLT, Nat.reduceAdd, Nat.reduceMul, if_true, if_false, or_false, or_true, false_or, true_or, tupled, intern, List.length_cons, List.length_nil, reduceCtorEq, Nat.lt_irrefl, List.append_nil]; rfl) (cons_n (exec1_bin h1 rfl rfl) (by simp only [params, List.map_cons, List.map_nil, nput_some, nput_none, nset_nil, nset_cons, nkeep_nil, nkeep_cons, nsets_nil, nsets_cons, List.mem_cons, List.not_mem_nil, Nat.reduceEqDiff, Nat.reduceLT, Nat.reduceAdd, Nat.reduceMul, if_true, if_false, or_false, or_true, false_or, true_or, tupled, intern, List.length_cons, List.length_nil, reduceCtorEq, Nat.lt_irrefl, List.append_nil]; rfl) (cons_n rfl (by simp only [params, List.map_cons, List.map_nil, nput_some, nput_none, nset_nil, nset_cons, nkeep_nil, nkeep_cons, nsets_nil, nsets_cons, List.mem_cons, List.not_mem_nil, Nat.reduceEqDiff, Nat.reduceLT, Nat.reduceAdd, Nat.reduceMul, if_true, if_false, or_false, or_true, false_or, true_or, tupled, intern, List.length_cons, List.length_nil, reduceCtorEq, Nat.lt_irrefl, List.append_nil]; rfl) (cons_n rfl (by simp only [params, List.map_cons, List.map_nil, nput_some, nput_none, nset_nil, nset_cons, nkeep_nil, nkeep_cons, nsets_nil, nsets_cons, List.mem_cons, List.not_mem_nil, Nat.reduceEqDiff, Nat.reduceLT, Nat.reduceAdd, Nat.reduceMul, if_true, if_false, or_false, or_true, false_or, true_or, tupled, intern, List.length_cons, List.length_nil, reduceCtorEq, Nat.lt_irrefl, List.append_nil]; rfl) (cons_n (exec1_bin h2 rfl rfl) (by simp only [params, List.map_cons, List.map_nil, nput_some, nput_none, nset_nil, nset_cons, nkeep_nil, nkeep_cons, nsets_nil, nsets_cons, List.mem_cons, List.not_mem_nil, Nat.reduceEqDiff, Nat.reduceLT, Nat.reduceAdd, Nat.reduceMul, if_true, if_false, or_false, or_true, false_or, true_or, tupled, intern, List.length_cons, List.length_nil, reduceCtorEq, Nat.lt_irrefl, List.append_nil]; rfl) (cons_n rfl (by simp only [params, List.map_cons, List.map_nil, nput_some, nput_none, nset_nil, nset_cons, nkeep_nil, nkeep_cons, nsets_nil, nsets_cons, List.mem_cons, List.not_mem_nil, Nat.reduceEqDiff, Nat.reduceLT, Nat.reduceAdd, Nat.reduceMul, if_true, if_false, or_false, or_true, false_or, true_or, tupled, intern, List.length_cons, List.length_nil, reduceCtorEq, Nat.lt_irrefl, List.append_nil]; rfl) (rfl))))))) (by simp only [params, List.map_cons, List.map_nil, nput_some, nput_none, nset_nil, nset_cons, nkeep_nil, nkeep_cons, nsets_nil, nsets_cons, List.mem_cons, List.not_mem_nil, Nat.reduceEqDiff, Nat.reduceLT, Nat.reduceAdd, Nat.reduceMul, if_true, if_false, or_false, or_true, false_or, true_or, tupled, intern, List.length_cons, List.length_nil, reduceCtorEq, Nat.lt_irrefl, List.append_nil]; rfl) ?_))
    dsimp only
    refine cond_f rfl (skip_of ?_)
    dsimp only
    refine seq_of (region_n (cons_n rfl (by simp only [params, List.map_cons, List.map_nil, nput_some, nput_none, nset_nil, nset_cons, nkeep_nil, nkeep_cons, nsets_nil, nsets_cons, List.mem_cons, List.not_mem_nil, Nat.reduceEqDiff, Nat.reduceLT, Nat.reduceAdd, Nat.reduceMul, if_true, if_false, or_false, or_true, false_or, true_or, tupled, intern, List.length_cons, List.length_nil, reduceCtorEq, Nat.lt_irrefl, List.append_nil]; rfl) (cons_n (exec1_call k30 rfl rfl rfl rfl rfl rfl) (by simp only [params, List.map_cons, List.map_nil, nput_some, nput_none, nset_nil, nset_cons, nkeep_nil, nkeep_cons, nsets_nil, nsets_cons, List.mem_cons, List.not_mem_nil, Nat.reduceEqDiff, Nat.reduceLT, Nat.reduceAdd, Nat.reduceMul, if_true, if_false, or_false, or_true, false_or, true_or, tupled, intern, List.length_cons, List.length_nil, reduceCtorEq, Nat.lt_irrefl, List.append_nil]; rfl) (cons_n rfl (by simp only [params, List.map_cons, List.map_nil, nput_some, nput_none, nset_nil, nset_cons, nkeep_nil, nkeep_cons, nsets_nil, nsets_cons, List.mem_cons, List.not_mem_nil, Nat.reduceEqDiff, Nat.reduceLT, Nat.reduceAdd, Nat.reduceMul, if_true, if_false, or_false, or_true, false_or, true_or, tupled, intern, List.length_cons, List.length_nil, reduceCtorEq, Nat.lt_irrefl, List.append_nil]; rfl) (cons_n (exec1_bin kf rfl rfl) (by simp only [params, List.map_cons, List.map_nil, nput_some, nput_none, nset_nil, nset_cons, nkeep_nil, nkeep_cons, nsets_nil, nsets_cons, List.mem_cons, List.not_mem_nil, Nat.reduceEqDiff, Nat.reduceLT, Nat.reduceAdd, Nat.reduceMul, if_true, if_false, or_false, or_true, false_or, true_or, tupled, intern, List.length_cons, List.length_nil, reduceCtorEq, Nat.lt_irrefl, List.append_nil]; rfl) (cons_n rfl (by simp only [params, List.map_cons, List.map_nil, nput_some, nput_none, nset_nil, nset_cons, nkeep_nil, nkeep_cons, nsets_nil, nsets_cons, List.mem_cons, List.not_mem_nil, Nat.reduceEqDiff, Nat.reduceLT, Nat.reduceAdd, Nat.reduceMul, if_true, if_false, or_false, or_true, false_or, true_or, tupled, intern, List.length_cons, List.length_nil, reduceCtorEq, Nat.lt_irrefl, List.append_nil]; rfl) (rfl)))))) (by simp only [params, List.map_cons, List.map_nil, nput_some, nput_none, nset_nil, nset_cons, nkeep_nil, nkeep_cons, nsets_nil, nsets_cons, List.mem_cons, List.not_mem_nil, Nat.reduceEqDiff, Nat.reduceLT, Nat.reduceAdd, Nat.reduceMul, if_true, if_false, or_false, or_true, false_or, true_or, tupled, intern, List.length_cons, List.length_nil, reduceCtorEq, Nat.lt_irrefl, List.append_nil]; rfl) ?_)
    exact ⟨.inr rfl, _, rfl, rfl⟩
theorem call7 (n : Int) : PCall Tryz.prog 7 [di n] [.d (db true)] := by
  by_cases h : 0 ≤ n ∧ n ≤ 8
  · exact in7 hawake n h
  · exact out7 hawake n (by omega)
end
end Go.Lf
