/- joinorder.Orders: by its text. -/
import Derived.Test.YtdbjnimpeifohaaGreatRows
import Derived.Test.YtdbjnimpeifohaaGreatLfM3
import Derived.KernelRfl
set_option linter.all false
namespace Go.Lf
open Go.Proofs
abbrev t (i : Nat) : Arg := .t i
abbrev c (v : V) : Arg := .c v
abbrev di (n : Int) : D := .lit (.int .i64 n)
abbrev db (b : Bool) : D := .lit (.bool b)
abbrev vi (n : Int) : V := .d (.lit (.int .i64 n))
abbrev vb (b : Bool) : V := .d (.lit (.bool b))
theorem mixed : Tryz.prog.follows .mixedOrders = true := by kernel_rfl
def l30 : LFunc := ⟨1, 21, [(.tmp 2)],
  (.seq (.region false [
    ⟨(some 2), .mv, [c (vi 0)], none, 0⟩] [0])
  (.seq (.seq (.region false [
    ⟨(some 5), .mv, [t 0], none, 0⟩,
    ⟨(some 6), (.bin .lss), [t 5, c (vi 0)], none, 0⟩,
    ⟨(some 7), .mv, [t 6], none, 0⟩,
    ⟨(some 8), .mv, [t 0], (some (7, false)), 0⟩,
    ⟨(some 9), (.bin .gtr), [t 8, c (vi 8)], (some (7, false)), 0⟩,
    ⟨(some 10), .pick, [t 7, c (vb true), t 9], none, 0⟩] [10, 0])
  (.cond (t 10)
   (.seq (.region false [
     ⟨(some 2), .mv, [c (vi 0)], none, 0⟩] [2])
   .ret)
   .skip))
  (.seq (.region false [
    ⟨(some 3), .mv, [c (vi 1)], none, 0⟩] [0, 3])
  (.seq (.seq (.region false [
    ⟨(some 11), .mv, [t 0], none, 0⟩,
    ⟨(some 12), .mv, [c (vi 0)], none, 0⟩] [11, 12, 3])
  (.block 0 (.loop (.seq (.region false [
    ⟨(some 13), (.bin .lss), [t 12, t 11], none, 0⟩] [13, 11, 12, 3])
  (.seq (.cond (t 13)
   .skip
   (.exit 0))
  (.seq (.block 1 (.seq (.region false [
    ⟨(some 14), .mv, [t 12], none, 0⟩,
    ⟨(some 4), .mv, [t 14], none, 0⟩] [3, 4, 12, 11])
  (.region false [
    ⟨(some 15), .mv, [t 3], none, 0⟩,
    ⟨(some 16), .mv, [t 4], none, 0⟩,
    ⟨(some 17), (.bin .add), [t 16, c (vi 1)], none, 0⟩,
    ⟨(some 18), (.bin .mul), [t 15, t 17], none, 0⟩,
    ⟨(some 3), .mv, [t 18], none, 0⟩] [12, 11, 3])))
  (.region false [
    ⟨(some 19), (.bin .add), [t 12, c (vi 1)], none, 0⟩,
    ⟨(some 12), .mv, [t 19], none, 0⟩] [11, 12, 3])))) [11, 12, 3])))
  (.seq (.region false [
    ⟨(some 20), .mv, [t 3], none, 0⟩,
    ⟨(some 2), .mv, [t 20], none, 0⟩] [2])
  .ret)))))⟩
set_option maxRecDepth 1000000 in
theorem c30 : cFunc Tryz.prog Tryz.f30 = some l30 := by kernel_rfl

theorem bin_lss (a b : Int) : litBin .lss (.int .i64 a) (.int .i64 b) = some (.bool (decide (a < b))) := rfl
theorem bin_gtr (a b : Int) : litBin .gtr (.int .i64 a) (.int .i64 b) = some (.bool (decide (b < a))) := rfl
theorem bin_leq (a b : Int) : litBin .leq (.int .i64 a) (.int .i64 b) = some (.bool (decide (a ≤ b))) := rfl
theorem bin_geq (a b : Int) : litBin .geq (.int .i64 a) (.int .i64 b) = some (.bool (decide (b ≤ a))) := rfl

attribute [local irreducible] litBin
theorem orders_out (n : Int) (h : n < 0 ∨ 8 < n) : PCall Tryz.prog 30 [di n] [.d (di 0)] := by
  refine pcall_of_EX mixed (noOra_ok _) Tryz.func30 c30 rfl ?_
  unfold l30
  rcases h with h | h
  · have h1 : litBin .lss (.int .i64 n) (.int .i64 0) = some (.bool true) := by rw [bin_lss]; simp [h]
    refine seq_of (region_of rfl ?_)
    dsimp only
    refine seq_of (seq_of (region_of (execOps_cons rfl (execOps_cons (exec1_bin h1 rfl rfl) rfl)) ?_))
    dsimp only
    refine cond_t rfl (seq_of (region_of rfl ?_))
    exact ⟨.inr rfl, _, rfl, rfl⟩
  · have h1 : litBin .lss (.int .i64 n) (.int .i64 0) = some (.bool false) := by rw [bin_lss]; simp; omega
    have h2 : litBin .gtr (.int .i64 n) (.int .i64 8) = some (.bool true) := by rw [bin_gtr]; simp; omega
    refine seq_of (region_of rfl ?_)
    dsimp only
    refine seq_of (seq_of (region_of (execOps_cons rfl (execOps_cons (exec1_bin h1 rfl rfl) (execOps_cons rfl (execOps_cons rfl (execOps_cons (exec1_bin h2 rfl rfl) rfl))))) ?_))
    dsimp only
    refine cond_t rfl (seq_of (region_of rfl ?_))
    exact ⟨.inr rfl, _, rfl, rfl⟩
end Go.Lf
