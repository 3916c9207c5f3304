/- The row of JoinorderOrders out of one call's contract. -/
import Derived.Test.YtdbjnimpeifohaaGreatRows
import Derived.Test.YtdbjnimpeifohaaGreatLfM3
import Derived.ProofKit
set_option linter.all false
namespace Go.Proofs.YtdbjnimpeifohaaGreat
open Go.ChangeShapes Go.WideShapes Go.ChangeAt Go.RowKit Go.Lf

theorem Tryz.own : ownKnob Tryz.prog.godebug = none := by kernel_rfl
theorem Tryz.laidOut : laidOutB Tryz.prog = true := by kernel_rfl

/-- What a call of data that answers true leaves. -/
theorem calls_true {f : FuncId} {ds : List D} (h : PCall Tryz.prog f ds [.d (.lit (.bool true))]) {F : Fz} {W : World} {args : Array Value} (hl : args.size = ds.length) (hr : ∀ (i : Nat) v d, args[i]? = some v → ds[i]? = some d → RepD F W v d)
    (hF : ∀ b o, F b o → (W.cell? ⟨b, o, none⟩).isSome) : Calls Tryz.prog f args W fun e W' => e = .returned (.bool true) ∧ Below W.heap.size W W' := by
  refine (h.2 0 F W args hl hr hF).mono ?_
  rintro e w' ⟨val, C', rfl, rfl, _, _, hFr, hv, _⟩
  have : val = .bool true := repV_lit hv
  subst this
  exact ⟨rfl, hFr.below⟩

set_option maxRecDepth 100000 in
theorem f7_lifted (hcall : ∀ n : Int, PCall Tryz.prog 7 [.lit (.int .i64 n)] [.d (.lit (.bool true))]) (os : Os) (started : os.Started) (H : Type) (enc : TypeId × Value → H) :
    ReturnsInHanded {} Tryz.checked os 7 .any (Rows.joinorderOrdersSpec.pre6 enc Tryz.prog Tryz.f7 Rows.joinorderOrdersRow.domain false) (Rows.joinorderOrdersSpec.post enc Tryz.prog Tryz.f7 false true false false) := by
  refine returnsInHanded_of_change (C := Tryz.checked) Tryz.own started (by kernel_rfl) Tryz.func7
    (ChangeSpec.witness6 (enc := enc) (C := Tryz.checked) false ⟨#[], #[.int .i64 0], []⟩ 8 (by kernel_rfl) (by kernel_rfl) (by kernel_rfl) (by kernel_rfl)) ?_
  intro W base args ds gs before hval0 hW hcnd _
  have hval : ∀ (j : Nat) t v, Tryz.f7.params[j]? = some t → args[j]? = some v → Value.okWide Tryz.prog W .any base t v := hval0
  have hW' := hW
  obtain ⟨p, q, hA0, hV, rfl, hfz, hnd⟩ := hW
  have hA : DataW.TrodAll enc Tryz.prog W 0 (fun _ => true) true Tryz.f7.params.toList args.toList ds p := hA0
  rw [Tryz.params7] at hA hval
  obtain ⟨v0, d0, rfl, rfl, h0⟩ := trodAll_one hA
  obtain ⟨rfl, rfl⟩ := trodVars_none hV
  obtain ⟨a, rfl, rfl, rfl, wa⟩ := open_int Tryz.underlying3 (hval 0 _ v0 rfl rfl) h0
  clear hA0 hval0
  simp only [List.append_nil] at hW'
  refine (calls_true (hcall a) (F := fun _ _ => False) rfl (fun i v d hv hd => ?_) (fun _ _ h => h.elim)).mono fun e W' ⟨he, hb⟩ => ?_
  · cases i with
    | zero =>
      simp at hv hd
      subst hv hd
      exact .lit rfl
    | succ i => simp at hd
  subst he
  exact ⟨_, rfl, _, _, _, [], _, [], hW', trodAll_mk1 (shut_bool Tryz.underlying4 _), trodAll_mk1 (shut_int Tryz.underlying3 wa), rfl, hb.frame _, fun h => by cases h⟩

theorem f7_holds (hcall : ∀ n : Int, PCall Tryz.prog 7 [.lit (.int .i64 n)] [.d (.lit (.bool true))]) : Rows.JoinorderOrdersSaid :=
  OpenClaim.holds_of_wide 7 Tryz.f7 rfl rfl rfl rfl rfl rfl rfl ⟨rfl, rfl, rfl, rfl, rfl⟩ rfl rfl rfl rfl rfl (by kernel_rfl) Tryz.func7 (by kernel_rfl)
    (of_decide_eq_true (by kernel_rfl)) (by unfold Func.isWrapper; first | (rw [if_pos (by decide +kernel)]; kernel_rfl) | (rw [if_neg (by decide +kernel)]; exact ⟨rfl, rfl⟩))
    (fun os started H enc _ => f7_lifted hcall os started H enc)
end Go.Proofs.YtdbjnimpeifohaaGreat
