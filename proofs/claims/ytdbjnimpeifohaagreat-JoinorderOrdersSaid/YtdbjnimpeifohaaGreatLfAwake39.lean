/- lineagelaw39.awake by evaluation. -/
import Derived.Test.YtdbjnimpeifohaaGreatLfC7
import Derived.Test.YtdbjnimpeifohaaGreatLfSeq
set_option linter.all false
namespace Go.Lf
open Go.Proofs
set_option maxRecDepth 1000000
theorem cc156 : cFunc Tryz.prog Tryz.f156 = some (cloneL 2 (.agg [(.lit (.string ⟨#[]⟩)), (di 0)])) := by kernel_rfl
theorem cc157 : cFunc Tryz.prog Tryz.f157 = some (cloneL 5 (.agg [(di 0), (di 0), (di 0), (di 0), (.lit (.string ⟨#[]⟩))])) := by kernel_rfl
theorem cc158 : cFunc Tryz.prog Tryz.f158 = some (cloneL 1 (.list 3 [])) := by kernel_rfl
theorem cc159 : cFunc Tryz.prog Tryz.f159 = some (cloneL 3 (.agg [(di 0), (di 0), (.lit (.string ⟨#[]⟩))])) := by kernel_rfl
theorem cc161 : cFunc Tryz.prog Tryz.f161 = some (cloneL 7 (.agg [(di 0), (di 0), (di 0), (di 0), (.lit (.string ⟨#[]⟩)), (di 0), (.list 7 [])])) := by kernel_rfl
theorem cc162 : cFunc Tryz.prog Tryz.f162 = some (cloneL 8 (.agg [(di 0), (di 0), (di 0), (di 0), (di 0), (.lit (.string ⟨#[]⟩)), (di 0), (.list 7 [])])) := by kernel_rfl
theorem cc163 : cFunc Tryz.prog Tryz.f163 = some (cloneL 16 (.agg [(di 0), (di 0), (di 0), (.list 2 []), (.list 1 []), (di 0), (di 0), (di 0), (di 0), (.lit (.string ⟨#[]⟩)), (di 0), (.list 7 []), (.list 7 []), (.list 8 []), (.list 5 []), (.list 16 [])])) := by kernel_rfl
def ints : List D → Option (List Int)
  | [] => some []
  | .lit (.int .i64 z) :: r => match ints r with
    | some l => some (z :: l)
    | none => none
  | _ => none
theorem ints_eq : ∀ {l : List D} {zs : List Int}, ints l = some zs → l = zs.map fun z => .lit (.int .i64 z)
  | [], zs, h => by injection h with h; subst h; rfl
  | .lit (.int .i64 z) :: r, zs, h => by
    simp only [ints] at h
    split at h
    · rename_i l hl
      injection h with h
      subst h
      rw [ints_eq hl]; rfl
    · cases h
  | .lit (.int .i8 _) :: _, _, h | .lit (.int .i16 _) :: _, _, h | .lit (.int .i32 _) :: _, _, h | .lit (.int .u8 _) :: _, _, h | .lit (.int .u16 _) :: _, _, h | .lit (.int .u32 _) :: _, _, h | .lit (.int .u64 _) :: _, _, h => by simp [ints] at h
  | .lit (.bool _) :: _, _, h => by simp [ints] at h
  | .agg _ :: _, _, h => by simp [ints] at h
  | .list .. :: _, _, h => by simp [ints] at h
  | .iptr .. :: _, _, h => by simp [ints] at h
  | .fn .. :: _, _, h => by simp [ints] at h
  | .lit v :: r, zs, h => by
    unfold ints at h
    split at h
    · rename_i heq; cases heq
    · rename_i heq
      injection heq with h1 h2
      injection h1 with h1
      subst h1 h2
      split at h
      · rename_i l hl
        injection h with h
        subst h
        rw [ints_eq hl]; rfl
      · cases h
    · cases h
def clones : List (Nat × Nat) := [(156, 2), (157, 5), (158, 1), (159, 3), (161, 7), (162, 8), (163, 16)]
def prim20 (f : FuncId) (ds : List D) : Option (List R) :=
  match ds with
  | [.list sz l] => bif clones.contains (f, sz) && Nat.ble (l.length * sz) 1048576 then some [.own sz l] else none
  | [.fn 170 [] [.iptr [.list 1 l] 0]] => bif Nat.beq f 169 && Nat.ble l.length 1048576 then match ints l with
      | some _ => some [.own 1 l]
      | none => none
    else none
  | _ => none
theorem prim20_ok : PrimOk Tryz.prog prim20 := by
  intro f ds rs h
  unfold prim20 at h
  split at h
  · rename_i sz l
    have hh := cond_some h
    have h1 := hh.1
    have e2 : [R.own sz l] = rs := Option.some.inj hh.2
    simp only [Bool.and_eq_true] at h1
    have hl := ble_le h1.2
    have hl' : l.length * sz ≤ limit := by unfold limit; omega
    rw [← e2]
    have hm : (f, sz) ∈ clones := by simpa using h1.1
    simp only [clones, List.mem_cons, Prod.mk.injEq, List.not_mem_nil, or_false] at hm
    rcases hm with ⟨rfl, rfl⟩ | ⟨rfl, rfl⟩ | ⟨rfl, rfl⟩ | ⟨rfl, rfl⟩ | ⟨rfl, rfl⟩ | ⟨rfl, rfl⟩ | ⟨rfl, rfl⟩
    · exact clone_ok mixed Tryz.func156 cc156 hl'
    · exact clone_ok mixed Tryz.func157 cc157 hl'
    · exact clone_ok mixed Tryz.func158 cc158 hl'
    · exact clone_ok mixed Tryz.func159 cc159 hl'
    · exact clone_ok mixed Tryz.func161 cc161 hl'
    · exact clone_ok mixed Tryz.func162 cc162 hl'
    · exact clone_ok mixed Tryz.func163 cc163 hl'
  · rename_i l
    have hh := cond_some h
    have h1 := hh.1
    simp only [Bool.and_eq_true] at h1
    have hl := ble_le h1.2
    have hf := beq_eq h1.1
    have h2 := hh.2
    split at h2
    · rename_i zs hz
      have e := ints_eq hz
      have e2 : [R.own 1 l] = rs := Option.some.inj h2
      rw [← e2, e, hf]
      have hlz : zs.length = l.length := by rw [e]; simp
      exact collect_ok zs (by omega) (by rw [hlz]; exact Nat.le_trans hl (by decide))
    · cases h2
  · cases h
def opens20 (f : FuncId) : Bool := [95, 96, 119, 135, 177].contains f
theorem awake20 : runPure fns prim20 opens20 200 20 [] = some [.d (.lit (.bool true))] := by kernel_rfl
theorem awake39 : PCall Tryz.prog 20 [] [.d (db true)] := runPure_ok mixed fns_ok prim20_ok awake20
end Go.Lf
