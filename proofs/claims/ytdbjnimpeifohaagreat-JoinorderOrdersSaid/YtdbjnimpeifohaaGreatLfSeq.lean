/- slices.AppendSeq(nil, seq) against whatever iterator; turned from the kit's worked proof at another dump. -/
import Derived.RangeFuncGives
import Derived.RangeFuncSeq
import Derived.Sort.MapsRangeIn
import Derived.Sort.KeysCollected
import Derived.WalkKit
import Derived.OwnWalkIn
import Derived.TacticsInMore
import Derived.RegionIn
import Derived.LoopNIn
import Derived.LoopIn
import Derived.RangeFuncMany
import Derived.RangeFuncLeaves
import Derived.Maps.AppendAt
import Derived.Shelf.Abstract
import Derived.Test.YtdbjnimpeifohaaGreatRows
import Derived.RangeFuncBox
import Derived.Test.YtdbjnimpeifohaaGreatLfM3
set_option linter.all false
namespace Go.Proofs
open Go.RowKit Go.Maps Go.Sort Go.Shelf
abbrev encI (c : Int) : Value := .int .i64 c
/-- 'SeqGives' for callers whose word says that nothing from before has turned. -/
def SeqGivesB {α : Type} (F : Fence) (n : Nat) (P : Program) (g : Nat) (lb : Array Value) (enc : α → Value) (S : List α → Prop) (N : Nat) (w : World) : Prop :=
  ∀ (l : Nat) (J : List α → World → Prop) (W : World), Below w.heap.size w W → AbidesFrom W.heap.size J → (∀ pre W1, J pre W1 → Below w.heap.size w W1) →
    (∀ pre x W1, J pre W1 → pre.length < N → YieldAt F (n - 1) P l #[enc x] W1 fun e W' => e = .returned (.bool true) ∧ J (pre ++ [x]) W' ∧ KeepsWalks W1 W') →
    J [] W →
    CallsIn F n P g (#[.func (.yield l) #[] #[]] ++ lb) W fun e W' => (∃ v, e = .returned v) ∧ ∃ xs, S xs ∧ J xs W'
def Tz.apAssign : Code := (Code.region 2 #[{ dst := some 5, op := Op.assign (Operand.tmp 7), type := 3, pos := "iter.go:51", after := #[], guard := none }] false)
def Tz.apBody : Code := (Code.block 1 (Code.region 3 #[{ dst := some 8, op := Op.load 40 (Operand.tmp 2), type := 40, pos := "iter.go:52", after := #[], guard := none }, { dst := some 9, op := Op.move (Operand.tmp 5), type := 3, pos := "iter.go:52", after := #[], guard := none }, { dst := some 10, op := Op.buildSlice 40 1 #[(0, Operand.tmp 9)], type := 40, pos := "iter.go:52", after := #[{ on := 1, ground := Ground.data }], guard := none }, { dst := some 11, op := Op.call { callee := Callee.builtin Builtin.append, args := #[Operand.tmp 8, Operand.tmp 10], argTypes := #[40, 40] }, type := 40, pos := "iter.go:52", after := #[{ on := 0, ground := Ground.data }, { on := 2, ground := Ground.data }], guard := none }, { dst := none, op := Op.store 40 (Operand.tmp 2) (Operand.tmp 11), type := 0, pos := "iter.go:52", after := #[{ on := 3, ground := Ground.data }, { on := 3, ground := Ground.chain }, { on := 0, ground := Ground.phase }, { on := 1, ground := Ground.phase }, { on := 2, ground := Ground.phase }, { on := 3, ground := Ground.phase }], guard := none }] false))
/-- The loop's record: AppendSeq's temporaries as they stood at the entering: 's' boxed in block Bs; sv: the iterator's value. -/
def Tz.apRec (fn : FuncId) (sv : Value) (Bs D : Nat) (st : LoopState) (pend : Option Code) : Loop :=
  { state := st, pending := pend, fn, tmps := #[.slice none 0 0, sv, .pointer (some ⟨Bs, 0, none⟩), undef, .slice none 0 0, undef, sv, undef, undef, undef, undef, undef, undef], params := #[7], assign := Tz.apAssign, body := Tz.apBody, defers := D }

/-- BETWEEN TWO ROUNDS: the box holds a slice that owns, in a block of the call's own, what has come so far; IT IS nil JUST AS LONG AS NOTHING HAS COME; nothing that lay before the call has turned. -/
structure Tz.ApAt (w0 : World) (fn : FuncId) (sv : Value) (Bs l D : Nat) (ss : List Int) (W : World) : Prop where
  box : ∃ v, W.heap[Bs]? = some (.cells #[v] 40 (0, 0)) ∧ W.ownsRow w0.heap.size 3 1 v ss.length (ss.map encI) ∧ (v = .slice none 0 0 ↔ ss = [])
  L : W.heap[l]? = some (.loop (Tz.apRec fn sv Bs D .ready none))
  K : W.heap[D]? = some (.deferred (some []))
  below : Below w0.heap.size w0 W

/-- A slice's own row is no walk's object: it abides an iterator's step. -/
theorem ownsRow_abides {W W' : World} {row : Option Nat} {base : Nat} {e : TypeId} {size : Nat} {v : Value} {k : Nat} {xs : List Value} (h : W.ownsRow base e size v k xs) (hg : W.grownBy W' row)
    (hrow : ∀ r, row = some r → ∃ o : Obj, W.heap[r]? = some o ∧ o.isWalk = true) : W'.ownsRow base e size v k xs := by
  refine h.kept hg ?_
  rcases h.2 with ⟨rfl, _⟩ | ⟨g, cap, cur, rfl, _, hgb, _⟩
  · exact .inl rfl
  · refine .inr fun e' => ?_
    obtain ⟨o, ho, hw⟩ := hrow g (by simpa [Value.ownBlock] using e'.symm)
    rw [hgb] at ho; cases ho; cases hw

theorem Tz.ap_abides (w0 : World) (fn : FuncId) (sv : Value) (Bs l D B : Nat) (hB : w0.heap.size ≤ B) : AbidesFrom B (Tz.ApAt w0 fn sv Bs l D) := fun s W W' row h hg hrow => by
  have hrow' : ∀ r, row = some r → ∃ o : Obj, W.heap[r]? = some o ∧ o.isWalk = true := fun r e => (hrow r e).2
  obtain ⟨v, hv, hr, hn⟩ := h.box
  exact ⟨⟨v, (grownBy_keeps hg hrow' hv rfl).trans hv, ownsRow_abides hr hg hrow', hn⟩, (grownBy_keeps hg hrow' h.L rfl).trans h.L, (grownBy_keeps hg hrow' h.K rfl).trans h.K,
    h.below.grown hg h.below.size (fun k e => Nat.le_trans hB (hrow k e).1)⟩

theorem grownBy_putObj (W : World) (l : Nat) (o : Obj) : W.grownBy (W.putObj l o) (some l) :=
  ⟨rfl, rfl, rfl, by simp, fun k _ hk => World.putObj_heap_other (fun e => hk (by rw [e]))⟩
theorem grownBy_setCell0 (W : World) (b : Nat) (v : Value) : W.grownBy (W.setCell ⟨b, 0, none⟩ v) (some b) :=
  ⟨rfl, rfl, rfl, (KeepsWalks.setCell W _ v).size, fun k _ hk => Below.heap_setCell _ _ _ k (fun e => hk (by rw [e]))⟩
/-- A slice's own row is not a block that holds something else than cells of its element's type. -/
theorem ownsRow_ne {W : World} {base : Nat} {e : TypeId} {size : Nat} {v : Value} {k : Nat} {xs : List Value} (h : W.ownsRow base e size v k xs) {j : Nat} {o : Obj} (hj : W.heap[j]? = some o) (hno : ∀ cur, o ≠ .cells cur e (0, 0)) :
    v.ownBlock = none ∨ v.ownBlock ≠ some j := by
  rcases h.2 with ⟨rfl, _⟩ | ⟨g, cap, cur, rfl, _, hgb, _⟩
  · exact .inl rfl
  · refine .inr fun e' => ?_
    have : g = j := by simpa [Value.ownBlock] using e'
    subst this; rw [hgb] at hj; cases hj; exact hno cur rfl
theorem cell_of_box {W : World} {B : Nat} {v : Value} {t : TypeId} (h : W.heap[B]? = some (.cells #[v] t (0, 0))) : W.cell? ⟨B, 0, none⟩ = some v ∧ W.frozen? ⟨B, 0, none⟩ = false := by
  constructor <;> simp [World.cell?, World.frozen?, h]

theorem heap_setCell_box {W : World} {B : Nat} {v : Value} {t : TypeId} (v' : Value) (h : W.heap[B]? = some (.cells #[v] t (0, 0))) : (W.setCell ⟨B, 0, none⟩ v').heap[B]? = some (.cells #[v'] t (0, 0)) := by
  obtain ⟨hlt, hk⟩ := Array.getElem?_eq_some_iff.1 h
  show (W.heap.modify B _)[B]? = _
  rw [Array.getElem?_eq_getElem (by rw [Array.size_modify]; exact hlt), Array.getElem_modify_self, hk]
  rfl
theorem ownsRow_not_walk {W : World} {base : Nat} {e : TypeId} {size : Nat} {v : Value} {k : Nat} {xs : List Value} (h : W.ownsRow base e size v k xs) : ∀ (j : Nat) (o : Obj), v.ownBlock = some j → W.heap[j]? = some o → o.isWalk = false := by
  intro j o hj ho
  rcases h.2 with ⟨rfl, _⟩ | ⟨g, cap, cur, rfl, _, hgb, _⟩
  · simp [Value.ownBlock] at hj
  · have : g = j := by simpa [Value.ownBlock] using hj
    subst this; rw [hgb] at ho; cases ho; rfl

theorem Tz.info3 : (Tryz.prog.info? 3).map (fun i => (i.zero, i.size, i.bytes)) = some (some (.int .i64 0), 1, 8) := by kernel_rfl

set_option maxRecDepth 100000 in
set_option maxHeartbeats 2000000 in
theorem Tz.apYield (F : Fence) (m : Nat) (w0 : World) (fn : FuncId) (hfn : F.fn fn) (sv : Value) (Bs l D : Nat) (hBl : Bs ≠ l) (hDl : D ≠ l) (hDB : D ≠ Bs) (h0B : w0.heap.size ≤ Bs) (h0l : w0.heap.size ≤ l)
    (N : Nat) (hN : N ≤ maxLen) (hNb : N * 8 ≤ 140737488355328) (ss : List Int) (x : Int) (W : World) (h : Tz.ApAt w0 fn sv Bs l D ss W) (hlen : ss.length < N) :
    YieldAt F m Tryz.prog l #[encI x] W fun e W' => e = .returned (.bool true) ∧ Tz.ApAt w0 fn sv Bs l D (ss ++ [x]) W' ∧ KeepsWalks W W' := by
  obtain ⟨i0, hi, hz0, hz1, hz2⟩ := info_parts Tz.info3
  obtain ⟨v, hv, hrow, _⟩ := h.box
  refine ⟨fn, #[.slice none 0 0, sv, .pointer (some ⟨Bs, 0, none⟩), undef, .slice none 0 0, undef, sv, encI x, undef, undef, undef, undef, undef], Tz.apAssign, Tz.apBody, by simpa [Tz.apRec] using run_yield (P := Tryz.prog) (args := #[encI x]) h.L rfl, roundIn_of_wpIn hfn ?_⟩
  have hl : l < W.heap.size := (Array.getElem?_eq_some_iff.1 h.L).1
  have hbr := run_beginRound (P := Tryz.prog) h.L rfl
  obtain ⟨W2, hW2⟩ : ∃ W2, W.putObj l (.loop { Tz.apRec fn sv Bs D .ready none with state := .busy }) = W2 := ⟨_, rfl⟩
  rw [hW2] at hbr
  have hg2 : W.grownBy W2 (some l) := by rw [← hW2]; exact grownBy_putObj _ _ _
  have hk2 : KeepsWalks W W2 := by rw [← hW2]; exact KeepsWalks.putObj _ h.L rfl
  have hv2 : W2.heap[Bs]? = some (.cells #[v] 40 (0, 0)) := by rw [← hW2]; exact (World.putObj_heap_other hBl).trans hv
  have hK2 : W2.heap[D]? = some (.deferred (some [])) := by rw [← hW2]; exact (World.putObj_heap_other hDl).trans h.K
  have hL2 : W2.heap[l]? = some (.loop { Tz.apRec fn sv Bs D .ready none with state := .busy }) := by rw [← hW2]; exact World.putObj_heap_same hl
  have hrow2 : W2.ownsRow w0.heap.size 3 1 v ss.length (ss.map encI) := hrow.kept hg2 (ownsRow_ne hrow h.L (fun cur e => by cases e))
  have hb2 : Below w0.heap.size w0 W2 := h.below.grown hg2 h.below.size (fun k e => by cases e; exact h0l)
  obtain ⟨hc2, hf2⟩ := cell_of_box hv2
  have hBlt : Bs < W2.heap.size := (Array.getElem?_eq_some_iff.1 hv2).1
  have hl2 : l < W2.heap.size := (Array.getElem?_eq_some_iff.1 hL2).1
  have hDlt : D < W2.heap.size := (Array.getElem?_eq_some_iff.1 hK2).1
  have ne_of : ∀ {j : Nat} {o : Obj}, W2.heap[j]? = some o → (∀ cur, o ≠ .cells cur 3 (0, 0)) → some j ≠ v.ownBlock := fun hj hno => by
    rcases ownsRow_ne hrow2 hj hno with e | e
    · rw [e]; simp
    · exact fun e' => e e'.symm
  clear hW2
  unfold Tz.apAssign
  gi_wp2_with (rw [Oper.semAt_eq _ _ _ (fun c h => by cases h)]; go_simp; try go_bits)
  unfold Tz.apBody
  gi_wp2_with (first
    | (gi_at_builtin; refine wpListIn_append_own _ rfl _ _ 40 rfl w0.heap.size 3 i0 (.int .i64 0) 1 8 Tryz.underlying40 hi hz0 hz1 hz2 rfl (by decide) _ _ _ rfl (hrow2.alloc _) ⟨W2.heap.size, 0, none⟩ 1 1 [encI x] rfl rfl (cell_one_new _ _ _) (by simp [Value.oneCell', encI]) (by omega) (by omega) (by have := hb2.size; simp; omega) ?_; intro v' w3 hown' hg3 hnil3
       have hv3 : w3.heap[Bs]? = some (.cells #[v] 40 (0, 0)) := (hg3.block Bs (by simp; omega) (ne_of hv2 (fun cur e => by cases e))).trans ((Below.heap_alloc _ _ Bs hBlt).trans hv2)
       obtain ⟨hc3, hf3⟩ := cell_of_box hv3
       obtain ⟨g', cap', cur', rfl, hbase', hgb', hr1, hr2, hr3, hr4⟩ : ∃ g' cap' cur', v' = .slice (some ⟨g', 0, none⟩) (ss.length + 1) cap' ∧ w0.heap.size ≤ g' ∧ w3.heap[g']? = some (.cells cur' 3 (0, 0)) ∧ ss.length + 1 ≤ cap' ∧ cap' ≤ maxLen ∧ cur'.size = cap' * 1 ∧ cur'.toList.take ((ss.length + 1) * 1) = ss.map encI ++ [encI x] := by
         rcases hown'.2 with ⟨_, h0⟩ | h'
         · exact absurd h0 (by omega)
         · exact h'
       go_frame)
    | (rw [Oper.semAt_eq _ _ _ (fun c h => by cases h)]; go_simp; try go_bits))
  have hg3' : (W2.alloc (.cells #[encI x] 3)).grownBy w3 v.ownBlock := hg3
  have hL3 : w3.heap[l]? = some (.loop { Tz.apRec fn sv Bs D .ready none with state := .busy }) := (hg3'.block l (by simp; omega) (ne_of hL2 (fun cur e => by cases e))).trans ((Below.heap_alloc _ _ l hl2).trans hL2)
  have hK3 : w3.heap[D]? = some (.deferred (some [])) := (hg3'.block D (by simp; omega) (ne_of hK2 (fun cur e => by cases e))).trans ((Below.heap_alloc _ _ D hDlt).trans hK2)
  obtain ⟨w4, hw4⟩ : ∃ w4, w3.setCell ⟨Bs, 0, none⟩ (.slice (some ⟨g', 0, none⟩) (ss.length + 1) cap') = w4 := ⟨_, rfl⟩
  rw [hw4]
  have hg4 : w3.grownBy w4 (some Bs) := by rw [← hw4]; exact grownBy_setCell0 _ _ _
  have hv4 : w4.heap[Bs]? = some (.cells #[.slice (some ⟨g', 0, none⟩) (ss.length + 1) cap'] 40 (0, 0)) := by rw [← hw4]; exact heap_setCell_box _ hv3
  have hL4 : w4.heap[l]? = some (.loop { Tz.apRec fn sv Bs D .ready none with state := .busy }) := (hg4.block l (Array.getElem?_eq_some_iff.1 hL3).1 (fun e => hBl (by cases e; rfl))).trans hL3
  have hK4 : w4.heap[D]? = some (.deferred (some [])) := (hg4.block D (Array.getElem?_eq_some_iff.1 hK3).1 (fun e => hDB (by cases e; rfl))).trans hK3
  have hrow4 := hown'.kept hg4 (ownsRow_ne hown' hv3 (fun cur e => by cases e))
  have hl4 : l < w4.heap.size := (Array.getElem?_eq_some_iff.1 hL4).1
  have hb3 : Below w0.heap.size w0 w3 := (hb2.alloc hb2.size _).grown hg3' (by have := hb2.size; simp; omega) (fun k e => (hrow2.lt k e).1)
  have hb4 : Below w0.heap.size w0 w4 := hb3.grown hg4 hb3.size (fun k e => by cases e; exact h0B)
  have hk4 : KeepsWalks W w4 := ((hk2.trans (KeepsWalks.alloc _ _)).trans (KeepsWalks.of_grownBy hg3' (ownsRow_not_walk (hrow2.alloc _)))).trans (by rw [← hw4]; exact KeepsWalks.setCell _ _ _)
  clear hw4
  refine ⟨_, _, run_endRound none hL4, rfl, ⟨⟨_, (World.putObj_heap_other hBl).trans hv4, ?_, by simp⟩, World.putObj_heap_same hl4, (World.putObj_heap_other hDl).trans hK4, hb4.grown (grownBy_putObj _ _ _) hb4.size (fun k e => by cases e; exact h0l)⟩, hk4.trans (KeepsWalks.putObj _ hL4 rfl)⟩
  have := hrow4.kept (grownBy_putObj w4 l (.loop { { Tz.apRec fn sv Bs D .ready none with state := .busy } with state := if (none : Option Code).isNone then .ready else .done, pending := none })) (ownsRow_ne hrow4 hL4 (fun cur e => by cases e))
  simpa using this



set_option maxRecDepth 100000 in
set_option maxHeartbeats 2000000 in
/-- **slices.AppendSeq(nil, seq), AGAINST WHATEVER ITERATOR VALUE THAT 'SeqGives'**: it hands back a slice that owns, in a block of the call's own, JUST WHAT THE ITERATOR GAVE, IN THAT ORDER; nil JUST WHERE IT GAVE NOTHING (as Go: 'slices.Collect' of nothing is nil); nothing that lay before the call has turned. -/
theorem Tz.appendSeq_in (F : Fence) (n : Nat) (h11 : F.fn 193) (hro : F.round = none) (hn : 2 ≤ n) (g : Nat) (lb : Array Value) (hFg : F.fn g) (eg : ∀ args w, (callFunc g args).run Tryz.prog w = .ok (.enter g args) w)
    (S : List Int → Prop) (N : Nat) (hN : N ≤ maxLen) (hNb : N * 8 ≤ 140737488355328) (w : World) (hseq : SeqGivesB F (n - 1) Tryz.prog g lb encI S N w) :
    CallsIn F n Tryz.prog 193 #[.slice none 0 0, .func (.func g) #[] lb] w fun e w' => ∃ (v : Value) (ss : List Int), e = .returned v ∧ S ss ∧ w'.ownsRow w.heap.size 3 1 v ss.length (ss.map encI) ∧ (v = .slice none 0 0 ↔ ss = []) ∧ Below w.heap.size w w' := by
  have h1 : 1 ≤ n := by omega
  refine callsIn_of_wp_marks Tryz.func193 rfl h11 ?_ hro
  simp only [Tryz.ntmps193, List.size_toArray, List.length_cons, List.length_nil, Nat.reduceAdd, Nat.reduceSub, Array.replicate_succ, Array.replicate_zero, List.push_toArray, List.append_toArray, List.nil_append, List.cons_append]
  gi_wp2
  refine wpIn_rangeFunc ?_
  intro fn hfn
  rw [hro]
  obtain ⟨W0, hW0⟩ : ∃ W0, w.alloc (.cells #[.slice none 0 0] 40) = W0 := ⟨_, rfl⟩
  have hs0 : W0.heap.size = w.heap.size + 1 := by rw [← hW0]; simp
  have hv0 : W0.heap[w.heap.size]? = some (.cells #[.slice none 0 0] 40 (0, 0)) := by rw [← hW0]; exact World.alloc_heap_new w _
  have hb0 : Below w.heap.size w W0 := by rw [← hW0]; exact (Below.refl _ w).alloc (Nat.le_refl _) _
  rw [hW0]
  obtain ⟨W1, hW1⟩ : ∃ W1, (W0.alloc (.deferred (some []))).alloc (.loop (Tz.apRec fn (.func (.func g) #[] lb) w.heap.size W0.heap.size .ready none)) = W1 := ⟨_, rfl⟩
  have hold : ∀ k, k < W0.heap.size → W1.heap[k]? = W0.heap[k]? := fun k hk => by
    rw [← hW1]; exact (Below.heap_alloc _ _ k (by simp; omega)).trans (Below.heap_alloc _ _ k hk)
  have hb1 : Below w.heap.size w W1 := by rw [← hW1]; exact (hb0.alloc hb0.size _).alloc (by have := hb0.size; simp; omega) _
  have hs1 : W1.heap.size = W0.heap.size + 2 := by rw [← hW1]; simp
  have hM : Tz.ApAt w fn (.func (.func g) #[] lb) w.heap.size (W0.heap.size + 1) W0.heap.size [] W1 :=
    ⟨⟨_, (hold w.heap.size (by omega)).trans hv0, ⟨rfl, .inl ⟨rfl, rfl⟩⟩, by simp⟩,
     by rw [← hW1]; have := World.alloc_heap_new (W0.alloc (.deferred (some []))) (.loop (Tz.apRec fn (.func (.func g) #[] lb) w.heap.size W0.heap.size .ready none)); rwa [World.size_alloc] at this,
     by rw [← hW1]; exact (Below.heap_alloc _ _ _ (by simp)).trans (World.alloc_heap_new W0 _), hb1⟩
  refine ⟨W0.heap.size + 1, [{ target := .collected W0.heap.size, args := #[] }], W1, { target := .fn (.func g) lb, args := #[.func (.yield (W0.heap.size + 1)) #[] #[]] }, W1, g,
    #[.func (.yield (W0.heap.size + 1)) #[] #[]] ++ lb, W1, ?_, ?_, ?_, ?_, fun _ => h1, ?_⟩
  · rw [← hW1]; exact run_enterLoop_outer _ _ _ _ _
  · simp [resolve, go_sem]
  · intro f' hf'; simp [Target.leads] at hf'; subst hf'; exact hFg
  · simp [invoke, go_sem, eg]
  · refine (hseq (W0.heap.size + 1) (Tz.ApAt w fn (.func (.func g) #[] lb) w.heap.size (W0.heap.size + 1) W0.heap.size) W1 hb1 (Tz.ap_abides _ _ _ _ _ _ _ hb1.size) (fun _ _ h => h.below)
      (fun pre x W hJ hl => Tz.apYield F (n - 1 - 1) w fn hfn _ w.heap.size (W0.heap.size + 1) W0.heap.size (by omega) (by omega) (by omega) (Nat.le_refl _) (by omega) N hN hNb pre x W hJ hl) hM).mono ?_
    rintro e W2 ⟨⟨v0, rfl⟩, ss, hS, h2⟩
    obtain ⟨v, hv, hrow, hnil⟩ := h2.box
    have hend := run_endLoop (P := Tryz.prog) h2.L (by simp [Tz.apRec])
    obtain ⟨W3, hW3⟩ : ∃ W3, W2.putObj (W0.heap.size + 1) (.loop { Tz.apRec fn (.func (.func g) #[] lb) w.heap.size W0.heap.size .ready none with state := .exhausted }) = W3 := ⟨_, rfl⟩
    rw [hW3] at hend
    have hg3 : W2.grownBy W3 (some (W0.heap.size + 1)) := by rw [← hW3]; exact grownBy_putObj _ _ _
    have hv3 : W3.heap[w.heap.size]? = some (.cells #[v] 40 (0, 0)) := by rw [← hW3]; exact (World.putObj_heap_other (by omega)).trans hv
    have hK3 : W3.heap[W0.heap.size]? = some (.deferred (some [])) := by rw [← hW3]; exact (World.putObj_heap_other (by omega)).trans h2.K
    have hrow3 := hrow.kept hg3 (ownsRow_ne hrow h2.L (fun cur e => by cases e))
    have hb3 : Below w.heap.size w W3 := h2.below.grown hg3 h2.below.size (fun k e => by cases e; omega)
    obtain ⟨hc3, hf3⟩ := cell_of_box hv3
    clear hW3
    refine ⟨none, W3, hend, ?_⟩
    gi_wp2
    rw [← hs0]
    refine ⟨by simp, .inl ⟨_, _, rfl, run_takeDeferred hK3, ?_⟩⟩
    exact ⟨_, results_tmp rfl _ _ _, v, ss, rfl, hS, hrow3.kept (grownBy_putObj _ _ _) (ownsRow_ne hrow3 hK3 (fun cur e => by cases e)), hnil, hb3.grown (grownBy_putObj _ _ _) hb3.size (fun k e => by cases e; omega)⟩


set_option maxHeartbeats 1000000 in
/-- **slices.Collect(seq), AGAINST WHATEVER ITERATOR VALUE.** -/
theorem Tz.collect_in (F : Fence) (n : Nat) (h8 : F.fn 169) (h11 : F.fn 193) (hro : F.round = none) (hn : 3 ≤ n) (g : Nat) (lb : Array Value) (hFg : F.fn g) (eg : ∀ args w, (callFunc g args).run Tryz.prog w = .ok (.enter g args) w)
    (S : List Int → Prop) (N : Nat) (hN : N ≤ maxLen) (hNb : N * 8 ≤ 140737488355328) (w : World) (hseq : SeqGivesB F (n - 1 - 1) Tryz.prog g lb encI S N w) :
    CallsIn F n Tryz.prog 169 #[.func (.func g) #[] lb] w fun e w' => ∃ (v : Value) (ss : List Int), e = .returned v ∧ S ss ∧ w'.ownsRow w.heap.size 3 1 v ss.length (ss.map encI) ∧ (v = .slice none 0 0 ↔ ss = []) ∧ Below w.heap.size w w' := by
  have h1 : 1 ≤ n := by omega
  refine callsIn_of_wp Tryz.func169 rfl h8 ?_ hro
  simp only [Tryz.ntmps169, List.size_toArray, List.length_cons, List.length_nil, Nat.reduceAdd, Nat.reduceSub, Array.replicate_succ, Array.replicate_zero, List.push_toArray, List.append_toArray, List.nil_append, List.cons_append]
  gi_wp2_with (gi_at_call 193; refine (Tz.appendSeq_in F (n - 1) h11 hro (by omega) g lb hFg eg S N hN hNb _ hseq).mono ?_; rintro e w' ⟨v, ss, rfl, hS, hrow, hnil, hb⟩)
  go_ret
  exact ⟨v, ss, rfl, hS, hrow, hnil, hb⟩


end Go.Proofs
/- slices.Values's closure over ints; turned from the kit's worked proof at another dump. -/
namespace Go.Proofs
open Go.RowKit Go.Shelf
attribute [local go_sem] Oper.semAt_some
/-- WHAT HAS COME WHEN k ROUNDS ARE OVER: f 0, .., f (k - 1). -/
def Tz.upto {α : Type} (f : Nat → α) (k : Nat) : List α := (List.range k).map f
theorem Tz.upto_succ {α : Type} (f : Nat → α) (k : Nat) : Tz.upto f (k + 1) = Tz.upto f k ++ [f k] := by simp [Tz.upto, List.range_succ]
theorem Tz.upto_length {α : Type} (f : Nat → α) (k : Nat) : (Tz.upto f k).length = k := by simp [Tz.upto]
theorem Tz.upto_all (zs : List Int) : Tz.upto (fun j => zs[j]?.getD 0) zs.length = zs := by
  apply List.ext_getElem
  · simp [Tz.upto]
  · intro i h1 h2
    simp [Tz.upto, h2]

set_option maxRecDepth 100000 in
set_option maxHeartbeats 2000000 in
/-- **slices.Values's closure: 'for _, v := range s { if !yield(v) { return } }': FOR EVERY LOOP BODY THAT KEEPS WHAT LAY BELOW n₀.** -/
theorem Tz.values1_in (F : Fence) (n : Nat) (h7 : F.fn 170) (hro : F.round = none) (hn : 1 ≤ n) (l Bs oB b off len cap : Nat) (zs : List Int) (hreach : len * 8 ≤ 140737488351232) (J Jx : List Int → World → Prop)
    (hY : ∀ pre x W, J pre W → pre.length < len → YieldAt F (n - 1) Tryz.prog l #[.int .i64 x] W fun e W' =>
      (e = .returned (.bool true) ∧ J (pre ++ [x]) W' ∧ KeepsWalks W W') ∨ (e = .returned (.bool false) ∧ Jx (pre ++ [x]) W'))
    (W : World) (hBs : W.cell? ⟨Bs, oB, none⟩ = some (.slice (some ⟨b, off, none⟩) len cap)) (hc : ∀ j, j < len → W.cell? ⟨b, off + j, none⟩ = some (.int .i64 (zs[j]?.getD 0))) (hJc : ∀ pre W, J pre W → ∀ j, j < len → W.cell? ⟨b, off + j, none⟩ = some (.int .i64 (zs[j]?.getD 0))) (h0 : J [] W) :
    CallsIn F n Tryz.prog 170 #[.func (.yield l) #[] #[], .pointer (some ⟨Bs, oB, none⟩)] W fun e W' => (∃ v, e = .returned v) ∧
      ((∃ ys, ys = Tz.upto (fun j => zs[j]?.getD 0) len ∧ J ys W') ∨ (∃ pre, (∃ k, k ≤ len ∧ pre = Tz.upto (fun j => zs[j]?.getD 0) k) ∧ Jx pre W')) := by
  refine callsIn_of_wp Tryz.func170 rfl h7 ?_ hro
  simp only [Tryz.ntmps170, List.size_toArray, List.length_cons, List.length_nil, Nat.reduceAdd, Nat.reduceSub, Array.replicate_succ, Array.replicate_zero, List.push_toArray, List.append_toArray, List.nil_append, List.cons_append]
  gi_wp2
  gi_loopw [7] (fun i wr => ∃ k : Nat, k ≤ len ∧ i = .int .i64 k ∧ J (Tz.upto (fun j => zs[j]?.getD 0) k) wr)
    (fun i _ => len - (intOf i).toNat)
  case atStart => exact ⟨0, Nat.zero_le _, rfl, h0⟩
  case round =>
    obtain ⟨k, hk, rfl, hJs⟩ := hrel
    have hcx : k < len → wr.cell? ⟨b, off + k, none⟩ = some (.int .i64 (zs[k]?.getD 0)) := fun h => hJc _ _ hJs k h
    by_cases hlt : k < len
    · obtain ⟨fn, tmps, assign, body, hy, hR⟩ := hY _ (zs[k]?.getD 0) wr hJs (by rw [Tz.upto_length]; exact hlt)
      have hcx' := hcx hlt
      gi_wp2
      refine hR.mono ?_
      rintro e W3 (⟨rfl, hJ3, hk3⟩ | ⟨rfl, hJx3⟩)
      · -- THE ROUND GOES ON
        gi_wp2
        go_roundw
        case rel => exact ⟨k + 1, by omega, by simp, by rw [Tz.upto_succ]; exact hJ3⟩
        case measure => simp [intOf]; omega
      · gi_wp2
        refine bodyPost_ret (results_none rfl _ _ _) rfl ?_
        exact ⟨⟨_, rfl⟩, .inr ⟨_, ⟨k + 1, by omega, (Tz.upto_succ _ _).symm⟩, hJx3⟩⟩
    · obtain rfl : k = len := by omega
      gi_wp2
      go_end0
      exact ⟨⟨_, rfl⟩, .inl ⟨_, rfl, hJs⟩⟩


set_option maxRecDepth 100000 in
set_option maxHeartbeats 1000000 in
/-- .. at an empty slice: no round. -/
theorem Tz.values0_in (F : Fence) (n : Nat) (h7 : F.fn 170) (hro : F.round = none) (l Bs oB cap : Nat) (a : Option Addr) (J : List Int → World → Prop) (W : World) (hBs : W.cell? ⟨Bs, oB, none⟩ = some (.slice a 0 cap)) (h0 : J [] W) :
    CallsIn F n Tryz.prog 170 #[.func (.yield l) #[] #[], .pointer (some ⟨Bs, oB, none⟩)] W fun e W' => (∃ v, e = .returned v) ∧ J [] W' := by
  refine callsIn_of_wp Tryz.func170 rfl h7 ?_ hro
  simp only [Tryz.ntmps170, List.size_toArray, List.length_cons, List.length_nil, Nat.reduceAdd, Nat.reduceSub, Array.replicate_succ, Array.replicate_zero, List.push_toArray, List.append_toArray, List.nil_append, List.cons_append]
  gi_wp2
  gi_loopw [7] (fun i wr => i = .int .i64 0 ∧ J [] wr) (fun _ _ => 0)
  case atStart => exact ⟨rfl, h0⟩
  case round =>
    obtain ⟨rfl, hJs⟩ := hrel
    gi_wp2
    go_end0
    exact ⟨⟨_, rfl⟩, hJs⟩
end Go.Proofs
/- slices.Collect(slices.Values(ints)) as a call of data. -/
namespace Go.Lf
open Go.Proofs
open Go.RowKit (Below)

/-- A row that a call hands back as its own, of any element type of one cell. -/
theorem own_result {w w' : World} {F : Fz} {v : Value} {e : TypeId} {xs : List Value} {ds : List D} (hF : ∀ b o, F b o → (w.cell? ⟨b, o, none⟩).isSome) (hrow : w'.ownsRow w.heap.size e 1 v xs.length xs) (hb : Below w.heap.size w w') (hl : xs.length = ds.length)
    (hx : ∀ (i : Nat) x d, xs[i]? = some x → ds[i]? = some d → d.cells = [d] ∧ d.leaf = true ∧ RepD F w' x d) (fr : Nat) :
    ∃ C', C'.w = w' ∧ C'.ob = over (fun _ => none) (intern fr [.own 1 ds]).2 ∧ WRep w.heap.size C' ∧ Fr w.heap.size { μ := fun _ => none, F := F, ob := fun _ => none, w := w } C' ∧ RepV C' v (tupled (intern fr [.own 1 ds]).1) ∧ Valid C' (tupled (intern fr [.own 1 ds]).1) := by
  let C' : Cx := { μ := fun k => if k = fr then v.ownBlock else none, F := F, ob := updF (fun _ => none) fr (.arr 1 ds 0), w := w' }
  have hcell : ∀ b o, F b o → w'.cell? ⟨b, o, none⟩ = w.cell? ⟨b, o, none⟩ := fun b o h => hb.cell (p := ⟨b, o, none⟩) (cell?_lt (hF b o h))
  have hobfr : C'.ob fr = some (.arr 1 ds 0) := by simp [C', updF_apply]
  have hone : ∀ k o, C'.ob k = some o → k = fr ∧ o = .arr 1 ds 0 := by
    intro k o h
    simp only [C', updF_apply] at h
    split at h
    · rename_i e2; injection h with h; exact ⟨e2, h.symm⟩
    · cases h
  have hμ : C'.μ fr = v.ownBlock := by simp [C']
  have hE : Fr w.heap.size { μ := fun _ => none, F := F, ob := fun _ => none, w := w } C' :=
    ⟨⟨fun _ _ h => h, hcell, fun k ro cs hk => (by cases hk), fun k sz els ro hk => (by cases hk), fun k es hk => (by cases hk), fun b s h => (by
      have hlt := shape?_lt h
      rw [show C'.w = w' from rfl, shape?_of_block (hb.block b hlt)]; exact h), fun k hk => (by cases hk)⟩, hb, fun _ _ h => .inl h⟩
  have hsz : ∀ d ∈ ds, d.cells.length = 1 ∧ ∀ x ∈ d.cells, x.leaf = true := by
    intro d hd
    obtain ⟨i, hi⟩ := List.getElem?_of_mem hd
    have hlt : i < xs.length := by rw [hl]; exact (List.getElem?_eq_some_iff.1 hi).1
    obtain ⟨h1, h2, _⟩ := hx i xs[i] d (List.getElem?_eq_getElem hlt) hi
    rw [h1]
    exact ⟨rfl, fun x hx => by simp at hx; rw [hx]; exact h2⟩
  have hO : ORep w.heap.size C' fr (.arr 1 ds 0) := by
    rcases hrow.2 with ⟨hv, h0⟩ | ⟨g, cap, cur, hv, hge, hg, hn, _, hcs, htake⟩
    · have : ds = [] := List.length_eq_zero_iff.1 (by omega)
      rw [this]
      exact .empty (by rw [hμ, hv]; rfl)
    · refine .arr g e cur.size (by rw [hμ, hv]; rfl) hge (by show w'.shape? g = _; unfold World.shape?; rw [hg]) (by rw [hcs]; omega) (fun o => by show w'.frozen? _ = _; unfold World.frozen?; simp [hg]) (Nat.zero_le _) hsz (fun i j d x hd hj => ?_) (fun o ho => absurd ho (by simp)) (fun o _ hf => ?_)
      · have hlt : i < xs.length := by rw [hl]; exact (List.getElem?_eq_some_iff.1 hd).1
        obtain ⟨h1, _, h3⟩ := hx i xs[i] d (List.getElem?_eq_getElem hlt) hd
        rw [h1] at hj
        cases j with
        | zero =>
          simp at hj
          subst hj
          refine ⟨xs[i], ?_, h3⟩
          show w'.cell? ⟨g, i * 1 + 0, none⟩ = _
          unfold World.cell?
          simp only [hg, Option.isSome_none, Bool.false_eq_true, if_false, Nat.mul_one, Nat.add_zero]
          have := congrArg (fun l => l[i]?) htake
          simp only [Nat.mul_one] at this
          rw [List.getElem?_take_of_lt hlt, List.getElem?_eq_getElem hlt] at this
          simpa using this
        | succ j => simp at hj
      · have := cell?_lt (hF g o hf)
        simp at this
        omega
  refine ⟨C', rfl, rfl, ⟨fun k o h => ?_, fun k k' b s1 s2 _ _ => ?_, fun b o h => ?_, fun k ro cs h => ?_, hb.size⟩, hE, ?_, fun k hk => ?_⟩
  · obtain ⟨rfl, rfl⟩ := hone k o h
    exact hO
  · obtain ⟨o1, h1⟩ := Option.isSome_iff_exists.1 s1
    obtain ⟨o2, h2⟩ := Option.isSome_iff_exists.1 s2
    rw [(hone k o1 h1).1, (hone k' o2 h2).1]
  · rw [show C'.w = w' from rfl, hcell b o h]; exact hF b o h
  · cases (hone k _ h).2
  · have hw : ∀ els ro, C'.ob fr = some (.arr 1 els ro) → els = ds := fun els ro h => by
      have := (hone fr _ h).2
      injection this
    show RepV C' v (.sl fr ds.length 1 0 ds.length)
    rcases hrow.2 with ⟨hv, h0⟩ | ⟨g, cap, cur, hv, hge, hg, hn, _, hcs, htake⟩
    · subst hv
      refine .sl fun els ro ho => ?_
      rw [hw els ro ho]
      exact ⟨Nat.le_refl _, fun _ => ⟨by omega, by omega, by omega, .inl rfl⟩⟩
    · subst hv
      refine .sl fun els ro ho => ?_
      rw [hw els ro ho]
      refine ⟨Nat.le_refl _, fun _ => ⟨hl, by omega, by omega, .inr ⟨g, e, cur.size, hμ, by simp, ?_, by omega⟩⟩⟩
      show w'.shape? g = _
      unfold World.shape?
      rw [hg]
  · cases hk
    rw [hobfr]; rfl
theorem gives {w : World} {Bs oB : Nat} {sv : Value} {zs : List Int} (n : Nat) (hn : 1 ≤ n) (hr : zs.length * 8 ≤ 140737488351232) (hBs : w.cell? ⟨Bs, oB, none⟩ = some sv)
    (hsv : (∃ a c, sv = .slice a 0 c ∧ zs = []) ∨ ∃ b off cap, sv = .slice (some ⟨b, off, none⟩) zs.length cap ∧ ∀ j, j < zs.length → w.cell? ⟨b, off + j, none⟩ = some (.int .i64 (zs[j]?.getD 0))) :
    SeqGivesB Fence.wide n Tryz.prog 170 #[.pointer (some ⟨Bs, oB, none⟩)] encI (fun ys => ys = zs) zs.length w := by
  intro l J W hW hJ hB hY h0
  have hlt : Bs < w.heap.size := by have := cell?_lt (a := ⟨Bs, oB, none⟩) (by rw [hBs]; rfl); exact this
  have hc : W.cell? ⟨Bs, oB, none⟩ = some sv := (hW.cell (p := ⟨Bs, oB, none⟩) hlt).trans hBs
  rcases hsv with ⟨a, c, rfl, rfl⟩ | ⟨b, off, cap, rfl, hcs⟩
  · refine (Tz.values0_in Fence.wide n trivial rfl l Bs oB c a J W hc h0).mono ?_
    rintro e W' ⟨h1, h2⟩
    exact ⟨h1, [], rfl, h2⟩
  · have hcell : ∀ W', Below w.heap.size w W' → ∀ j, j < zs.length → W'.cell? ⟨b, off + j, none⟩ = some (.int .i64 (zs[j]?.getD 0)) := fun W' hb j hj => by
      have h1 := hcs j hj
      have hl2 : b < w.heap.size := by have := cell?_lt (a := ⟨b, off + j, none⟩) (by rw [h1]; rfl); exact this
      exact (hb.cell (p := ⟨b, off + j, none⟩) hl2).trans h1
    refine (Tz.values1_in Fence.wide n trivial rfl hn l Bs oB b off zs.length cap zs hr J (fun _ _ => False) (fun pre x W1 h1 h2 => ?_) W hc (hcell W hW) (fun pre W' hj => hcell W' (hB pre W' hj)) h0).mono ?_
    · obtain ⟨fn, tmps, assign, body, hy, hR⟩ := hY pre x W1 h1 h2
      exact ⟨fn, tmps, assign, body, hy, hR.mono fun e W' h => .inl h⟩
    · rintro e W' ⟨h1, ⟨ys, rfl, hj⟩ | ⟨pre, _, hj⟩⟩
      · exact ⟨h1, _, Tz.upto_all zs, hj⟩
      · exact hj.elim

theorem collect_ok (zs : List Int) (hr : zs.length * 8 ≤ 140737488351232) (hm : zs.length ≤ maxLen) : PCall Tryz.prog 169 [.fn 170 [] [.iptr [.list 1 (zs.map fun z => .lit (.int .i64 z))] 0]] [.own 1 (zs.map fun z => .lit (.int .i64 z))] := by
  refine ⟨⟨Tryz.f169, Tryz.func169, by decide, rfl⟩, fun fr F w args hl hrep hF => ?_⟩
  obtain ⟨v0, rfl⟩ : ∃ v0, args = #[v0] := by
    match args, hl with
    | ⟨[v0]⟩, _ => exact ⟨v0, rfl⟩
  have h0 := hrep 0 v0 _ rfl rfl
  cases h0 with
  | @fn _ first caps _ _ h1 h2 r1 r2 =>
    have hfirst : first = #[] := by apply Array.eq_empty_of_size_eq_zero; simpa using h1
    subst hfirst
    obtain ⟨p, rfl⟩ : ∃ p, caps = #[p] := by
      match caps, h2 with
      | ⟨[p]⟩, _ => exact ⟨p, rfl⟩
    have hp := r2 0 p _ rfl rfl
    cases hp with
    | @iptr b o _ _ vals g1 g2 g3 =>
      have hsv := g3 0 _ rfl
      have hcell := g2 0 (by simp)
      have hb := gives (zs := zs) (n := 3 - 1 - 1) (Bs := b) (oB := o + 0) (by omega) hr hcell (by
        generalize vals 0 = sv at hsv
        cases hsv' : zs with
        | nil =>
          subst hsv'
          left
          cases hsv with
          | list0 => exact ⟨_, _, rfl, rfl⟩
          | list vals2 hn h0 => simp at hn; omega
        | cons z zr =>
          rw [hsv'] at hsv
          right
          cases hsv with
          | @list b2 o2 n2 c2 _ _ vals2 hn h0 hc hz hF2 hw2 hr2 =>
            simp only [List.length_map] at hn
            subst hn
            refine ⟨b2, o2, c2, rfl, fun j hj => ?_⟩
            have q1 := hw2 j 0 hj (by omega)
            have q2 := hr2 j 0 (.lit (.int .i64 ((z :: zr)[j]?.getD 0))) _ (by rw [List.getElem?_map, List.getElem?_eq_getElem hj]; rfl) rfl
            have q3 := repD_lit q2
            rw [q3] at q1
            simpa using q1)
      have hcol := Tz.collect_in Fence.wide 3 trivial trivial rfl (by omega) 170 #[.pointer (some ⟨b, o + 0, none⟩)] trivial (fun args w => callFunc_run ⟨Tryz.f170, Tryz.func170, by decide, rfl⟩ args w) (fun ys => ys = zs) zs.length hm (by omega) w hb
      refine (callsIn_wide.1 hcol).mono ?_
      rintro e w' ⟨v, ss, rfl, rfl, hrow, _, hbl⟩
      have hrow' : w'.ownsRow w.heap.size 3 1 v (ss.map encI).length (ss.map encI) := by simpa using hrow
      obtain ⟨C', q1, q2, q3, q4, q5, q6⟩ := own_result hF hrow' hbl (ds := ss.map fun z => .lit (.int .i64 z)) (by simp) (fun i x d hx hd => by
        simp only [List.getElem?_map, Option.map_eq_some_iff] at hx hd
        obtain ⟨z, hz, rfl⟩ := hx
        obtain ⟨z', hz', rfl⟩ := hd
        rw [hz] at hz'
        injection hz' with hz'
        subst hz'
        exact ⟨rfl, rfl, .lit rfl⟩) fr
      exact ⟨v, C', rfl, q1, q2, q3, q4, q5, q6⟩
end Go.Lf
