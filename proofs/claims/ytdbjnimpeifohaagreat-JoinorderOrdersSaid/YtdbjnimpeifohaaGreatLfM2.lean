/- Soundness, part 10: the operations, one by one (stores, lengths, nil, parts). -/
import Derived.Test.YtdbjnimpeifohaaGreatLfM1
import Derived.Great.BuildSlice
import Derived.Laws.MakeOwn
set_option linter.all false
namespace Go.Lf
open Go.RowKit (Below)

section
variable {P : Program} {base : Nat} {C : Cx} {ρ : Operand → Value} {g : Nat → Option O} {fr : Nat} {o : Oper} {v : V} {us : List (Nat × O)}

theorem not_cellless {x : V} (h : x.cells.all V.leaf = true) : (∀ l, x ≠ .tup l) ∧ x ≠ .undef ∧ x ≠ .junk :=
  ⟨by rintro l rfl; simp [V.cells, V.leaf] at h, by rintro rfl; simp [V.cells, V.leaf] at h, by rintro rfl; simp [V.cells, V.leaf] at h⟩

theorem div_lem {i j i' j' sz q n : Nat} (hj : j' < sz) (hq : q = i * sz + j) (hn : j + n ≤ sz) (h : ¬ (i' = i ∧ j ≤ j' ∧ j' < j + n)) : i' * sz + j' < q ∨ q + n ≤ i' * sz + j' := by
  subst hq
  rcases Nat.lt_trichotomy i' i with h1 | h1 | h1
  · left
    have : (i' + 1) * sz ≤ i * sz := Nat.mul_le_mul_right _ h1
    rw [Nat.succ_mul] at this
    omega
  · subst h1
    omega
  · right
    have : (i + 1) * sz ≤ i' * sz := Nat.mul_le_mul_right _ h1
    rw [Nat.succ_mul] at this
    omega

theorem op_store (h : WRep base C) (hg : Sees g C) {t : TypeId} {a x : Operand} {v0 v1 : V} (ho : o.op = .store t a x) (hi : (P.info? t).isSome) (hv : RepV C (ρ a) v0) (hn0 : Valid C v0) (hx : RepV C (ρ x) v1) (hn1 : Valid C v1)
    (he : eff (.store (sizeT P t)) [v0, v1] g fr = some (v, us)) : OpRes P base C ρ o us v := by
  have hrun : ∀ (w' : World) (b y : Nat), ρ a = .pointer (some ⟨b, y, none⟩) → (storeVar t ⟨b, y, none⟩ (ρ x)).run P C.w = .ok () w' → (execOp ρ o).run P C.w = .ok .skip w' := by
    intro w' b y hr hs
    simp [execOp, ho, hr, Instr.storeAt, Instr.sureAddr, hs]
  simp only [eff] at he
  split at he
  · rename_i k j
    split at he
    · rename_i cs hk
      have hh := cond_some he
      clear he
      obtain ⟨hc, he⟩ := hh
      simp only [Bool.and_eq_true] at hc
      have hlen := beq_eq hc.1
      obtain ⟨q1, q2, q3⟩ := not_cellless hc.2
      obtain ⟨r1, r2⟩ := cells_rep hx q1 q2 q3
      have hall := hc.2
      rw [List.all_eq_true] at hall
      split at he
      · rename_i cs' hs
        simp only [Option.some.injEq, Prod.mk.injEq] at he
        obtain ⟨rfl, rfl⟩ := he
        generalize hr : ρ a = u at hv
        cases hv with
        | ptr hp =>
          obtain ⟨b, hb, rfl⟩ := hp false cs (hg _ _ hk)
          obtain ⟨w1, w2, C', hG⟩ := write_box h (vals := (ρ x).cells.toList) (hg _ _ hk) hb hs (by simpa using r1)
            (fun i u y hu hy => ⟨leaf_one (r2 i u y (by simpa using hu) hy) (hall y (List.mem_of_getElem? hy)), r2 i u y (by simpa using hu) hy⟩) (fun y hy => cells_valid hn1 q1 y hy)
          have hsz : (ρ x).cells.size = P.cellsOf t := r1.trans hlen
          refine ⟨Go.undef, C', .skip, ?_, .inr ⟨rfl, rfl⟩, ?_, .undef, fun k' hk' => by cases hk'⟩
          · rw [hG.w]
            refine hrun _ b j hr (storeVar_run hi C.w b j (ρ x) hsz (fun i hi2 => w1 i (by simp [hsz, hi2])) w2 ?_)
            intro c hc'
            obtain ⟨i, hi2⟩ := List.mem_iff_getElem?.1 hc'
            have hil : i < v1.cells.length := by
              have := (List.getElem?_eq_some_iff.1 hi2).1
              simp [r1] at this
              exact this
            exact leaf_one (r2 i c _ (by simpa using hi2) (List.getElem?_eq_getElem hil)) (hall _ (List.getElem_mem hil))
          · rw [hG.w]; exact hG
      · cases he
    · cases he
  · rename_i k n sz i j
    split at he
    · rename_i y us1 hz
      split at he
      · rename_i sz' els ro hk
        have hh := cond_some he
        clear he
        obtain ⟨hc, he⟩ := hh
        simp only [Bool.and_eq_true] at hc
        obtain ⟨⟨⟨⟨c1, c2⟩, c3⟩, c4⟩, c5⟩ := hc
        have e1 := beq_eq c1
        have e2 := beq_eq c2
        have e3 := ble_le c3
        have e4 := beq_eq c4
        subst e1
        split at he
        · rename_i d hd
          split at he
          · rename_i l' hs
            simp only [Option.some.injEq, Prod.mk.injEq] at he
            obtain ⟨rfl, rfl⟩ := he
            obtain ⟨C1, G1, r1, s1⟩ := frz_ok h hg hx hn1 hz
            generalize hr : ρ a = u at hv
            cases hv with
            | @ap ad _ _ _ _ _ hp =>
              have hk1 := s1 k _ hk
              have hlive : (C.ob k).isSome := hn0 k .ap
              obtain ⟨els0, ro0, p1, p2, p3⟩ := G1.fr.ext.arr k sz' els ro hlive hk1
              obtain ⟨p4, p5⟩ := hp els0 ro0 p1
              obtain ⟨b, hb, rfl⟩ := p5 (by omega)
              have hb1 : C1.μ k = some b := (p3 (by omega)).trans hb
              obtain ⟨t1, t2, t3, t4⟩ := setAt_spec d.cells j y.cells hs
              obtain ⟨rc1, rc2⟩ := r1.cells
              cases hO : G1.rep.objs k _ hk1 with
              | empty hm => rw [hb1] at hm; cases hm
              | arr b' e m hm hbb hsh hmm hzz hro hsz hcc hf hnf =>
                rw [hb1] at hm
                injection hm with hm
                subst hm
                have hil : i < els.length := (List.getElem?_eq_some_iff.1 hd).1
                have hdl := (hsz d (List.mem_of_getElem? hd))
                obtain ⟨d', hd'1, hd'2⟩ : ∃ d', reD d l' y = d' ∧ d'.cells = l' := by
                  refine ⟨_, rfl, ?_⟩
                  cases d with
                  | agg cs => rfl
                  | _ =>
                    have h1 : l'.length = 1 := t1
                    have h3 : j + y.cells.length ≤ 1 := t3
                    have hj : j = 0 := by omega
                    subst hj
                    have hy1 : y.cells.length = 1 := by omega
                    show y.cells = l'
                    refine List.ext_getElem? fun q => ?_
                    by_cases hq : q < 1
                    · rw [t4 q, if_pos (by omega)]; simp
                    · rw [List.getElem?_eq_none (by omega), List.getElem?_eq_none (by omega)]
                rw [hd'1]
                have hvl : (ρ x).cells.toList.length = y.cells.length := by simpa using rc1
                have hyl : ∀ z ∈ y.cells, z.leaf = true := by simpa [List.all_eq_true] using c5
                have hvone : ∀ u ∈ (ρ x).cells.toList, u.oneCell' = true := by
                  intro u hu
                  obtain ⟨q, hq⟩ := List.mem_iff_getElem?.1 hu
                  have hql : q < y.cells.length := by have := (List.getElem?_eq_some_iff.1 hq).1; omega
                  exact (rc2 q u _ (by simpa using hq) (List.getElem?_eq_getElem hql)).one (hyl _ (List.getElem_mem hql)) |>.1
                have hend : i * sz' + j + y.cells.length ≤ m := by
                  have : (i + 1) * sz' ≤ els.length * sz' := Nat.mul_le_mul_right _ hil
                  rw [Nat.succ_mul] at this
                  have := hdl.1
                  omega
                have hin : ∀ q, q < (ρ x).cells.toList.length → (C1.w.cell? ⟨b, i * sz' + j + q, none⟩).isSome = true := fun q hq => cell?_of_shape hsh (by omega)
                obtain ⟨C2, G2, _⟩ := write_arr G1.rep (vals := (ρ x).cells.toList) (q := i * sz' + j) (els' := els.set i d') hk1 hb1 hin hvone
                  (Nat.le_trans (Nat.mul_le_mul_right _ e3) (Nat.le_add_right _ _)) (by simp) (fun e' m' hm' => by rw [hsh] at hm'; cases hm'; simpa using hmm)
                  (fun z hz' => by
                    rcases List.mem_or_eq_of_mem_set hz' with hz' | rfl
                    · exact hsz z hz'
                    · rw [hd'2]
                      refine ⟨by rw [t1]; exact hdl.1, fun w hw => ?_⟩
                      obtain ⟨q, hq⟩ := List.mem_iff_getElem?.1 hw
                      rw [t4 q] at hq
                      split at hq
                      · exact hyl w (List.mem_of_getElem? hq)
                      · exact hdl.2 w (List.mem_of_getElem? hq))
                  (fun i' j' z w hz' hw => by
                    have hj' : j' < sz' := by
                      have h1 := (List.getElem?_eq_some_iff.1 hw).1
                      by_cases hii : i' = i
                      · subst hii
                        rw [List.getElem?_set_self hil] at hz'
                        injection hz' with hz'
                        subst hz'
                        rw [hd'2, t1, hdl.1] at h1
                        exact h1
                      · rw [List.getElem?_set_ne (Ne.symm hii)] at hz'
                        rw [(hsz z (List.mem_of_getElem? hz')).1] at h1
                        exact h1
                    by_cases hii : i' = i ∧ j ≤ j' ∧ j' < j + y.cells.length
                    · obtain ⟨rfl, h1, h2⟩ := hii
                      rw [List.getElem?_set_self hil] at hz'
                      injection hz' with hz'
                      subst hz'
                      rw [hd'2, t4 j', if_pos ⟨h1, h2⟩] at hw
                      left
                      refine ⟨by omega, ?_⟩
                      have hql : j' - j < (ρ x).cells.size := by omega
                      refine ⟨(ρ x).cells[j' - j], ?_, rc2 _ _ w (by simp [hql]) hw⟩
                      rw [show i' * sz' + j' - (i' * sz' + j) = j' - j by omega]
                      simp [hql]
                    · right
                      refine ⟨by rw [hvl]; exact div_lem hj' rfl (by have := hdl.1; omega) hii, ?_⟩
                      by_cases hi' : i' = i
                      · subst hi'
                        rw [List.getElem?_set_self hil] at hz'
                        injection hz' with hz'
                        subst hz'
                        rw [hd'2, t4 j', if_neg (by omega)] at hw
                        exact ⟨d, hd, hw⟩
                      · rw [List.getElem?_set_ne (Ne.symm hi')] at hz'
                        exact ⟨z, hz', hw⟩)
                have G12 := G1.trans G2
                rw [G1.ob, G1.w] at G12
                have hsz' : (ρ x).cells.size = P.cellsOf t := by rw [rc1]; exact e4
                refine ⟨Go.undef, C2, .skip, ?_, .inr ⟨rfl, rfl⟩, ?_, .undef, fun k' hk' => by cases hk'⟩
                · rw [G12.w]
                  refine hrun _ b _ hr (storeVar_run hi C.w b _ (ρ x) hsz' (fun q hq => ?_) (fun z => ?_) hvone)
                  · have := hin q (by simp [hsz', hq])
                    rwa [G1.w] at this
                  · have := hzz z
                    rwa [G1.w] at this
                · rw [G12.w, over_append]; exact G12
          · cases he
        · cases he
      · cases he
    · cases he
  · cases he
end
end Go.Lf
/- Soundness, part 11: the operations, one by one (nil, fields, lengths, cuts). -/
namespace Go.Lf
open Go.RowKit (Below)

section
variable {P : Program} {base : Nat} {C : Cx} {ρ : Operand → Value} {g : Nat → Option O} {fr : Nat} {o : Oper} {v : V} {us : List (Nat × O)}

theorem elemT_some {t e : TypeId} (h : elemT P t = some e) : ∃ i, P.underlying t = some (.slice e) ∧ P.info? e = some i ∧ 0 < i.size ∧ i.bytes ≤ 64 * i.size ∧ sizeT P e = i.size := by
  unfold elemT at h
  split at h
  · rename_i e' hue
    split at h
    · rename_i info hinfo
      obtain ⟨hc, h⟩ := cond_some h
      injection h with h
      subst h
      simp only [Bool.and_eq_true] at hc
      exact ⟨info, hue, hinfo, blt_lt hc.1, ble_le hc.2, by simp [sizeT, Program.cellsOf, hinfo]⟩
    · cases h
  · cases h

theorem op_eqNil (h : WRep base C) (hg : Sees g C) {op : BinOp} {neg : Bool} {t t' e : TypeId} {x y : Operand} {v1 v2 : V} (ho : o.op = .binOp op t x y t') (hop : op = if neg then .neq else .eql)
    (hu : P.underlying t = some (.slice e)) (h1 : RepV C (ρ x) v1) (h2 : RepV C (ρ y) v2) (he : eff (.eqNil neg) [v1, v2] g fr = some (v, us)) : OpRes P base C ρ o us v := by
  cases v2 <;> try (simp [eff] at he; done)
  generalize hy : ρ y = b at h2
  cases h2
  have fin : ∀ (a : Option Addr) (n c : Nat) (r : Bool), ρ x = .slice a n c → a.isNone = r → (some (V.d (.lit (.bool (bif neg then !r else r))), ([] : List (Nat × O))) = some (v, us)) → OpRes P base C ρ o us v := by
    intro a n c r hx hr he
    simp only [Option.some.injEq, Prod.mk.injEq] at he
    obtain ⟨rfl, rfl⟩ := he
    subst hr
    subst hop
    refine OpRes.quiet h (.bool (bif neg then !a.isNone else a.isNone)) ?_ (.d (.lit rfl)) Valid.d
    have q1 := Lib.run_equalIn_slice_nil (P := P) C.w 9999 t e a n c 0 0 hu
    cases neg <;> simp [execOp, ho, hx, hy, eqGuard, binOp, Op.equal, Op.maxDepth, q1]
  simp only [eff] at he
  split at he
  · generalize hx : ρ x = u at h1
    cases h1
    exact fin none 0 0 true hx rfl (by cases neg <;> exact he)
  · generalize hx : ρ x = u at h1
    cases h1 with
    | d hd =>
      cases hd with
      | list vals hlen hpos hcap hz hF hw hcell => exact fin _ _ _ false hx rfl (by cases neg <;> exact he)
  · split at he
    · rename_i sz' els ro hk
      have hh := cond_some he
      clear he
      obtain ⟨hc, he⟩ := hh
      simp only [Bool.and_eq_true] at hc
      have e1 := beq_eq hc.1
      have e2 := beq_eq hc.2
      subst e1
      generalize hx : ρ x = u at h1
      cases h1 with
      | sl hs =>
        obtain ⟨_, hs⟩ := hs els ro (hg _ _ hk)
        obtain ⟨hl, _, hlc, hs⟩ := hs e2
        rcases hs with hs | ⟨b, _, _, _, rfl, _⟩
        · omega
        · exact fin _ _ _ false hx rfl (by cases neg <;> exact he)
    · cases he
  · cases he

theorem op_eqNilP (h : WRep base C) (hg : Sees g C) {op : BinOp} {neg : Bool} {t t' e : TypeId} {x y : Operand} {v1 v2 : V} (ho : o.op = .binOp op t x y t') (hop : op = if neg then .neq else .eql)
    (hu : P.underlying t = some (.pointer e)) (h1 : RepV C (ρ x) v1) (h2 : RepV C (ρ y) v2) (he : eff (.eqNilP neg) [v1, v2] g fr = some (v, us)) : OpRes P base C ρ o us v := by
  have hpt : P.underlying t = some (.pointer (P.pointee t)) := by simp [Program.pointee, hu]
  have fin : ∀ (a : Option Addr) (r : Bool), ρ x = .pointer a → ρ y = .pointer none → a.isNone = r → (some (V.d (.lit (.bool (bif neg then !r else r))), ([] : List (Nat × O))) = some (v, us)) → OpRes P base C ρ o us v := by
    intro a r hx hy hr he
    simp only [Option.some.injEq, Prod.mk.injEq] at he
    obtain ⟨rfl, rfl⟩ := he
    subst hr
    subst hop
    refine OpRes.quiet h (.bool (bif neg then !a.isNone else a.isNone)) ?_ (.d (.lit rfl)) Valid.d
    have q1 := run_eql_pointer_nil (P := P) C.w t a hpt
    have q2 := run_neq_pointer_nil (P := P) C.w t a hpt
    cases neg
    · simp [execOp, ho, hx, hy, eqGuard, q1]
    · simp [execOp, ho, hx, hy, eqGuard, q2]
  unfold eff at he
  split at he <;> try (simp at *; done)
  rename_i heq1 heq2
  simp only [LOp.eqNilP.injEq, List.cons.injEq, and_true] at heq1 heq2
  subst heq1
  obtain ⟨rfl, rfl⟩ := heq2
  have hy := repV_lit h2
  split at he
  · exact fin none true (repV_lit h1) hy rfl (by cases neg <;> exact he)
  · have hh := cond_some he
    clear he
    obtain ⟨hp, he⟩ := hh
    obtain ⟨b, z, e1, _⟩ := ptrOk_some hg h1 hp
    exact fin _ false e1 hy rfl (by cases neg <;> exact he)

theorem op_fld (h : WRep base C) {t : TypeId} {x : Operand} {f : Nat} {fs : Array Field} {fd : Field} {ag : Bool} {v0 : V} (ho : o.op = .field t x f) (hu : P.underlying t = some (.struct fs)) (hf : fs[f]? = some fd)
    (ha : isAggT P fd.type = some ag) (hv : RepV C (ρ x) v0) (hn : Valid C v0) (he : eff (.fld ag fd.offset (sizeT P fd.type)) [v0] g fr = some (v, us)) : OpRes P base C ρ o us v := by
  have main : ∀ (ca : Array Value) (cs : List V), ρ x = .agg ca → ca.size = cs.length → (∀ (i : Nat) u y, ca[i]? = some u → cs[i]? = some y → RepV C u y) → (∀ y ∈ cs, Valid C y) →
      (match rdCells ag (sizeT P fd.type) fd.offset cs with | some x => some (x, ([] : List (Nat × O))) | none => none) = some (v, us) → OpRes P base C ρ o us v := by
    intro ca cs hx hl hc hval he
    split at he
    · rename_i y hy
      simp only [Option.some.injEq, Prod.mk.injEq] at he
      obtain ⟨rfl, rfl⟩ := he
      obtain ⟨r1, r2, r3⟩ := rd_ok hy (fun i => ca.getD i Go.undef) (fun i c hi => hc i _ c (arr_fun ca i (by rw [hl]; exact (List.getElem?_eq_some_iff.1 hi).1)) hi) hval
      refine OpRes.quiet h _ ?_ r1 r2
      obtain ⟨q1, q2⟩ := isAgg_run ha C.w
      cases ag with
      | true =>
        simp only [if_true] at r3
        simp [execOp, ho, hx, Instr.field, run_underlying hu, hf, asAgg, part, q1, info_size q2, readAt, sizeT]
        apply Array.ext
        · have := r3
          unfold sizeT at this
          simp
          omega
        · intro i h1 h2
          simp at h1 h2 ⊢
          rw [Array.getElem?_eq_getElem (by omega)]
          rfl
      | false =>
        simp only [Bool.false_eq_true, if_false] at r3
        obtain ⟨w, hw⟩ : ∃ w, ca[fd.offset]? = some w := ⟨_, arr_fun ca _ (by omega)⟩
        have hw' : ca.getD fd.offset Go.undef = w := by simp [Array.getD_eq_getD_getElem?, hw]
        simp only [readAt, Bool.false_eq_true, if_false, Nat.add_zero, hw']
        simp [execOp, ho, hx, Instr.field, run_underlying hu, hf, asAgg, part, q1, hw]
    · cases he
  simp only [eff] at he
  split at he
  · rename_i cs
    generalize hx : ρ x = u at hv
    cases hv with
    | d hd =>
      cases hd with
      | @agg ca _ hl hc =>
        refine main ca (cs.map V.d) hx (by simpa using hl) (fun i u y hu hy => ?_) (fun y hy => ?_) he
        · simp only [List.getElem?_map, Option.map_eq_some_iff] at hy
          obtain ⟨d, hd, rfl⟩ := hy
          exact .d (hc i u d hu hd)
        · simp only [List.mem_map] at hy
          obtain ⟨d, _, rfl⟩ := hy
          exact Valid.d
  · rename_i cs
    generalize hx : ρ x = u at hv
    cases hv with
    | @agg ca _ hl hc => exact main ca cs hx hl hc (fun y hy k hk => hn k (.agg hy hk)) he
  · cases he

/-- What a slice of the small language is in the model. -/
theorem sliceOf_ok (h : WRep base C) (hg : Sees g C) {u : Value} {x : V} (hv : RepV C u x) {sz : Nat} {ds : List D} (he : sliceOf g x = some (sz, ds)) :
    ∃ a c, u = .slice a ds.length c ∧ ds.length ≤ c ∧ (0 < ds.length → (∀ d ∈ ds, d.cells.length = sz ∧ ∀ y ∈ d.cells, y.leaf = true) ∧ ∃ b y, a = some ⟨b, y, none⟩ ∧
      ∀ i j, i < ds.length → j < sz → ∃ w, C.w.cell? ⟨b, y + (i * sz + j), none⟩ = some w ∧ ∀ d z, ds[i]? = some d → d.cells[j]? = some z → RepD C.F C.w w z) := by
  unfold sliceOf at he
  split at he
  · simp only [Option.some.injEq, Prod.mk.injEq] at he
    obtain ⟨rfl, rfl⟩ := he
    cases hv with
    | d hd =>
      cases hd with
      | @list0 a c => exact ⟨a, c, rfl, Nat.zero_le _, fun h => by simp at h⟩
      | @list b y n c _ _ vals hlen hpos hcap hz hF hw hcell =>
        subst hlen
        exact ⟨_, c, rfl, hcap, fun _ => ⟨hz, b, y, rfl, fun i j hi hj => ⟨vals i j, hw i j hi hj, fun d z hd hz => hcell i j d z hd hz⟩⟩⟩
  · simp only [Option.some.injEq, Prod.mk.injEq] at he
    obtain ⟨rfl, rfl⟩ := he
    cases hv
    exact ⟨none, 0, rfl, Nat.le_refl _, fun h => by simp at h⟩
  · split at he
    · rename_i k n sz2 off len _ sz' els ro hk
      have hh := cond_some he
      clear he
      obtain ⟨hc, he⟩ := hh
      simp only [Bool.and_eq_true] at hc
      obtain ⟨⟨c1, c2⟩, c3⟩ := hc
      have e1 := beq_eq c1
      have e2 := beq_eq c2
      have e3 := ble_le c3
      subst e1
      simp only [Option.some.injEq, Prod.mk.injEq] at he
      obtain ⟨rfl, rfl⟩ := he
      have hlen : ((els.drop off).take len).length = len := by simp; omega
      cases hv with
      | @sl a l c _ _ _ _ _ hs =>
        obtain ⟨_, hs⟩ := hs els ro (hg _ _ hk)
        obtain ⟨rfl, _, hlc, hs⟩ := hs e2
        refine ⟨a, c, by rw [hlen], by rw [hlen]; exact hlc, fun hpos => ?_⟩
        rw [hlen] at hpos
        rcases hs with hs | ⟨b, e', m', hb, rfl, hsh, hm⟩
        · omega
        · cases h.objs k _ (hg _ _ hk) with
          | empty hm' => rw [hb] at hm'; cases hm'
          | arr b' e m hm' hbb hs' hmm hz hro hsz hc hf hnf =>
            rw [hb] at hm'
            injection hm' with hm'
            subst hm'
            refine ⟨fun d hd => hsz d (List.mem_of_mem_drop (List.mem_of_mem_take hd)), b, off * sz', rfl, fun i j hi hj => ?_⟩
            rw [hlen] at hi
            have hlt : off + i < els.length := by omega
            have hd := List.getElem?_eq_getElem hlt
            have hcl := (hsz _ (List.getElem_mem hlt)).1
            obtain ⟨w, q1, q2⟩ := hc _ j _ _ hd (List.getElem?_eq_getElem (show j < els[off + i].cells.length by omega))
            refine ⟨w, by rw [show off * sz' + (i * sz' + j) = (off + i) * sz' + j by rw [Nat.add_mul]; omega]; exact q1, fun d z hd' hz' => ?_⟩
            rw [List.getElem?_take_of_lt hi, List.getElem?_drop, hd] at hd'
            injection hd' with hd'
            subst hd'
            rw [List.getElem?_eq_getElem (show j < els[off + i].cells.length by omega)] at hz'
            injection hz' with hz'
            subst hz'
            exact q2
    · cases he
  · cases he

theorem call_builtin {c : Call} {b : Builtin} (ho : o.op = .call c) (hc : c.callee = .builtin b) {w w' : World} {nx : Next}
    (hr : (builtin b c.argTypes o.type (c.args.map fun | .const _ => true | _ => false) (c.args.map ρ)).run P w = .ok nx w') : (execOp ρ o).run P w = .ok nx w' := by
  obtain ⟨callee, args, argTypes⟩ := c
  simp only at hc
  subst hc
  simp [execOp, ho, resolve, invoke]
  exact hr

theorem op_len (h : WRep base C) (hg : Sees g C) {c : Call} {x : Operand} {v0 : V} {e : TypeId} (ho : o.op = .call c) (hc : c.callee = .builtin .len) (hx : c.args.toList = [x]) (ht : (c.argTypes[0]?).bind P.underlying = some (.slice e))
    (hv : RepV C (ρ x) v0) (he : eff .len [v0] g fr = some (v, us)) : OpRes P base C ρ o us v := by
  obtain ⟨t, ht1, ht2⟩ := Option.bind_eq_some_iff.1 ht
  have ha : c.args = #[x] := by apply Array.ext'; simpa using hx
  simp only [eff] at he
  split at he
  · rename_i sz ds hs
    simp only [Option.some.injEq, Prod.mk.injEq] at he
    obtain ⟨rfl, rfl⟩ := he
    obtain ⟨a, cap, hu, _, _⟩ := sliceOf_ok h hg hv hs
    refine OpRes.quiet h (.int .i64 ds.length) (call_builtin ho hc ?_) (.d (.lit rfl)) Valid.d
    simp [builtin, ha, hu, Builtin.len_, ht1, run_underlying ht2, goInt]
  · cases he

theorem op_lenS (h : WRep base C) {c : Call} {x : Operand} {v0 : V} (ho : o.op = .call c) (hc : c.callee = .builtin .len) (hx : c.args.toList = [x]) (ht : (c.argTypes[0]?).bind P.underlying = some .string)
    (hv : RepV C (ρ x) v0) (he : eff .lenS [v0] g fr = some (v, us)) : OpRes P base C ρ o us v := by
  obtain ⟨t, ht1, ht2⟩ := Option.bind_eq_some_iff.1 ht
  have ha : c.args = #[x] := by apply Array.ext'; simpa using hx
  cases v0 <;> try (simp [eff] at he; done)
  rename_i d1
  cases d1 <;> try (simp [eff] at he; done)
  rename_i y
  cases y <;> try (simp [eff] at he; done)
  rename_i s
  simp only [eff, Option.some.injEq, Prod.mk.injEq] at he
  obtain ⟨rfl, rfl⟩ := he
  have e := repV_lit hv
  refine OpRes.quiet h (.int .i64 s.size) (call_builtin ho hc ?_) (.d (.lit rfl)) Valid.d
  simp [builtin, ha, e, Builtin.len_, ht1, run_underlying ht2, goInt]
end
end Go.Lf
/- Soundness, part 12: the operations, one by one (slice expressions, composite values, make). -/
namespace Go.Lf
open Go.RowKit (Below)

/-- Operands and what the small language has for them. -/
inductive Rel (C : Cx) (ρ : Operand → Value) : List Operand → List V → Prop
  | nil : Rel C ρ [] []
  | cons {x : Operand} {y : V} {xs : List Operand} {ys : List V} (h : RepV C (ρ x) y) (hn : Valid C y) (t : Rel C ρ xs ys) : Rel C ρ (x :: xs) (y :: ys)

theorem Rel.length {C : Cx} {ρ : Operand → Value} {xs : List Operand} {ys : List V} (h : Rel C ρ xs ys) : ys.length = xs.length := by
  induction h with
  | nil => rfl
  | cons _ _ _ ih => simp [ih]
theorem Rel.get {C : Cx} {ρ : Operand → Value} {xs : List Operand} {ys : List V} (h : Rel C ρ xs ys) : ∀ (i : Nat) x y, xs[i]? = some x → ys[i]? = some y → RepV C (ρ x) y ∧ Valid C y := by
  induction h with
  | nil => intro i x y hx; simp at hx
  | cons h hn _ ih =>
    intro i x y hx hy
    cases i with
    | zero => simp at hx hy; subst hx hy; exact ⟨h, hn⟩
    | succ i => exact ih i x y (by simpa using hx) (by simpa using hy)
theorem Rel.one {C : Cx} {ρ : Operand → Value} {x : Operand} {ys : List V} (h : Rel C ρ [x] ys) : ∃ y, ys = [y] ∧ RepV C (ρ x) y ∧ Valid C y := by
  cases h with | cons h hn t => cases t; exact ⟨_, rfl, h, hn⟩
theorem Rel.uncons {C : Cx} {ρ : Operand → Value} {x : Operand} {xs : List Operand} {ys : List V} (h : Rel C ρ (x :: xs) ys) : ∃ y r, ys = y :: r ∧ RepV C (ρ x) y ∧ Valid C y ∧ Rel C ρ xs r := by
  cases h with | cons h hn t => exact ⟨_, _, rfl, h, hn, t⟩

section
variable {P : Program} {base : Nat} {C : Cx} {ρ : Operand → Value} {g : Nat → Option O} {fr : Nat} {o : Oper} {v : V} {us : List (Nat × O)}

theorem optArg_ok {lo : Option Operand} {rest : List Operand} {vs r : List V} {l : Option Int} (h : Rel C ρ (lo.toList ++ rest) vs) (he : optArg lo.isSome vs = some (l, r)) :
    Rel C ρ rest r ∧ ((lo = none ∧ l = none) ∨ ∃ a k n, lo = some a ∧ l = some n ∧ ρ a = .int k n) := by
  cases lo with
  | none =>
    simp [optArg] at he
    obtain ⟨rfl, rfl⟩ := he
    exact ⟨h, .inl ⟨rfl, rfl⟩⟩
  | some a =>
    obtain ⟨y, r', rfl, h1, _, h3⟩ := h.uncons
    simp only [optArg, Option.isSome_some, cond_true] at he
    split at he
    · rename_i n hn
      simp only [Option.some.injEq, Prod.mk.injEq] at he
      obtain ⟨rfl, rfl⟩ := he
      obtain ⟨k, hk⟩ := intLit_some hn h1
      exact ⟨h3, .inr ⟨a, k, n, rfl, rfl, hk⟩⟩
    · cases he

theorem bound_run {k : IntKind} {n : Int} {y r d : Nat} (h : bound y (some n) d = some r) (code : BoundsCode) (w : World) : (Instr.sliceBound (.int k n) y code).run P w = .ok r w ∧ r ≤ y := by
  simp only [bound] at h
  obtain ⟨h1, h2⟩ := ite_some h
  injection h2 with h2
  subst h2
  exact ⟨by simp [Instr.sliceBound, asIntOf, h1], by omega⟩

/-- The bounds of a slice expression. -/
theorem bounds_run {lo hi mx : Option Operand} {l hh m : Option Int} {len cap ll h' mm : Nat} {isSlice : Bool} (h1 : (lo = none ∧ l = none) ∨ ∃ a k n, lo = some a ∧ l = some n ∧ ρ a = .int k n)
    (h2 : (hi = none ∧ hh = none) ∨ ∃ a k n, hi = some a ∧ hh = some n ∧ ρ a = .int k n) (h3 : (mx = none ∧ m = none) ∨ ∃ a k n, mx = some a ∧ m = some n ∧ ρ a = .int k n)
    (hm : bound cap m cap = some mm) (hno : hi = none → mx = none ∧ h' = len) (hyes : hh ≠ none → bound mm hh 0 = some h') (hl : bound h' l 0 = some ll) (w : World) :
    (Instr.sliceBounds isSlice len cap (lo.map ρ) (hi.map ρ) (mx.map ρ)).run P w = .ok (ll, h', mm) w := by
  have B := fun {k : IntKind} {n : Int} {y r d : Nat} (h : bound y (some n) d = some r) (code : BoundsCode) => (bound_run (P := P) (k := k) h code w).1
  rcases h1 with ⟨rfl, rfl⟩ | ⟨a1, k1, n1, rfl, rfl, e1⟩ <;> rcases h2 with ⟨rfl, rfl⟩ | ⟨a2, k2, n2, rfl, rfl, e2⟩ <;> rcases h3 with ⟨rfl, rfl⟩ | ⟨a3, k3, n3, rfl, rfl, e3⟩
  · simp only [bound, Option.some.injEq] at hm hl
    obtain ⟨_, rfl⟩ := hno rfl
    subst hm hl
    simp [Instr.sliceBounds]
  · exact absurd (hno rfl).1 (by simp)
  · simp only [bound, Option.some.injEq] at hm hl
    subst hm hl
    simp [Instr.sliceBounds, e2, B (hyes (by simp))]
  · simp only [bound, Option.some.injEq] at hl
    subst hl
    simp [Instr.sliceBounds, e2, e3, B (hyes (by simp)), B hm]
  · simp only [bound, Option.some.injEq] at hm
    obtain ⟨_, rfl⟩ := hno rfl
    subst hm
    simp [Instr.sliceBounds, e1, B hl]
  · exact absurd (hno rfl).1 (by simp)
  · simp only [bound, Option.some.injEq] at hm
    subst hm
    simp [Instr.sliceBounds, e1, e2, B (hyes (by simp)), B hl]
  · simp [Instr.sliceBounds, e1, e2, e3, B (hyes (by simp)), B hl, B hm]

theorem op_slcS (h : WRep base C) {t : TypeId} {x : Operand} {lo hi : Option Operand} {vs : List V} (ho : o.op = .slice t x lo hi none) (hu : P.underlying t = some .string) (hv : Rel C ρ (x :: (lo.toList ++ hi.toList)) vs)
    (he : eff (.slcS lo.isSome hi.isSome) vs g fr = some (v, us)) : OpRes P base C ρ o us v := by
  obtain ⟨v0, r, rfl, h0, hn0, hr⟩ := hv.uncons
  clear hv hn0
  cases v0 <;> try (simp [eff] at he; done)
  rename_i d0
  cases d0 <;> try (simp [eff] at he; done)
  rename_i y
  cases y <;> try (simp [eff] at he; done)
  rename_i s
  simp only [eff] at he
  split at he
  · cases he
  · rename_i l r1 hl
    obtain ⟨hr1, q1⟩ := optArg_ok hr hl
    split at he
    · cases he
    · rename_i hh r2 hh2
      obtain ⟨_, q2⟩ := optArg_ok (rest := []) (by simpa using hr1) hh2
      split at he
      · cases he
      · rename_i h' hb1
        split at he
        · cases he
        · rename_i ll hb2
          simp only [Option.some.injEq, Prod.mk.injEq] at he
          obtain ⟨rfl, rfl⟩ := he
          have e := repV_lit h0
          refine OpRes.quiet h (.string (s.extract ll h')) ?_ (.d (.lit rfl)) Valid.d
          have := bounds_run (P := P) (ρ := ρ) (lo := lo) (hi := hi) (mx := none) (m := none) (len := s.size) (cap := s.size) (mm := s.size) (h' := h') (isSlice := false) q1 q2 (.inl ⟨rfl, rfl⟩) rfl
            (fun hn => ⟨rfl, by
              rcases q2 with ⟨_, rfl⟩ | ⟨a, k, n, e, _⟩
              · simp [bound] at hb1; exact hb1.symm
              · rw [hn] at e; cases e⟩)
            (fun hne => by
              cases hh with
              | none => exact absurd rfl hne
              | some n => exact hb1) hb2 C.w
          simp only [Option.map_none] at this
          simp [execOp, ho, e, Instr.sliceAt, Instr.slice, run_underlying hu, this]

theorem sub_repD {F : Fz} {w : World} {a a' : Option Addr} {n c c' sz ll h' : Nat} {ds : List D} (hn : n = ds.length) (h : RepD F w (.slice a n c) (.list sz ds)) (h1 : ll ≤ h') (h2 : h' ≤ ds.length) (hc : h' - ll ≤ c')
    (ha : 0 < h' - ll → a' = a.map (·.add (ll * sz))) : RepD F w (.slice a' (h' - ll) c') (.list sz ((ds.drop ll).take (h' - ll))) := by
  rcases Nat.eq_zero_or_pos (h' - ll) with h0 | h0
  · rw [h0]
    simp
    exact .list0
  · have ha := ha h0
    subst ha
    have hlen : h' - ll = ((ds.drop ll).take (h' - ll)).length := by simp; omega
    cases h with
    | list0 => simp at h2; omega
    | @list b y _ _ _ _ vals hlen2 hpos hcap hz hF hw hcell =>
      simp only [Option.map_some, add_eq]
      have hget : ∀ i, i < h' - ll → ((ds.drop ll).take (h' - ll))[i]? = ds[ll + i]? := by
        intro i hi
        rw [List.getElem?_take_of_lt hi, List.getElem?_drop]
      refine .list (fun i j => vals (ll + i) j) hlen h0 hc (fun d hd => hz d (List.mem_of_mem_drop (List.mem_of_mem_take hd))) ?_ ?_ ?_
      · intro i j hi hj
        rw [show y + ll * sz + (i * sz + j) = y + ((ll + i) * sz + j) by rw [Nat.add_mul]; omega]
        exact hF _ _ (by omega) hj
      · intro i j hi hj
        rw [show y + ll * sz + (i * sz + j) = y + ((ll + i) * sz + j) by rw [Nat.add_mul]; omega]
        exact hw _ _ (by omega) hj
      · intro i j d x hd hx
        have hi : i < h' - ll := by
          have := (List.getElem?_eq_some_iff.1 hd).1
          omega
        rw [hget i hi] at hd
        exact hcell _ j d x hd hx

theorem bound_le {l : Option Int} {y r d : Nat} (h : bound y l d = some r) (hd : d ≤ y) : r ≤ y := by
  cases l with
  | none => simp only [bound, Option.some.injEq] at h; omega
  | some n =>
    simp only [bound] at h
    obtain ⟨g1, g2⟩ := ite_some h
    injection g2 with g2
    omega
theorem bound_widen {n : Int} {y y' r d : Nat} (h : bound y (some n) d = some r) (hy : y ≤ y') : bound y' (some n) d = some r := by
  simp only [bound] at h ⊢
  obtain ⟨g1, g2⟩ := ite_some h
  rw [if_pos (by omega)]
  exact g2

theorem op_slc (h : WRep base C) (hg : Sees g C) {t e : TypeId} {x : Operand} {lo hi mx : Option Operand} {vs : List V} (ho : o.op = .slice t x lo hi mx) (hu : elemT P t = some e) (hhm : hi = none → mx = none)
    (hv : Rel C ρ (x :: (lo.toList ++ (hi.toList ++ mx.toList))) vs) (hfr : us ≠ [] → C.ob fr = none) (he : eff (.slc (sizeT P e) lo.isSome hi.isSome mx.isSome) vs g fr = some (v, us)) : OpRes P base C ρ o us v := by
  obtain ⟨i, hu1, hi1, hpos, hby, hsz⟩ := elemT_some hu
  obtain ⟨v0, r, rfl, h0, hn0, hr⟩ := hv.uncons
  simp only [eff] at he
  split at he
  · cases he
  · rename_i l r1 hl
    obtain ⟨hr1, q1⟩ := optArg_ok hr hl
    split at he
    · cases he
    · rename_i hh r2 hh2
      obtain ⟨hr2, q2⟩ := optArg_ok hr1 hh2
      split at he
      · cases he
      · rename_i m r3 hm3
        obtain ⟨_, q3⟩ := optArg_ok (rest := []) (by simpa using hr2) hm3
        have hnone : hi = none → hh = none := by
          intro hn
          rcases q2 with ⟨_, rfl⟩ | ⟨a, k, n, e, _⟩
          · rfl
          · rw [hn] at e; cases e
        have run : ∀ (a : Option Addr) (len cap ll h' mm : Nat), ρ x = .slice a len cap → (Instr.sliceBounds true len cap (lo.map ρ) (hi.map ρ) (mx.map ρ)).run P C.w = .ok (ll, h', mm) C.w →
            (execOp ρ o).run P C.w = .ok (.value (.slice (if mm = ll then a else a.map (·.add (ll * sizeT P e))) (h' - ll) (mm - ll))) C.w := by
          intro a len cap ll h' mm hx hb
          simp [execOp, ho, hx, Instr.sliceAt, Instr.slice, run_underlying hu1, hb, sizeOf, typeInfo, hi1, hsz]
        split at he
        · rename_i k n sz' off len
          split at he
          · rename_i sz'' els ro hk
            have hx := cond_some he
            clear he
            obtain ⟨hc, he⟩ := hx
            simp only [Bool.and_eq_true] at hc
            obtain ⟨⟨⟨c1, c2⟩, c3⟩, c4⟩ := hc
            have e1 := beq_eq c1
            have e2 := beq_eq c2
            have e3 := beq_eq c3
            have e4 := ble_le c4
            split at he
            · cases he
            · have hmx : mx = none := by
                rcases q3 with ⟨rfl, _⟩ | ⟨_, _, _, _, e, _⟩
                · rfl
                · cases e
              subst hmx
              split at he
              · cases he
              · rename_i h' hb1
                split at he
                · cases he
                · rename_i ll hb2
                  simp only [Option.some.injEq, Prod.mk.injEq] at he
                  obtain ⟨rfl, rfl⟩ := he
                  generalize hx : ρ x = u at h0
                  cases h0 with
                  | @sl a l2 c _ _ _ _ _ hs =>
                    rw [e1, ← e2] at hk
                    obtain ⟨_, hs⟩ := hs els ro (hg _ _ hk)
                    obtain ⟨rfl, _, hlc, hs⟩ := hs e3
                    have hh'le : h' ≤ l2 := by
                      rcases q2 with ⟨_, rfl⟩ | ⟨_, _, n2, _, rfl, _⟩
                      · simp [bound] at hb1; omega
                      · exact (bound_run (P := P) (k := .i64) hb1 .index C.w).2
                    have hllle : ll ≤ h' := by
                      rcases q1 with ⟨_, rfl⟩ | ⟨_, _, n2, _, rfl, _⟩
                      · simp [bound] at hb2; omega
                      · exact (bound_run (P := P) (k := .i64) hb2 .index C.w).2
                    have hbr := bounds_run (P := P) (ρ := ρ) (lo := lo) (hi := hi) (mx := none) (m := none) (len := l2) (cap := c) (mm := c) (h' := h') (isSlice := true) q1 q2 (.inl ⟨rfl, rfl⟩) rfl
                      (fun hn => ⟨rfl, by rw [hnone hn] at hb1; simp [bound] at hb1; exact hb1.symm⟩)
                      (fun hne => by
                        cases hh with
                        | none => exact absurd rfl hne
                        | some n2 =>
                          simp only [bound] at hb1 ⊢
                          obtain ⟨g1, g2⟩ := ite_some hb1
                          rw [if_pos (by omega)]
                          exact g2) hb2 C.w
                    refine OpRes.quiet h _ (run a l2 c ll h' c hx hbr) (.sl fun els' ro' hk' => ?_) (fun k' hk' => by cases hk'; exact hn0 _ .sl)
                    rw [← e2] at hk'
                    rw [hg _ _ hk] at hk'
                    injection hk' with hk'
                    injection hk' with _ hk' _
                    subst hk'
                    refine ⟨by omega, fun _ => ⟨rfl, by omega, by omega, ?_⟩⟩
                    by_cases hcl : c = ll
                    · left; omega
                    · right
                      rcases hs with hs | ⟨b, e', m', hb, rfl, hsh, hmm⟩
                      · omega
                      · refine ⟨b, e', m', hb, ?_, hsh, ?_⟩
                        · rw [if_neg hcl, ← e2]
                          simp [add_eq, Nat.add_mul]
                        · rw [← e2, show off + ll + (c - ll) = off + c by omega]
                          exact hmm
          · cases he
        · rename_i sz' ds
          cases hbz : Nat.beq sz' (sizeT P e) with
          | false => simp [hbz] at he
          | true =>
            simp only [hbz, Bool.not_true, cond_false] at he
            have e1 := beq_eq hbz
            subst e1
            generalize hx : ρ x = u at h0
            have hds : ∃ a c, u = .slice a ds.length c ∧ ds.length ≤ c ∧ RepD C.F C.w u (.list (sizeT P e) ds) := by
              cases h0 with
              | d hd =>
                have hd' := hd
                cases hd with
                | @list0 a c => exact ⟨a, c, rfl, Nat.zero_le _, hd'⟩
                | list vals hlen _ hcap _ _ _ _ => subst hlen; exact ⟨_, _, rfl, hcap, hd'⟩
            obtain ⟨a, c, rfl, hcap, hrep⟩ := hds
            split at he
            · cases he
            · rename_i mm hbm
              split at he
              · cases he
              · rename_i h' hb1
                split at he
                · cases he
                · rename_i ll hb2
                  have hmmle : mm ≤ ds.length := bound_le hbm (Nat.le_refl _)
                  have hh'le : h' ≤ mm := by
                    refine bound_le hb1 ?_
                    cases hms : m.isSome with
                    | true => simp
                    | false =>
                      simp only [cond_false]
                      cases m with
                      | none => simp only [bound, Option.some.injEq] at hbm; omega
                      | some _ => simp at hms
                  have hllle : ll ≤ h' := bound_le hb2 (Nat.zero_le _)
                  have hhi : ∀ n2, hh = some n2 → bound mm (some n2) 0 = some h' := by
                    rintro n2 rfl
                    simpa [bound] using hb1
                  cases hms : m.isSome with
                  | true =>
                    obtain ⟨am, km, nm, hmx, hmn, em⟩ := q3.resolve_left (by rintro ⟨_, rfl⟩; simp at hms)
                    have hbr := bounds_run (P := P) (ρ := ρ) (lo := lo) (hi := hi) (mx := mx) (m := m) (len := ds.length) (cap := c) (mm := mm) (h' := h') (isSlice := true) q1 q2 q3
                      (by rw [hmn] at hbm ⊢; have := bound_widen hbm hcap; simpa [bound] using this)
                      (fun hn => by rw [hhm hn] at hmx; cases hmx)
                      (fun hne => by
                        cases hh with
                        | none => exact absurd rfl hne
                        | some n2 => exact hhi n2 rfl) hb2 C.w
                    have hr := run a ds.length c ll h' mm hx hbr
                    simp only [hms, Bool.true_and] at he
                    cases hml : Nat.beq mm ll with
                    | true =>
                      have hml := beq_eq hml
                      simp only [hml, show Nat.beq ll ll = true from Nat.beq_refl ll, cond_true, Option.some.injEq, Prod.mk.injEq] at he
                      obtain ⟨rfl, rfl⟩ := he
                      obtain ⟨C', hG, hμ⟩ := new_none h (hfr (by simp)) (sizeT P e)
                      refine ⟨_, C', .value _, by rw [hG.w]; exact hr, .inl rfl, by rw [hG.w]; exact hG, ?_, ?_⟩
                      · rw [show h' - ll = 0 by omega, show mm - ll = 0 by omega]
                        exact .sl fun els ro _ => ⟨Nat.zero_le _, fun _ => ⟨rfl, Nat.le_refl _, Nat.le_refl _, .inl rfl⟩⟩
                      · intro k hk
                        cases hk
                        rw [hG.ob, updF_apply, if_pos rfl]
                        rfl
                    | false =>
                      simp only [hml, cond_false, Option.some.injEq, Prod.mk.injEq] at he
                      obtain ⟨rfl, rfl⟩ := he
                      have hne : mm ≠ ll := by rintro rfl; rw [Nat.beq_refl] at hml; cases hml
                      exact OpRes.quiet h _ hr (.d (sub_repD rfl hrep hllle (by omega) (by omega) (fun _ => by rw [if_neg hne]))) Valid.d
                  | false =>
                    have hm0 : m = none := by cases m <;> simp_all
                    subst hm0
                    obtain ⟨hmx, _⟩ := q3.resolve_right (by rintro ⟨_, _, _, _, e, _⟩; cases e)
                    simp only [bound, Option.some.injEq] at hbm
                    subst hbm
                    have hbr := bounds_run (P := P) (ρ := ρ) (lo := lo) (hi := hi) (mx := mx) (m := none) (len := ds.length) (cap := c) (mm := c) (h' := h') (isSlice := true) q1 q2 q3 rfl
                      (fun hn => ⟨hmx, by rw [hnone hn] at hb1; simp [bound] at hb1; exact hb1.symm⟩)
                      (fun hne => by
                        cases hh with
                        | none => exact absurd rfl hne
                        | some n2 => exact bound_widen (hhi n2 rfl) hcap) hb2 C.w
                    have hr := run a ds.length c ll h' c hx hbr
                    simp only [Option.isSome_none, Bool.false_and, cond_false, Option.some.injEq, Prod.mk.injEq] at he
                    obtain ⟨rfl, rfl⟩ := he
                    exact OpRes.quiet h _ hr (.d (sub_repD rfl hrep hllle (by omega) (by omega) (fun hp => by rw [if_neg (by omega)]))) Valid.d
        · rename_i sz'
          generalize hx : ρ x = u at h0
          cases h0
          split at he
          · cases he
          · rename_i mm hbm
            split at he
            · cases he
            · rename_i h' hb1
              split at he
              · cases he
              · rename_i ll hb2
                simp only [Option.some.injEq, Prod.mk.injEq] at he
                obtain ⟨rfl, rfl⟩ := he
                have g1 : mm ≤ 0 := bound_le hbm (Nat.le_refl _)
                have g2 : h' ≤ mm := bound_le hb1 (Nat.zero_le _)
                have g3 : ll ≤ h' := bound_le hb2 (Nat.zero_le _)
                have hbr := bounds_run (P := P) (ρ := ρ) (lo := lo) (hi := hi) (mx := mx) (m := m) (len := 0) (cap := 0) (mm := mm) (h' := h') (isSlice := true) q1 q2 q3 hbm
                  (fun hn => ⟨hhm hn, by omega⟩)
                  (fun hne => by
                    cases hh with
                    | none => exact absurd rfl hne
                    | some n2 => exact hb1) hb2 C.w
                have hr := run none 0 0 ll h' mm hx hbr
                refine OpRes.quiet h _ hr ?_ (fun k hk => by cases hk)
                rw [show mm = ll by omega, show h' - ll = 0 by omega, Nat.sub_self, if_pos rfl]
                exact .nil
        · cases he
end
end Go.Lf
/- Soundness, part 13: composite values, slice literals, make. -/
namespace Go.Lf
open Go.RowKit (Below)

theorem fold_set (off : Nat) : ∀ (l : List Value) (k : Nat) (cs : Array Value),
    ((l.zipIdx k).foldl (fun cs p => cs.setIfInBounds (off + p.2) p.1) cs).size = cs.size ∧
    (off + k + l.length ≤ cs.size → ∀ i, ((l.zipIdx k).foldl (fun cs p => cs.setIfInBounds (off + p.2) p.1) cs)[i]? = if off + k ≤ i ∧ i < off + k + l.length then l[i - (off + k)]? else cs[i]?)
  | [], k, cs => ⟨rfl, fun _ i => by simp; intro h1 h2; omega⟩
  | v :: l, k, cs => by
    obtain ⟨h1, h2⟩ := fold_set off l (k + 1) (cs.setIfInBounds (off + k) v)
    simp only [List.zipIdx_cons, List.foldl_cons]
    refine ⟨by rw [h1]; simp, fun hle i => ?_⟩
    rw [h2 (by simp at hle ⊢; omega) i]
    by_cases c1 : off + (k + 1) ≤ i ∧ i < off + (k + 1) + l.length
    · rw [if_pos c1, if_pos (by simp; omega)]
      rw [show i - (off + k) = (i - (off + (k + 1))) + 1 by omega]
      simp
    · rw [if_neg c1]
      by_cases c2 : i = off + k
      · subst c2
        rw [if_pos (by simp)]
        have : off + k < cs.size := by simp at hle; omega
        simp [this]
      · rw [if_neg (by simp; omega)]
        rw [Array.getElem?_setIfInBounds_ne (Ne.symm c2)]

theorem fill_cons {place : Nat → Option (Nat × Nat)} {cells : Array Value} {i : Nat} {v : Value} {rest : List (Nat × Value)} {off size : Nat} (hp : place i = some (off, size)) (hs : v.cells.size = size) (hf : off + size ≤ cells.size) :
    ∃ cells' : Array Value, Instr.fill place cells ((i, v) :: rest) = Instr.fill place cells' rest ∧ cells'.size = cells.size ∧
      ∀ q, cells'[q]? = if off ≤ q ∧ q < off + size then v.cells[q - off]? else cells[q]? := by
  obtain ⟨h1, h2⟩ := fold_set off v.cells.toList 0 cells
  refine ⟨(v.cells.toList.zipIdx 0).foldl (fun cs p => cs.setIfInBounds (off + p.2) p.1) cells, ?_, h1, fun q => ?_⟩
  · simp only [Instr.fill, hp]
    rw [if_neg (by simp [hs]; omega)]
    congr 1
    rw [← Array.foldl_toList]
    congr 1
    simp
  · rw [h2 (by simp [hs]; omega) q]
    simp [hs]

section
variable {P : Program} {base : Nat} {C : Cx} {ρ : Operand → Value} {g : Nat → Option O} {fr : Nat} {o : Oper} {v : V} {us : List (Nat × O)}

theorem solid_ne {x : V} (h : x.solid = true) : (∀ l, x ≠ .tup l) ∧ x ≠ .undef ∧ x ≠ .junk :=
  ⟨by rintro l rfl; simp [V.solid] at h, by rintro rfl; simp [V.solid] at h, by rintro rfl; simp [V.solid] at h⟩

theorem fillV_ok (place : Nat → Option (Nat × Nat)) : ∀ (parts : List (Nat × Operand)) (ps : List (Nat × Nat)) (vs z : List V) (cells : Array Value) {cs : List V}, Rel C ρ (parts.map (·.2)) vs →
    (∀ (i : Nat) p q, parts[i]? = some p → ps[i]? = some q → place p.1 = some q) → ps.length = parts.length → cells.size = z.length → (∀ (i : Nat) u y, cells[i]? = some u → z[i]? = some y → RepV C u y) → (∀ y ∈ z, Valid C y) →
    fillV z ps vs = some cs → ∃ cells', Instr.fill place cells (parts.map fun p => (p.1, ρ p.2)) = some cells' ∧ cells'.size = cs.length ∧ (∀ (i : Nat) u y, cells'[i]? = some u → cs[i]? = some y → RepV C u y) ∧ (∀ y ∈ cs, Valid C y)
  | [], ps, vs, z, cells, cs, hr, hp, hl, hsz, hc, hval, he => by
    cases hr
    cases ps with
    | cons => simp at hl
    | nil =>
      simp only [fillV, Option.some.injEq] at he
      subst he
      exact ⟨cells, rfl, hsz, hc, hval⟩
  | p :: parts, ps, vs, z, cells, cs, hr, hp, hl, hsz, hc, hval, he => by
    obtain ⟨y, r, rfl, h1, hn, hr⟩ := hr.uncons
    cases ps with
    | nil => simp at hl
    | cons q ps =>
      obtain ⟨off, s⟩ := q
      simp only [fillV] at he
      have hh := cond_some he
      clear he
      obtain ⟨hsol, he⟩ := hh
      simp only [Bool.and_eq_true] at hsol
      obtain ⟨a1, a2, a3⟩ := solid_ne hsol.1
      have hlen := beq_eq hsol.2
      obtain ⟨r1, r2⟩ := cells_rep h1 a1 a2 a3
      split at he
      · rename_i z' hz
        obtain ⟨t1, t2, t3, t4⟩ := setAt_spec z off y.cells hz
        obtain ⟨cells', f1, f2, f3⟩ := fill_cons (rest := parts.map fun p => (p.1, ρ p.2)) (hp 0 p (off, s) rfl rfl) (v := ρ p.2) (r1.trans hlen) (cells := cells) (by omega)
        obtain ⟨cells'', g1, g2, g3, g4⟩ := fillV_ok place parts ps r z' cells' hr (fun i p q h1 h2 => hp (i + 1) p q (by simpa using h1) (by simpa using h2)) (by simpa using hl) (by omega)
          (fun i u w hu hw => by
            rw [f3] at hu
            rw [t4] at hw
            rw [hlen] at hw
            split at hu
            · rename_i hin
              rw [if_pos hin] at hw
              exact r2 _ u w hu hw
            · rename_i hin
              rw [if_neg hin] at hw
              exact hc i u w hu hw)
          (fun w hw => by
            obtain ⟨i, hi⟩ := List.mem_iff_getElem?.1 hw
            rw [t4] at hi
            split at hi
            · exact cells_valid hn a1 w (List.mem_of_getElem? hi)
            · exact hval w (List.mem_of_getElem? hi)) he
        exact ⟨cells'', by simp only [List.map_cons]; rw [f1]; exact g1, g2, g3, g4⟩
      · cases he

theorem partsOf_get {fs : Array Field} : ∀ (parts : List (Nat × Operand)) {ps : List (Nat × Nat)}, partsOf P fs parts = some ps → ps.length = parts.length ∧
    ∀ (i : Nat) p q, parts[i]? = some p → ps[i]? = some q → ∃ f info, fs[p.1]? = some f ∧ P.info? f.type = some info ∧ q = (f.offset, info.size)
  | [], ps, h => by simp only [partsOf, Option.some.injEq] at h; subst h; exact ⟨rfl, fun i p q hp => by simp at hp⟩
  | (n, x) :: r, ps, h => by
    simp only [partsOf] at h
    split at h
    · rename_i f l hf hl
      split at h
      · rename_i info hi
        injection h with h
        subst h
        obtain ⟨a, b⟩ := partsOf_get r hl
        refine ⟨by simp [a], fun i p q hp hq => ?_⟩
        cases i with
        | zero =>
          simp at hp hq
          subst hp hq
          exact ⟨f, info, hf, hi, by simp [sizeT, Program.cellsOf, hi]⟩
        | succ i => exact b i p q (by simpa using hp) (by simpa using hq)
      · cases h
    · cases h

theorem mapM_all {α β : Type} {f : α → Option β} {q : α → β} : ∀ (l : List α), (∀ x ∈ l, f x = some (q x)) → l.mapM f = some (l.map q)
  | [], _ => rfl
  | a :: l, h => by
    simp only [List.mapM_cons, h a (List.mem_cons_self ..), mapM_all l (fun x hx => h x (List.mem_cons_of_mem _ hx))]
    rfl

theorem op_build (h : WRep base C) {t : TypeId} {parts : Array (Nat × Operand)} {fs : Array Field} {z : Value} {ss : List Nat} {zero : List V} {ps : List (Nat × Nat)} {vs : List V} (ho : o.op = .build t parts) (hu : P.underlying t = some (.struct fs))
    (hz : (P.info? t).bind (·.zero) = some z) (hzl : cLeafs ss z.cells.toList = some zero) (hps : partsOf P fs parts.toList = some ps) (hinfo : (fs.toList.all fun f => (P.info? f.type).isSome) = true)
    (hv : Rel C ρ (parts.toList.map (·.2)) vs) (he : eff (.build zero ps) vs g fr = some (v, us)) : OpRes P base C ρ o us v := by
  simp only [eff] at he
  split at he
  · rename_i cs hcs
    simp only [Option.some.injEq, Prod.mk.injEq] at he
    obtain ⟨rfl, rfl⟩ := he
    obtain ⟨it, hit, hz⟩ := Option.bind_eq_some_iff.1 hz
    obtain ⟨l1, l2, l3⟩ := leafs_rep (C := C) ss _ hzl
    obtain ⟨p1, p2⟩ := partsOf_get parts.toList hps
    rw [List.all_eq_true] at hinfo
    have hplaces : fs.toList.mapM (fun f => (P.info? f.type).map fun i => (f.offset, i.size)) = some (fs.toList.map fun f => (f.offset, P.cellsOf f.type)) := by
      refine mapM_all _ (fun f hf => ?_)
      obtain ⟨i, hi⟩ := Option.isSome_iff_exists.1 (hinfo f hf)
      simp [hi, Program.cellsOf]
    obtain ⟨cells', f1, f2, f3, f4⟩ := fillV_ok (C := C) (ρ := ρ) ((fs.toList.map fun f => (f.offset, P.cellsOf f.type)).toArray[·]?) parts.toList ps vs zero z.cells hv
      (fun i p q hp hq => by
        obtain ⟨f, info, hf, hi, rfl⟩ := p2 i p q hp hq
        have : fs.toList[p.1]? = some f := by simpa using hf
        simp [this, Program.cellsOf, hi]) p1 (by simpa using l1.symm) (fun i u y hu hy => (l2 i u y (by simpa using hu) hy).2) (fun y hy => l3 y hy C) hcs
    have hb : P.built t (parts.map fun p => (p.1, ρ p.2)).toList = some cells' := by
      simp only [Program.built, hit, hu, hz, hplaces]
      rw [Array.toList_map]
      exact f1
    have := run_build (P := P) C.w t (parts.map fun p => (p.1, ρ p.2)) cells' hb
    refine OpRes.quiet h (.agg cells') ?_ (mkAgg_rep f2 f3) (mkAgg_valid f4)
    simp [execOp, ho, this]
  · cases he

theorem zeroD_ok {e : TypeId} {z : D} (h : zeroD P e = some z) : ∃ i zv, P.info? e = some i ∧ i.zero = some zv ∧ zv.cells.size = z.cells.length ∧ ∀ F w (j : Nat) u y, zv.cells[j]? = some u → z.cells[j]? = some y → RepD F w u y ∧ u.oneCell' = true := by
  unfold zeroD at h
  have toD_ok : ∀ {x : V} {d : D}, x.toD = some d → ∀ {sz : Nat} {u : Value}, cLeaf sz u = some x → ∀ F w, RepD F w u d ∧ u.oneCell' = true := by
    intro x d hd sz u hu F w
    unfold cLeaf at hu
    split at hu
    · injection hu with hu
      subst hu
      simp only [V.toD, Option.some.injEq] at hd
      subst hd
      exact ⟨.list0, rfl⟩
    · obtain ⟨h1, h2⟩ := cond_some hu
      injection h2 with h2
      subst h2
      simp only [V.toD, Option.some.injEq] at hd
      subst hd
      exact ⟨.lit h1, scal_one h1⟩
  have toDs_ok : ∀ (l : List Value) (ss : List Nat) {vs : List V} {ds : List D}, cLeafs ss l = some vs → toDs vs = some ds → ds.length = l.length ∧ ∀ F w (j : Nat) u y, l[j]? = some u → ds[j]? = some y → RepD F w u y ∧ u.oneCell' = true := by
    intro l
    induction l with
    | nil =>
      intro ss vs ds h1 h2
      simp only [cLeafs, Option.some.injEq] at h1
      subst h1
      simp only [toDs, Option.some.injEq] at h2
      subst h2
      exact ⟨rfl, fun F w j u y hu => by simp at hu⟩
    | cons v r ih =>
      intro ss vs ds h1 h2
      simp only [cLeafs] at h1
      split at h1
      · rename_i x l' ha hb
        injection h1 with h1
        subst h1
        simp only [toDs] at h2
        split at h2
        · rename_i d ds' hc hd
          injection h2 with h2
          subst h2
          obtain ⟨q1, q2⟩ := ih _ hb hd
          refine ⟨by simp [q1], fun F w j u y hu hy => ?_⟩
          cases j with
          | zero => simp at hu hy; subst hu hy; exact toD_ok hc ha F w
          | succ j => exact q2 F w j u y (by simpa using hu) (by simpa using hy)
        · cases h2
      · cases h1
  split at h
  · rename_i cs hz
    obtain ⟨i, hi, hz⟩ := Option.bind_eq_some_iff.1 hz
    split at h
    · rename_i vs hvs
      simp only [Option.map_eq_some_iff] at h
      obtain ⟨ds, hds, rfl⟩ := h
      obtain ⟨q1, q2⟩ := toDs_ok _ _ hvs hds
      exact ⟨i, _, hi, hz, by simpa [Value.cells, D.cells] using q1.symm, fun F w j u y hu hy => q2 F w j u y (by simpa [Value.cells] using hu) hy⟩
    · cases h
  · rename_i zv hna hz
    obtain ⟨i, hi, hz⟩ := Option.bind_eq_some_iff.1 hz
    split at h
    · rename_i x hx
      have hr := fun F w => toD_ok h hx F w
      have hone := (hr (fun _ _ => False) default).2
      have hzc : zv.cells = #[zv] := by cases zv <;> simp_all [Value.cells, Value.oneCell']
      have hzl : z.cells = [z] := by
        unfold cLeaf at hx
        split at hx
        · injection hx with hx; subst hx; simp only [V.toD, Option.some.injEq] at h; subst h; rfl
        · obtain ⟨_, hx⟩ := cond_some hx
          injection hx with hx; subst hx; simp only [V.toD, Option.some.injEq] at h; subst h; rfl
      refine ⟨i, zv, hi, hz, by rw [hzc, hzl]; rfl, fun F w j u y hu hy => ?_⟩
      rw [hzc] at hu
      rw [hzl] at hy
      cases j with
      | zero => simp at hu hy; subst hu hy; exact hr F w
      | succ j => simp at hu
    · cases h
  · cases h
end
end Go.Lf
/- Soundness, part 14: slice literals, make, append. -/
namespace Go.Lf
open Go.RowKit (Below)

theorem made_get (zero : Array Value) (N sz q : Nat) (hz : zero.size = sz) (hq : q < N) (hs : 0 < sz) : ((Array.range N).map fun i => zero[i % zero.size]!)[q]? = zero[q % sz]? := by
  have : q % sz < zero.size := by rw [hz]; exact Nat.mod_lt _ hs
  subst hz
  simp [hq, this]

theorem idx_mod {i j sz : Nat} (hj : j < sz) : (i * sz + j) % sz = j := by
  rw [Nat.mul_comm, Nat.mul_add_mod]; exact Nat.mod_eq_of_lt hj
theorem idx_lt {i j n sz : Nat} (hi : i < n) (hj : j < sz) : i * sz + j < n * sz := by
  have : (i + 1) * sz ≤ n * sz := Nat.mul_le_mul_right _ hi
  rw [Nat.succ_mul] at this
  omega

theorem over_none {f : Nat → Option O} {us : List (Nat × O)} {k : Nat} (h : ∀ p ∈ us, p.1 ≠ k) : over f us k = f k := by
  induction us generalizing f with
  | nil => rfl
  | cons p r ih =>
    obtain ⟨j, x⟩ := p
    rw [over_cons, ih (fun q hq => h q (List.mem_cons_of_mem _ hq)), updF_apply, if_neg (Ne.symm (h (j, x) (List.mem_cons_self ..)))]
theorem over_some {f : Nat → Option O} {us : List (Nat × O)} {k : Nat} (hu : ∀ p ∈ us, (f p.1).isSome) (h : (over f us k).isSome) : (f k).isSome := by
  by_cases hk : ∀ p ∈ us, p.1 ≠ k
  · rwa [over_none hk] at h
  · simp only [ne_eq, Classical.not_forall, Decidable.not_not] at hk
    obtain ⟨p, hp, rfl⟩ := hk
    exact hu p hp
theorem frz0_ids {g : Nat → Option O} {x : V} {d : D} {us : List (Nat × O)} (h : frz0 g x = some (d, us)) : ∀ p ∈ us, (g p.1).isSome := by
  unfold frz0 at h
  split at h
  · simp only [Option.some.injEq, Prod.mk.injEq] at h; obtain ⟨_, rfl⟩ := h; simp
  · simp only [Option.some.injEq, Prod.mk.injEq] at h; obtain ⟨_, rfl⟩ := h; simp
  · split at h
    · rename_i hk
      obtain ⟨_, h⟩ := cond_some h
      simp only [Option.some.injEq, Prod.mk.injEq] at h
      obtain ⟨_, rfl⟩ := h
      simp [hk]
    · cases h
  · cases h
theorem frzL0_ids' (xs : List V) : ∀ (g : Nat → Option O) (ds : List D) (us : List (Nat × O)), frzL0 g xs = some (ds, us) → ∀ p ∈ us, (g p.1).isSome := by
    induction xs with
    | nil => intro g ds us h; simp only [frzL0, Option.some.injEq, Prod.mk.injEq] at h; obtain ⟨_, rfl⟩ := h; simp
    | cons x r ih =>
      intro g ds us h
      simp only [frzL0] at h
      split at h
      · cases h
      · rename_i d us1 h1
        split at h
        · cases h
        · rename_i l us2 h2
          simp only [Option.some.injEq, Prod.mk.injEq] at h
          obtain ⟨_, rfl⟩ := h
          intro p hp
          rcases List.mem_append.1 hp with hp | hp
          · exact frz0_ids h1 p hp
          · exact over_some (frz0_ids h1) (ih _ _ _ h2 p hp)
theorem frzL0_ids (g : Nat → Option O) (xs : List V) {ds : List D} {us : List (Nat × O)} (h : frzL0 g xs = some (ds, us)) : ∀ p ∈ us, (g p.1).isSome := frzL0_ids' xs g ds us h
theorem frzP_ids {g : Nat → Option O} {x : V} {d : D} {us : List (Nat × O)} (h : frzP g x = some (d, us)) : ∀ p ∈ us, (g p.1).isSome := by
  unfold frzP at h
  split at h
  · split at h
    · rename_i hk
      split at h
      · rename_i h1
        simp only [Option.some.injEq, Prod.mk.injEq] at h
        obtain ⟨_, rfl⟩ := h
        intro p hp
        rcases List.mem_append.1 hp with hp | hp
        · exact frzL0_ids _ _ h1 p hp
        · simp at hp; subst hp; simp [hk]
      · cases h
    · cases h
  · split at h
    · rename_i hk
      obtain ⟨_, h⟩ := cond_some h
      split at h
      · simp only [Option.some.injEq, Prod.mk.injEq] at h
        obtain ⟨_, rfl⟩ := h
        simp [hk]
      · cases h
    · cases h
  · exact frz0_ids h
theorem frzLP_ids' (xs : List V) : ∀ (g : Nat → Option O) (ds : List D) (us : List (Nat × O)), frzLP g xs = some (ds, us) → ∀ p ∈ us, (g p.1).isSome := by
    induction xs with
    | nil => intro g ds us h; simp only [frzLP, Option.some.injEq, Prod.mk.injEq] at h; obtain ⟨_, rfl⟩ := h; simp
    | cons x r ih =>
      intro g ds us h
      simp only [frzLP] at h
      split at h
      · cases h
      · rename_i d us1 h1
        split at h
        · cases h
        · rename_i l us2 h2
          simp only [Option.some.injEq, Prod.mk.injEq] at h
          obtain ⟨_, rfl⟩ := h
          intro p hp
          rcases List.mem_append.1 hp with hp | hp
          · exact frzP_ids h1 p hp
          · exact over_some (frzP_ids h1) (ih _ _ _ h2 p hp)
theorem frzLP_ids (g : Nat → Option O) (xs : List V) {ds : List D} {us : List (Nat × O)} (h : frzLP g xs = some (ds, us)) : ∀ p ∈ us, (g p.1).isSome := frzLP_ids' xs g ds us h
theorem frzQ_ids {g : Nat → Option O} {x : V} {d : D} {us : List (Nat × O)} (h : frzQ g x = some (d, us)) : ∀ p ∈ us, (g p.1).isSome := by
  unfold frzQ at h
  split at h
  · split at h
    · rename_i hr
      injection h with h
      subst h
      exact frzP_ids hr
    · split at h
      · rename_i hk
        split at h
        · rename_i h1
          obtain ⟨_, h⟩ := cond_some h
          simp only [Option.some.injEq, Prod.mk.injEq] at h
          obtain ⟨_, rfl⟩ := h
          intro p hp
          rcases List.mem_append.1 hp with hp | hp
          · exact frzLP_ids _ _ h1 p hp
          · simp at hp; subst hp; simp [hk]
        · cases h
      · cases h
  · exact frzP_ids h
theorem frzLQ_ids' (xs : List V) : ∀ (g : Nat → Option O) (ds : List D) (us : List (Nat × O)), frzLQ g xs = some (ds, us) → ∀ p ∈ us, (g p.1).isSome := by
    induction xs with
    | nil => intro g ds us h; simp only [frzLQ, Option.some.injEq, Prod.mk.injEq] at h; obtain ⟨_, rfl⟩ := h; simp
    | cons x r ih =>
      intro g ds us h
      simp only [frzLQ] at h
      split at h
      · cases h
      · rename_i d us1 h1
        split at h
        · cases h
        · rename_i l us2 h2
          simp only [Option.some.injEq, Prod.mk.injEq] at h
          obtain ⟨_, rfl⟩ := h
          intro p hp
          rcases List.mem_append.1 hp with hp | hp
          · exact frzQ_ids h1 p hp
          · exact over_some (frzQ_ids h1) (ih _ _ _ h2 p hp)
theorem frzLQ_ids (g : Nat → Option O) (xs : List V) {ds : List D} {us : List (Nat × O)} (h : frzLQ g xs = some (ds, us)) : ∀ p ∈ us, (g p.1).isSome := frzLQ_ids' xs g ds us h
theorem frz1_ids {g : Nat → Option O} {x : V} {d : D} {us : List (Nat × O)} (h : frz1 g x = some (d, us)) : ∀ p ∈ us, (g p.1).isSome := by
  unfold frz1 at h
  split at h
  · split at h
    · cases h
    · rename_i h1
      split at h
      · cases h
      · rename_i h2
        simp only [Option.some.injEq, Prod.mk.injEq] at h
        obtain ⟨_, rfl⟩ := h
        intro p hp
        rcases List.mem_append.1 hp with hp | hp
        · exact frzLQ_ids _ _ h1 p hp
        · exact over_some (frzLQ_ids _ _ h1) (frzLQ_ids _ _ h2 p hp)
  · exact frzQ_ids h
theorem frzL_ids' (xs : List V) : ∀ (g : Nat → Option O) (ds : List D) (us : List (Nat × O)), frzL g xs = some (ds, us) → ∀ p ∈ us, (g p.1).isSome := by
    induction xs with
    | nil => intro g ds us h; simp only [frzL, Option.some.injEq, Prod.mk.injEq] at h; obtain ⟨_, rfl⟩ := h; simp
    | cons x r ih =>
      intro g ds us h
      simp only [frzL] at h
      split at h
      · cases h
      · rename_i d us1 h1
        split at h
        · cases h
        · rename_i l us2 h2
          simp only [Option.some.injEq, Prod.mk.injEq] at h
          obtain ⟨_, rfl⟩ := h
          intro p hp
          rcases List.mem_append.1 hp with hp | hp
          · exact frz1_ids h1 p hp
          · exact over_some (frz1_ids h1) (ih _ _ _ h2 p hp)
theorem frzL_ids (g : Nat → Option O) (xs : List V) {ds : List D} {us : List (Nat × O)} (h : frzL g xs = some (ds, us)) : ∀ p ∈ us, (g p.1).isSome := frzL_ids' xs g ds us h
theorem frz_ids {g : Nat → Option O} {x : V} {d : D} {us : List (Nat × O)} (h : frz g x = some (d, us)) : ∀ p ∈ us, (g p.1).isSome := by
  unfold frz at h
  split at h
  · split at h
    · rename_i h1
      simp only [Option.some.injEq, Prod.mk.injEq] at h
      obtain ⟨_, rfl⟩ := h
      exact frzL_ids _ _ h1
    · cases h
  · exact frz1_ids h
theorem frzs_ids' (xs : List V) : ∀ (g : Nat → Option O) (ds : List D) (us : List (Nat × O)), frzs g xs = some (ds, us) → ∀ p ∈ us, (g p.1).isSome := by
    induction xs with
    | nil => intro g ds us h; simp only [frzs, Option.some.injEq, Prod.mk.injEq] at h; obtain ⟨_, rfl⟩ := h; simp
    | cons x r ih =>
      intro g ds us h
      simp only [frzs] at h
      split at h
      · cases h
      · rename_i d us1 h1
        split at h
        · cases h
        · rename_i l us2 h2
          simp only [Option.some.injEq, Prod.mk.injEq] at h
          obtain ⟨_, rfl⟩ := h
          intro p hp
          rcases List.mem_append.1 hp with hp | hp
          · exact frz_ids h1 p hp
          · exact over_some (frz_ids h1) (ih _ _ _ h2 p hp)

theorem frzs_ids (g : Nat → Option O) (xs : List V) {ds : List D} {us : List (Nat × O)} (h : frzs g xs = some (ds, us)) : ∀ p ∈ us, (g p.1).isSome := frzs_ids' xs g ds us h
section
variable {P : Program} {base : Nat} {C : Cx} {ρ : Operand → Value} {g : Nat → Option O} {fr : Nat} {o : Oper} {v : V} {us : List (Nat × O)}

/-- A slice over the whole of a row of its own. -/
theorem sl_whole {C' : Cx} {k sz n c b m : Nat} {e : TypeId} {els : List D} {ro : Nat} (hk : C'.ob k = some (.arr sz els ro)) (hn : els.length = n) (hμ : C'.μ k = some b) (hs : C'.w.shape? b = some (e, m)) (hnc : n ≤ c) (hm : c * sz ≤ m) :
    RepV C' (.slice (some ⟨b, 0, none⟩) n c) (.sl k n sz 0 n) := by
  refine .sl fun els' ro' hk' => ?_
  rw [hk] at hk'
  injection hk' with hk'
  injection hk' with _ hk' _
  subst hk'
  refine ⟨by omega, fun _ => ⟨rfl, by omega, hnc, .inr ⟨b, e, m, hμ, by simp, hs, by simpa using hm⟩⟩⟩

theorem fillD_ok (sz : Nat) (F : Fz) (w : World) : ∀ (parts : List (Nat × Value)) (ds z : List D) (cells : Array Value) {els : List D},
    (∀ (i : Nat) p d, parts[i]? = some p → ds[i]? = some d → RepD F w p.2 d) → ds.length = parts.length → cells.size = z.length * sz →
    (∀ (i j : Nat) d x u, z[i]? = some d → d.cells[j]? = some x → j < sz → cells[i * sz + j]? = some u → RepD F w u x) →
    fillD sz z (parts.map (·.1)) ds = some els → ∃ cells', Instr.fill (fun i => some (i * sz, sz)) cells parts = some cells' ∧ cells'.size = els.length * sz ∧ els.length = z.length ∧
      (∀ (i j : Nat) d x u, els[i]? = some d → d.cells[j]? = some x → j < sz → cells'[i * sz + j]? = some u → RepD F w u x)
  | [], ds, z, cells, els, hp, hl, hsz, hc, he => by
    cases ds with
    | cons => simp at hl
    | nil =>
      simp only [List.map_nil, fillD, Option.some.injEq] at he
      subst he
      exact ⟨cells, rfl, hsz, rfl, hc⟩
  | (n, u0) :: parts, ds, z, cells, els, hp, hl, hsz, hc, he => by
    cases ds with
    | nil => simp at hl
    | cons d0 ds =>
      simp only [List.map_cons, fillD] at he
      have hh := cond_some he
      clear he
      obtain ⟨hb, he⟩ := hh
      simp only [Bool.and_eq_true] at hb
      have hn := blt_lt hb.1
      have hd0 := beq_eq hb.2
      have hr0 := hp 0 _ _ rfl rfl
      obtain ⟨r1, r2⟩ := hr0.cells
      obtain ⟨cells', f1, f2, f3⟩ := fill_cons (place := fun i => some (i * sz, sz)) (rest := parts) (i := n) (v := u0) (cells := cells) rfl (r1.trans hd0) (by
        have : (n + 1) * sz ≤ z.length * sz := Nat.mul_le_mul_right _ hn
        rw [Nat.succ_mul] at this
        omega)
      obtain ⟨cells'', g1, g2, g3, g4⟩ := fillD_ok sz F w parts ds (z.set n d0) cells' (fun i p d h1 h2 => hp (i + 1) p d (by simpa using h1) (by simpa using h2)) (by simpa using hl) (by simpa [f2] using hsz)
        (fun i j d x u hd hx hj hu => by
          rw [f3] at hu
          by_cases hin : i = n
          · subst hin
            rw [List.getElem?_set_self hn] at hd
            injection hd with hd
            subst hd
            rw [if_pos (by omega)] at hu
            rw [show i * sz + j - i * sz = j by omega] at hu
            exact r2 j u x hu hx
          · rw [List.getElem?_set_ne (Ne.symm hin)] at hd
            rw [if_neg (by
              rintro ⟨q1, q2⟩
              rcases Nat.lt_or_ge i n with h3 | h3
              · have := Nat.mul_le_mul_right sz h3; rw [Nat.succ_mul] at this; omega
              · have := Nat.mul_le_mul_right sz (show n + 1 ≤ i by omega); rw [Nat.succ_mul] at this; omega)] at hu
            exact hc i j d x u hd hx hj hu) he
      exact ⟨cells'', by rw [f1]; exact g1, g2, by simpa using g3, g4⟩

theorem op_bslice (h : WRep base C) (hg : Sees g C) {t e : TypeId} {len : Nat} {parts : Array (Nat × Operand)} {z : D} {vs : List V} (ho : o.op = .buildSlice t len parts) (hu : elemT P t = some e) (hz : zeroD P e = some z)
    (hsmall : len * sizeT P e ≤ 2 ^ 24) (hzl : z.cells.length = sizeT P e) (hv : Rel C ρ (parts.toList.map (·.2)) vs) (hfr : C.ob fr = none)
    (he : eff (.bslice (sizeT P e) len z (parts.toList.map (·.1))) vs g fr = some (v, us)) : OpRes P base C ρ o us v := by
  obtain ⟨i, hu1, hi, hpos, hby, hsz⟩ := elemT_some hu
  obtain ⟨i', zv, hi', hzz, hzs, hzr⟩ := zeroD_ok hz
  rw [hi] at hi'
  injection hi' with hi'
  subst hi'
  simp only [eff] at he
  split at he
  · rename_i ds us1 hf
    split at he
    · rename_i els hels
      have hh := cond_some he
      clear he
      obtain ⟨hall, he⟩ := hh
      simp only [Option.some.injEq, Prod.mk.injEq] at he
      obtain ⟨rfl, rfl⟩ := he
      have hgetv := hv.get
      have hvl := hv.length
      obtain ⟨C1, G1, l1, r1, s1⟩ := frzs_ok vs (fun q => ((parts.toList[q]?).map fun p => ρ p.2).getD Go.undef) C g h hg (fun q x hx => by
        have hq : q < parts.toList.length := by have := (List.getElem?_eq_some_iff.1 hx).1; simp at hvl; simpa [hvl] using this
        have hp : parts.toList[q]? = some parts.toList[q] := List.getElem?_eq_getElem hq
        have := hgetv q _ x (by rw [List.getElem?_map, hp]; rfl) hx
        simpa [hp] using this) hf
      have hk1 : C1.ob fr = none := by
        rw [G1.ob, over_none (fun p hp e => by
          have h1 := frzs_ids _ _ hf p hp
          obtain ⟨x, hx⟩ := Option.isSome_iff_exists.1 h1
          have := hg _ _ hx
          rw [e, hfr] at this
          cases this)]
        exact hfr
      have hrep0 : ∀ (a j : Nat) d x u, (List.replicate len z)[a]? = some d → d.cells[j]? = some x → j < sizeT P e → ((Array.range (len * sizeT P e)).map fun q => zv.cells[q % zv.cells.size]!)[a * sizeT P e + j]? = some u → RepD C1.F C1.w u x := by
        intro a j d x u hd hx hj hu
        have ha : a < len := by have := (List.getElem?_eq_some_iff.1 hd).1; simpa using this
        rw [List.getElem?_replicate, if_pos ha] at hd
        injection hd with hd
        subst hd
        rw [made_get zv.cells _ (sizeT P e) _ (hzs.trans hzl) (idx_lt ha hj) (by omega), idx_mod hj] at hu
        exact (hzr C1.F C1.w j u x hu hx).1
      obtain ⟨cells', f1, f2, f3, f4⟩ := fillD_ok (sizeT P e) C1.F C1.w (parts.toList.map fun p => (p.1, ρ p.2)) ds (List.replicate len z) ((Array.range (len * sizeT P e)).map fun q => zv.cells[q % zv.cells.size]!)
        (fun q p d hp hd => by
          simp only [List.getElem?_map, Option.map_eq_some_iff] at hp
          obtain ⟨p0, hp0, rfl⟩ := hp
          have := r1 q d hd
          simpa [hp0] using this) (by simp at hvl ⊢; omega) (by simp) hrep0 (by simpa [List.map_map, Function.comp_def] using hels)
      have hlen : els.length = len := by simpa using f3
      have hallsz : ∀ d ∈ els, d.cells.length = sizeT P e ∧ ∀ x ∈ d.cells, x.leaf = true := by
        intro d hd
        unfold allSz at hall
        rw [List.all_eq_true] at hall
        have := hall d hd
        simp only [Bool.and_eq_true, List.all_eq_true] at this
        exact ⟨beq_eq this.1, this.2⟩
      obtain ⟨C2, G2, hμ⟩ := new_arr G1.rep e hk1 (sz := sizeT P e) (els := els) (vals := cells') (by omega) hallsz (fun a j d x hd hx => by
        have ha : a < els.length := (List.getElem?_eq_some_iff.1 hd).1
        have hj : j < sizeT P e := by have := (List.getElem?_eq_some_iff.1 hx).1; rw [(hallsz d (List.mem_of_getElem? hd)).1] at this; exact this
        have hlt : a * sizeT P e + j < cells'.size := by rw [f2]; exact idx_lt ha hj
        exact ⟨cells'[a * sizeT P e + j], by simp [hlt], f4 a j d x _ hd hx hj (by simp [hlt])⟩)
      have G12 := G1.trans G2
      rw [G1.ob, G1.w] at G12
      have hwsz : C1.w.heap.size = C.w.heap.size := by rw [G1.w]
      have hob2 : C2.ob fr = some (.arr (sizeT P e) els 0) := by rw [G12.ob, updF_apply, if_pos rfl]
      refine ⟨.slice (some ⟨C.w.heap.size, 0, none⟩) len len, C2, .value _, ?_, .inl rfl, ?_, ?_, ?_⟩
      · rw [G12.w]
        have hrunB : (Instr.buildSlice t len (parts.map fun p => (p.1, ρ p.2))).run P C.w = .ok (.slice (some ⟨C.w.heap.size, 0, none⟩) len len) (C.w.alloc (.cells cells' e)) := by
          rcases Nat.eq_zero_or_pos len with h0 | h0
          · subst h0
            have hpn : parts.toList = [] := by
              cases hpl : parts.toList with
              | nil => rfl
              | cons p r =>
                rw [hpl] at hels
                cases ds with
                | nil => simp [fillD] at hels
                | cons =>
                  simp only [List.replicate_zero, List.map_cons, fillD] at hels
                  have h1 := (cond_some hels).1
                  simp only [Bool.and_eq_true] at h1
                  have := blt_lt h1.1
                  simp at this
            have hpe : parts = #[] := by apply Array.ext'; simpa using hpn
            subst hpe
            have hce : cells' = #[] := by
              have : cells'.size = 0 := by rw [f2, hlen]; simp
              exact Array.eq_empty_of_size_eq_zero this
            subst hce
            simp [Instr.buildSlice, run_underlying hu1, sizeOf, typeInfo, hi, Instr.fill, newRow, Array.range_zero']
          · have hne : ¬ len * i.size = 0 := by
              have := Nat.mul_pos h0 hpos
              omega
            have hf1 : Instr.fill (fun q => some (q * i.size, q * 0 + i.size)) ((Array.range (len * i.size)).map (zv.cells[· % zv.cells.size]!)) (parts.map fun p => (p.1, ρ p.2)).toList = some cells' := by
              rw [Array.toList_map]
              rw [hsz] at f1
              simpa using f1
            exact run_buildSlice C.w t e len _ cells' i zv hu1 hi hzz (by rw [← hsz]; omega) hne (by simpa using hf1)
        simp [execOp, ho, hrunB]
      · rw [G12.w, over_append]; exact G12
      · have := sl_whole (C' := C2) (k := fr) (sz := sizeT P e) (n := len) (c := len) (b := C1.w.heap.size) (m := cells'.size) (e := e) hob2 hlen hμ (by rw [G2.w]; exact shape?_alloc_new _ _ _) (Nat.le_refl _) (by rw [f2, hlen]; exact Nat.le_refl _)
        rwa [hwsz] at this
      · intro k hk
        cases hk
        rw [hob2]
        rfl
    · cases he
  · cases he
end
end Go.Lf
/- Soundness, part 15: make, append. -/
namespace Go.Lf
open Go.RowKit (Below)

section
variable {P : Program} {base : Nat} {C : Cx} {ρ : Operand → Value} {g : Nat → Option O} {fr : Nat} {o : Oper} {v : V} {us : List (Nat × O)}

theorem op_mksl (h : WRep base C) {t e : TypeId} {l c : Operand} {z : D} {v1 v2 : V} (ho : o.op = .makeSlice t l c) (hu : elemT P t = some e) (hz : zeroD P e = some z) (hzl : z.cells.length = sizeT P e)
    (hzleaf : ∀ x ∈ z.cells, x.leaf = true) (h1 : RepV C (ρ l) v1) (h2 : RepV C (ρ c) v2) (hfr : C.ob fr = none) (he : eff (.mksl (sizeT P e) z) [v1, v2] g fr = some (v, us)) : OpRes P base C ρ o us v := by
  obtain ⟨i, hu1, hi, hpos, hby, hsz⟩ := elemT_some hu
  obtain ⟨i', zv, hi', hzz, hzs, hzr⟩ := zeroD_ok hz
  rw [hi] at hi'
  injection hi' with hi'
  subst hi'
  simp only [eff] at he
  split at he
  · rename_i n m hn hm
    have hh := ite_some he
    clear he
    obtain ⟨⟨c1, rfl, c3⟩, he⟩ := hh
    simp only [Option.some.injEq, Prod.mk.injEq] at he
    obtain ⟨rfl, rfl⟩ := he
    obtain ⟨k1, e1⟩ := intLit_some hn h1
    obtain ⟨k2, e2⟩ := intLit_some hm h2
    obtain ⟨q, rfl⟩ := Int.eq_ofNat_of_zero_le c1
    have hq : q * sizeT P e ≤ limit := by exact_mod_cast c3
    simp only [Int.toNat_natCast]
    have hqs : q ≤ q * i.size := Nat.le_mul_of_pos_right _ hpos
    have hb1 : i.bytes * q ≤ 64 * (q * i.size) := by
      calc i.bytes * q ≤ 64 * i.size * q := Nat.mul_le_mul_right _ hby
        _ = 64 * (q * i.size) := by rw [Nat.mul_assoc, Nat.mul_comm i.size q]
    rw [hsz] at hq
    unfold limit at hq
    have hrun := run_make (P := P) C.w t e i zv hu1 hi hzz k1 k2 (q : Int) (q : Int) (by omega) (Int.le_refl _) (by have : (i.bytes : Int) * (q : Int) = ((i.bytes * q : Nat) : Int) := by push_cast; rfl
                                                                                                                    rw [this]; omega) (by omega)
    simp only [Int.toNat_natCast] at hrun
    have hmsz : (madeCells zv.cells (q * i.size)).size = q * i.size := by simp [madeCells]
    obtain ⟨C2, G2, hμ⟩ := new_arr h e hfr (sz := sizeT P e) (els := List.replicate q z) (vals := madeCells zv.cells (q * i.size)) (by rw [hmsz, hsz]; simp)
      (fun d hd => by rw [List.eq_of_mem_replicate hd]; exact ⟨hzl, hzleaf⟩)
      (fun a j d x hd hx => by
        have ha : a < q := by have := (List.getElem?_eq_some_iff.1 hd).1; simpa using this
        rw [List.getElem?_replicate, if_pos ha] at hd
        injection hd with hd
        subst hd
        have hj : j < sizeT P e := by have := (List.getElem?_eq_some_iff.1 hx).1; omega
        have hjs : j < zv.cells.size := by omega
        refine ⟨zv.cells[j], ?_, (hzr _ _ j _ x (by simp [hjs]) hx).1⟩
        unfold madeCells
        rw [← hsz, made_get zv.cells _ (sizeT P e) _ (hzs.trans hzl) (idx_lt ha hj) (by omega), idx_mod hj]
        simp [hjs])
    have hob2 : C2.ob fr = some (.arr (sizeT P e) (List.replicate q z) 0) := by rw [G2.ob, updF_apply, if_pos rfl]
    refine ⟨.slice (some ⟨C.w.heap.size, 0, none⟩) q q, C2, .value _, ?_, .inl rfl, ?_, ?_, ?_⟩
    · rw [G2.w]
      simp [execOp, ho, e1, e2, hrun]
    · rw [G2.w]; exact G2
    · exact sl_whole (C' := C2) (k := fr) (sz := sizeT P e) (n := q) (c := q) (b := C.w.heap.size) (m := q * i.size) (e := e) hob2 (by simp) hμ (by rw [G2.w, shape?_alloc_new, hmsz]) (Nat.le_refl _) (by rw [hsz]; exact Nat.le_refl _)
    · intro k hk
      cases hk
      rw [hob2]
      rfl
  · cases he

/-- The cells of a slice, one after the other. -/
theorem flat_cells {C : Cx} {u : Value} {sz : Nat} {ds : List D} (hsz : 0 < sz) (h : ∃ a c, u = .slice a ds.length c ∧ ds.length ≤ c ∧ (0 < ds.length → (∀ d ∈ ds, d.cells.length = sz ∧ ∀ y ∈ d.cells, y.leaf = true) ∧ ∃ b y, a = some ⟨b, y, none⟩ ∧
      ∀ i j, i < ds.length → j < sz → ∃ w, C.w.cell? ⟨b, y + (i * sz + j), none⟩ = some w ∧ ∀ d z, ds[i]? = some d → d.cells[j]? = some z → RepD C.F C.w w z)) :
    ∃ (a : Option Addr) (c : Nat) (news : List Value), u = .slice a ds.length c ∧ ds.length ≤ c ∧ news.length = ds.length * sz ∧ (∀ ad, a = some ad → ∀ j w, news[j]? = some w → C.w.cell? (ad.add j) = some w) ∧
      (0 < ds.length → ∃ ad, a = some ad) ∧ (∀ w ∈ news, w.oneCell' = true) ∧ (∀ d ∈ ds, d.cells.length = sz ∧ ∀ y ∈ d.cells, y.leaf = true) ∧
      ∀ (i j : Nat) d z, ds[i]? = some d → d.cells[j]? = some z → ∃ w, news[i * sz + j]? = some w ∧ RepD C.F C.w w z := by
  obtain ⟨a, c, rfl, hc, hr⟩ := h
  rcases Nat.eq_zero_or_pos ds.length with h0 | h0
  · have : ds = [] := List.length_eq_zero_iff.1 h0
    subst this
    exact ⟨a, c, [], rfl, hc, by simp, fun _ _ j w hw => by simp at hw, fun h => by simp at h, fun w hw => by simp at hw, fun d hd => by simp at hd, fun i j d z hd => by simp at hd⟩
  · obtain ⟨hz, b, y, rfl, hcell⟩ := hr h0
    let f : Nat → Value := fun q => (C.w.cell? ⟨b, y + q, none⟩).getD Go.undef
    have hf : ∀ q, q < ds.length * sz → C.w.cell? ⟨b, y + q, none⟩ = some (f q) ∧ ∀ d z, ds[q / sz]? = some d → d.cells[q % sz]? = some z → RepD C.F C.w (f q) z := by
      intro q hq
      have h1 : q / sz < ds.length := Nat.div_lt_of_lt_mul (by rwa [Nat.mul_comm])
      have h2 : q % sz < sz := Nat.mod_lt _ hsz
      have h3 : q / sz * sz + q % sz = q := by rw [Nat.mul_comm]; exact Nat.div_add_mod q sz
      obtain ⟨w, g1, g2⟩ := hcell _ _ h1 h2
      rw [h3] at g1
      have : f q = w := by simp only [f, g1, Option.getD_some]
      exact ⟨by rw [g1, this], fun d z hd hz => by rw [this]; exact g2 d z hd hz⟩
    refine ⟨_, c, (List.range (ds.length * sz)).map f, rfl, hc, by simp, fun ad had j w hw => ?_, fun _ => ⟨_, rfl⟩, fun w hw => ?_, hz, fun i j d z hd hzz => ?_⟩
    · injection had with had
      subst had
      simp only [List.getElem?_map, Option.map_eq_some_iff] at hw
      obtain ⟨q, hq, rfl⟩ := hw
      obtain ⟨hq1, hq2⟩ := List.getElem?_eq_some_iff.1 hq
      simp at hq1 hq2
      subst hq2
      rw [add_eq]
      exact (hf j hq1).1
    · simp only [List.mem_map, List.mem_range] at hw
      obtain ⟨q, hq, rfl⟩ := hw
      have h1 : q / sz < ds.length := Nat.div_lt_of_lt_mul (by rwa [Nat.mul_comm])
      have h2 : q % sz < sz := Nat.mod_lt _ hsz
      have hd := List.getElem?_eq_getElem h1
      have hdl := hz _ (List.getElem_mem h1)
      have hx := List.getElem?_eq_getElem (show q % sz < ds[q / sz].cells.length by omega)
      exact ((hf q hq).2 _ _ hd hx).one (hdl.2 _ (List.getElem_mem _)) |>.1
    · have hi : i < ds.length := (List.getElem?_eq_some_iff.1 hd).1
      have hj : j < sz := by have := (List.getElem?_eq_some_iff.1 hzz).1; rw [(hz d (List.mem_of_getElem? hd)).1] at this; exact this
      have hlt := idx_lt hi hj
      refine ⟨f (i * sz + j), by simp [hlt], (hf _ hlt).2 d z ?_ ?_⟩
      · rw [show (i * sz + j) / sz = i by rw [Nat.mul_comm, Nat.mul_add_div hsz, Nat.div_eq_of_lt hj]; rfl]; exact hd
      · rw [idx_mod hj]; exact hzz

/-- A row that is laid anew, longer. -/
theorem realloc {base : Nat} {C : Cx} (h : WRep base C) (e : TypeId) {k sz ro : Nat} {els els' : List D} {vals : Array Value} (hk : C.ob k = some (.arr sz els ro)) (hlt : els.length < els'.length) (hl : els'.length * sz ≤ vals.size)
    (hsz : ∀ d ∈ els', d.cells.length = sz ∧ ∀ x ∈ d.cells, x.leaf = true)
    (hv : ∀ (i j : Nat) d x, els'[i]? = some d → d.cells[j]? = some x → ∃ v, vals[i * sz + j]? = some v ∧ RepD C.F C.w v x) :
    ∃ C', Goes base C (updF C.ob k (.arr sz els' ro)) (C.w.alloc (.cells vals e)) C' ∧ C'.μ k = some C.w.heap.size := by
  let C' : Cx := { μ := fun j => if j = k then some C.w.heap.size else C.μ j, F := fun b o => C.F b o ∨ (b = C.w.heap.size ∧ o < ro * sz), ob := updF C.ob k (.arr sz els' ro), w := C.w.alloc (.cells vals e) }
  have hro : ro ≤ els.length := by
    cases h.objs k _ hk with
    | empty => exact Nat.zero_le _
    | arr _ _ _ _ _ _ _ _ hro => exact hro
  have E : Ext C C' :=
    { fsub := fun _ _ h => .inl h
      fsame := fun b x hx => World.cell?_of_block (w := C.w) (a := ⟨b, x, none⟩) (heap_alloc_old (cell?_lt (h.fcell b x hx)))
      box := fun j r cs hj h2 => by
        simp only [C', updF_apply] at h2
        split at h2
        · cases h2
        · rename_i hjk; exact ⟨⟨_, _, h2⟩, by simp [C', hjk]⟩
      arr := fun j sz2 els2 ro2 hj h2 => by
        simp only [C', updF_apply] at h2
        split at h2
        · rename_i hjk
          cases h2
          subst hjk
          exact ⟨_, _, hk, by omega, fun hh => by omega⟩
        · rename_i hjk; exact ⟨_, _, h2, Nat.le_refl _, fun _ => by simp [C', hjk]⟩
      mp := fun j es hj h2 => by
        simp only [C', updF_apply] at h2
        split at h2
        · cases h2
        · rename_i hjk; exact ⟨⟨_, h2⟩, by simp [C', hjk]⟩
      shp := fun b s hs => by rw [← hs]; exact shape?_of_block (heap_alloc_old (shape?_lt hs))
      live := fun j hj => by
        simp only [C', updF_apply]
        split
        · rfl
        · exact hj }
  have hnew : ∀ (i j : Nat) d x, els'[i]? = some d → d.cells[j]? = some x → ∃ v, C'.w.cell? ⟨C.w.heap.size, i * sz + j, none⟩ = some v ∧ RepD C'.F C'.w v x := by
    intro i j d x hi hj
    obtain ⟨v, h1, h2⟩ := hv i j d x hi hj
    exact ⟨v, by rw [show C'.w = C.w.alloc (.cells vals e) from rfl, cell?_alloc_at]; exact h1, h2.mono E.fsub E.fsame⟩
  refine ⟨C', ⟨rfl, rfl, ?_, E, (Below.refl _ _).alloc h.base _, ?_⟩, by simp [C']⟩
  · refine h.upd E (fun j => updF_apply _ _ _ _) (fun j hj => by simp [C', hj]) (fun b hb _ => ⟨heap_alloc_old hb, fun x => ⟨fun hx => hx.elim id fun hx => by omega, .inl⟩⟩) (fun b hb => ?_) ?_ (fun r cs hd => by cases hd) ?_ ?_
    · left
      simp only [C', if_true, Option.some.injEq] at hb
      omega
    · refine .arr C.w.heap.size e vals.size (by simp [C']) h.base (shape?_alloc_new _ _ _) hl (fun x => frozen?_alloc_at _ _ _ _) (by omega) hsz hnew (fun x hx => .inr ⟨rfl, hx⟩) ?_
      intro x hx hx'
      rcases hx' with hx' | ⟨_, hx'⟩
      · have := cell?_lt (h.fcell _ _ hx')
        simp at this
      · omega
    · intro b x hx
      rcases hx with hx | ⟨rfl, hx⟩
      · rw [E.fsame b x hx]; exact h.fcell b x hx
      · rw [show C'.w = C.w.alloc (.cells vals e) from rfl, cell?_alloc_at]
        have h1 : ro * sz ≤ els'.length * sz := Nat.mul_le_mul_right _ (by omega)
        have : x < vals.size := by omega
        simp [this]
    · have := h.base
      simp only [C', World.alloc, Array.size_push]
      omega
  · intro b x hx
    rcases hx with hx | ⟨rfl, _⟩
    · exact .inl hx
    · exact .inr h.base
end
end Go.Lf
/- Soundness, part 16: append. -/
namespace Go.Lf
open Go.RowKit (Below)

section
variable {P : Program} {base : Nat} {C : Cx} {ρ : Operand → Value} {g : Nat → Option O} {fr : Nat} {o : Oper} {v : V} {us : List (Nat × O)}

theorem run_append_none (t e : TypeId) (i : TypeInfo) (ty : TypeId) (w : World) (ht : P.underlying t = some (.slice e)) (hi : P.info? e = some i) (b : Option Addr) (n c : Nat) (hnc : n ≤ c) (a : Option Addr) (c' : Nat) :
    (Builtin.append_ #[t, t] ty #[.slice b n c, .slice a 0 c']).run P w = .ok (.slice b n c) w := by
  have hf : (Builtin.firstCells i.size 0 (.slice a 0 c')).run P w = .ok #[] w := by
    cases a with
    | none => rfl
    | some a => simp [Builtin.firstCells, loadCells, loadCellsFrom]
  cases b with
  | none => simp [Builtin.append_, run_underlying ht, sizeOf, typeInfo, hi, Builtin.lenOf, hnc, hf]
  | some b => simp [Builtin.append_, run_underlying ht, sizeOf, typeInfo, hi, Builtin.lenOf, hnc, hf, storeCells]

theorem run_append_in (t e : TypeId) (i : TypeInfo) (ty : TypeId) (w : World) (ht : P.underlying t = some (.slice e)) (hi : P.info? e = some i) (b n c : Nat) (a : Addr) (m c' : Nat) (news : List Value)
    (hl : news.length = m * i.size) (hnews : ∀ j u, news[j]? = some u → w.cell? (a.add j) = some u) (hfit : n + m ≤ c) (hin : ∀ j, j < news.length → (w.cell? ⟨b, n * i.size + j, none⟩).isSome = true)
    (hz : ∀ x, w.frozen? ⟨b, x, none⟩ = false) (h1 : ∀ u ∈ news, u.oneCell' = true) :
    (Builtin.append_ #[t, t] ty #[.slice (some ⟨b, 0, none⟩) n c, .slice (some a) m c']).run P w = .ok (.slice (some ⟨b, 0, none⟩) (n + m) c) (w.setCells b (n * i.size) news) := by
  have hf := run_firstCells_some (P := P) w i.size m a m c' news hl hnews
  have hst := run_storeCells_cells (P := P) b (n * i.size) news 0 w (by simpa using hin) (fun j _ => hz _) h1
  simp only [Nat.add_zero] at hst
  simp [Builtin.append_, run_underlying ht, sizeOf, typeInfo, hi, Builtin.lenOf, hfit, hf, add_eq, hst]

theorem append_size {sz i n : Nat} (h : n * sz ≤ limit) (hpos : 0 < sz) (hby : i ≤ 64 * sz) : ((n : Nat) : Int) ≤ 9223372036854775807 ∧ n * i ≤ 140737488355328 := by
  unfold limit at h
  have h1 : n ≤ n * sz := Nat.le_mul_of_pos_right _ hpos
  have h2 : n * i ≤ 64 * (n * sz) := by
    calc n * i ≤ n * (64 * sz) := Nat.mul_le_mul_left _ hby
      _ = 64 * (n * sz) := by rw [Nat.mul_left_comm]
  omega

theorem op_append (h : WRep base C) (hg : Sees g C) {c : Call} {t e : TypeId} {s x : Operand} {v1 v2 : V} {z : Value} (ho : o.op = .call c) (hc : c.callee = .builtin .append) (hx : c.args.toList = [s, x]) (hts : c.argTypes.toList = [t, t])
    (hu : elemT P t = some e) (hz : (P.info? e).bind (·.zero) = some z) (hzs : z.cells.size = sizeT P e) (h1 : RepV C (ρ s) v1) (hn1 : Valid C v1) (h2 : RepV C (ρ x) v2) (hfr : (∃ s, v1 = .nil s) → C.ob fr = none) (he : eff (.append (sizeT P e)) [v1, v2] g fr = some (v, us)) :
    OpRes P base C ρ o us v := by
  obtain ⟨i, hu1, hi, hpos, hby, hsz⟩ := elemT_some hu
  have hzz : i.zero = some z := by simpa [hi] using hz
  have ha : c.args = #[s, x] := by apply Array.ext'; simpa using hx
  have ht : c.argTypes = #[t, t] := by apply Array.ext'; simpa using hts
  have hrun : ∀ {w' : World} {val : Value}, (Builtin.append_ #[t, t] o.type #[ρ s, ρ x]).run P C.w = .ok val w' → (execOp ρ o).run P C.w = .ok (.value val) w' := by
    intro w' val hr
    refine call_builtin ho hc ?_
    simp [builtin, ha, ht, hr]
  simp only [eff] at he
  split at he
  · cases he
  · rename_i sz' xs hs
    have hh := cond_some he
    clear he
    obtain ⟨hb, he⟩ := hh
    have hb := beq_eq hb
    subst hb
    obtain ⟨ad, cap, news, hxv, hcap, hnl, hnews, hsome, hone, hszx, hcx⟩ := flat_cells (by omega) (sliceOf_ok h hg h2 hs)
    split at he
    · rename_i s0
      have hh := ite_some he
      clear he
      obtain ⟨hlim, he⟩ := hh
      simp only [Option.some.injEq, Prod.mk.injEq] at he
      obtain ⟨rfl, rfl⟩ := he
      have hsv : ρ s = .slice none 0 0 := by
        generalize ρ s = u at h1
        cases h1; rfl
      have hfr' := hfr ⟨_, rfl⟩
      rcases Nat.eq_zero_or_pos xs.length with h0 | h0
      · have hxn : xs = [] := List.length_eq_zero_iff.1 h0
        subst hxn
        obtain ⟨C', hG, hμ⟩ := new_none h hfr' (sizeT P e)
        refine ⟨.slice none 0 0, C', .value _, ?_, .inl rfl, by rw [hG.w]; exact hG, ?_, ?_⟩
        · rw [hG.w]
          refine hrun ?_
          rw [hsv, hxv]
          exact run_append_none t e i o.type C.w hu1 hi none 0 0 (Nat.le_refl _) ad cap
        · exact .sl fun els ro _ => ⟨Nat.zero_le _, fun _ => ⟨rfl, Nat.le_refl _, Nat.le_refl _, .inl rfl⟩⟩
        · intro k hk
          cases hk
          rw [hG.ob, updF_apply, if_pos rfl]
          rfl
      · obtain ⟨a, rfl⟩ := hsome h0
        obtain ⟨q1, q2⟩ := append_size (n := xs.length) hlim (by omega) (by rw [hsz]; exact hby)
        have hr := run_append_nil (P := P) C.w t o.type e i z hu1 hi hzz a xs.length cap news (by rw [hnl, hsz]) (hnews a rfl) h0 q1 (by omega)
        have Gd := Goes.drew h
        let Cd : Cx := { C with w := C.w.drew }
        obtain ⟨C2, G2, hμ⟩ := new_arr (C := Cd) Gd.rep e hfr' (sz := sizeT P e) (els := xs) (vals := news.toArray ++ Builtin.zeroCells z.cells (grownCap C.w xs.length 0 e - xs.length)) (by simp [hnl])
          hszx (fun a2 j d y hd hy => by
            obtain ⟨w, g1, g2⟩ := hcx a2 j d y hd hy
            refine ⟨w, ?_, g2.mono (F := C.F) (w := C.w) (F' := Cd.F) (w' := Cd.w) (fun _ _ h => h) (fun _ _ _ => rfl)⟩
            have hlt := (List.getElem?_eq_some_iff.1 g1).1
            rw [Array.getElem?_append_left (by simpa using hlt)]
            simpa using g1)
        have G12 := Gd.trans G2
        have hob2 : C2.ob fr = some (.arr (sizeT P e) xs 0) := by rw [G2.ob, updF_apply, if_pos rfl]
        refine ⟨.slice (some ⟨C.w.heap.size, 0, none⟩) xs.length (grownCap C.w xs.length 0 e), C2, .value _, ?_, .inl rfl, by rw [G2.w]; exact G12, ?_, ?_⟩
        · rw [G2.w]
          refine hrun ?_
          rw [hsv, hxv]
          exact hr
        · refine sl_whole (C' := C2) (k := fr) (sz := sizeT P e) (n := xs.length) (b := C.w.heap.size) (e := e) hob2 rfl hμ (by rw [G2.w]; exact shape?_alloc_new _ _ _) (grownCap_ge _ _ _ _) ?_
          have := grownCap_ge C.w xs.length 0 e
          simp only [Array.size_append, List.size_toArray, hnl, size_zeroCells, hzs]
          rw [← Nat.add_mul]
          exact Nat.mul_le_mul_right _ (by omega)
        · intro k hk
          cases hk
          rw [hob2]
          rfl
    · rename_i k n sz3 off len
      split at he
      · rename_i sz'' els ro hk
        have hh := ite_some he
        clear he
        obtain ⟨⟨e1, e2, hl, e3, e4, hlim⟩, he⟩ := hh
        subst e1 e2 e3
        have e4 := e4.symm
        subst e4
        simp only [Option.some.injEq, Prod.mk.injEq] at he
        obtain ⟨rfl, rfl⟩ := he
        have hkC := hg _ _ hk
        have hsl : sliceOf g (.sl k n (sizeT P e) 0 n) = some (sizeT P e, els) := by
          have e1 : Nat.beq (sizeT P e) (sizeT P e) = true := Nat.beq_refl _
          have e2 : Nat.beq els.length n = true := by rw [hl]; exact Nat.beq_refl _
          have e3 : Nat.ble (0 + n) n = true := by rw [Nat.zero_add]; exact Nat.ble_eq_true_of_le (Nat.le_refl n)
          simp only [sliceOf, hk, e1, e2, e3, Bool.and_self, cond_true, List.drop_zero]
          rw [← hl, List.take_length]
        obtain ⟨ads, caps, olds, hsv, hscap, hol, holds, hssome, _, hszs, hcs⟩ := flat_cells (sz := sizeT P e) (by omega) (sliceOf_ok h hg h1 hsl)
        rw [hl] at hsv hscap hol hssome
        obtain ⟨hr1, hr2⟩ : (caps = 0 ∨ ∃ b m, C.μ k = some b ∧ ads = some ⟨b, 0, none⟩ ∧ (∃ e', C.w.shape? b = some (e', m)) ∧ caps * sizeT P e ≤ m) ∧ True := by
          rw [hsv] at h1
          cases h1 with
          | sl hs' =>
            obtain ⟨_, hs'⟩ := hs' els ro hkC
            obtain ⟨_, _, _, hs'⟩ := hs' hl
            refine ⟨hs'.imp id ?_, trivial⟩
            rintro ⟨b, e', m, p1, p2, p3, p4⟩
            exact ⟨b, m, p1, by simpa using p2, ⟨e', p3⟩, by simpa using p4⟩
        have hszall : ∀ d ∈ els ++ xs, d.cells.length = sizeT P e ∧ ∀ y ∈ d.cells, y.leaf = true := by
          intro d hd
          rcases List.mem_append.1 hd with hd | hd
          · exact hszs d hd
          · exact hszx d hd
        rcases Nat.eq_zero_or_pos xs.length with h0 | h0
        · have hxn : xs = [] := List.length_eq_zero_iff.1 h0
          subst hxn
          refine ⟨ρ s, C, .value _, hrun ?_, .inl rfl, ?_, ?_, ?_⟩
          · rw [hsv, hxv]
            exact run_append_none t e i o.type C.w hu1 hi ads n caps hscap ad cap
          · have : over C.ob [(k, .arr (sizeT P e) (els ++ []) ro)] = C.ob := by
              funext j
              rw [over_cons, over_nil, updF_apply]
              split
              · rename_i hj; subst hj; rw [hkC]; simp
              · rfl
            rw [this]
            exact Goes.refl h
          · simpa using h1
          · intro k' hk'
            cases hk'
            exact hn1 _ .sl
        · obtain ⟨a, rfl⟩ := hsome h0
          obtain ⟨q1, q2⟩ := append_size (n := n + xs.length) hlim (by omega) (by rw [hsz]; exact hby)
          by_cases hfit : n + xs.length ≤ caps
          · obtain ⟨b, m, hb, rfl, ⟨e', hsh⟩, hm⟩ := hr1.resolve_left (by omega)
            have hmul : (n + xs.length) * sizeT P e ≤ m := Nat.le_trans (Nat.mul_le_mul_right _ hfit) hm
            rw [Nat.add_mul] at hmul
            have hin : ∀ j, j < news.length → (C.w.cell? ⟨b, n * sizeT P e + j, none⟩).isSome = true := fun j hj => cell?_of_shape hsh (by omega)
            have hO := h.objs k _ hkC
            obtain ⟨hz0, hro⟩ : (∀ y, C.w.frozen? ⟨b, y, none⟩ = false) ∧ ro ≤ els.length := by
              cases hO with
              | empty hm' => rw [hb] at hm'; cases hm'
              | arr b' e2 m' hm' hbb hs' hmm hz hro hsz' hc' hf hnf =>
                rw [hb] at hm'
                injection hm' with hm'
                subst hm'
                exact ⟨hz, hro⟩
            obtain ⟨C2, G2, hμ2⟩ := write_arr h (q := n * sizeT P e) (els' := els ++ xs) (vals := news) hkC hb hin hone (Nat.mul_le_mul_right _ (by omega)) (by simp)
              (fun e2 m2 hm2 => by rw [hsh] at hm2; cases hm2; rw [List.length_append, hl, Nat.add_mul]; exact hmul) hszall
              (fun i' j d y hd hy => by
                have hj : j < sizeT P e := by have := (List.getElem?_eq_some_iff.1 hy).1; rw [(hszall d (List.mem_of_getElem? hd)).1] at this; exact this
                rcases Nat.lt_or_ge i' n with hi' | hi'
                · right
                  refine ⟨.inl (idx_lt hi' hj), d, ?_, hy⟩
                  rwa [List.getElem?_append_left (by omega)] at hd
                · left
                  have : n * sizeT P e ≤ i' * sizeT P e := Nat.mul_le_mul_right _ hi'
                  refine ⟨by omega, ?_⟩
                  rw [List.getElem?_append_right (by omega), hl] at hd
                  obtain ⟨w, g1, g2⟩ := hcx (i' - n) j d y hd hy
                  refine ⟨w, ?_, g2⟩
                  rw [show i' * sizeT P e + j - n * sizeT P e = (i' - n) * sizeT P e + j by rw [Nat.sub_mul]; omega]
                  exact g1)
            have hob2 : C2.ob k = some (.arr (sizeT P e) (els ++ xs) ro) := by rw [G2.ob, updF_apply, if_pos rfl]
            refine ⟨.slice (some ⟨b, 0, none⟩) (n + xs.length) caps, C2, .value _, ?_, .inl rfl, by rw [G2.w]; exact G2, ?_, ?_⟩
            · rw [G2.w]
              refine hrun ?_
              rw [hsv, hxv]
              have := run_append_in t e i o.type C.w hu1 hi b n caps a xs.length cap news (by rw [hnl, hsz]) (hnews a rfl) hfit (by rw [← hsz]; exact hin) hz0 hone
              rw [← hsz] at this
              exact this
            · exact sl_whole (C' := C2) (e := e') hob2 (by simp [hl]) (by rw [hμ2]; exact hb) (G2.fr.ext.shp _ _ hsh) hfit hm
            · intro k' hk'
              cases hk'
              rw [hob2]
              rfl
          · have Gd := Goes.drew h
            let Cd : Cx := { C with w := C.w.drew }
            have hlo : olds.length + news.length = (n + xs.length) * sizeT P e := by rw [hol, hnl, Nat.add_mul]
            obtain ⟨C2, G2, hμ⟩ := realloc (C := Cd) Gd.rep e (sz := sizeT P e) (els := els) (ro := ro) (els' := els ++ xs)
              (vals := olds.toArray ++ news.toArray ++ Builtin.zeroCells z.cells (grownCap C.w (n + xs.length) caps e - (n + xs.length))) hkC (by simp; omega) (by simp only [Array.size_append, List.size_toArray, List.length_append, hl, hlo]; omega)
              hszall (fun a2 j d y hd hy => by
                have hj : j < sizeT P e := by have := (List.getElem?_eq_some_iff.1 hy).1; rw [(hszall d (List.mem_of_getElem? hd)).1] at this; exact this
                rcases Nat.lt_or_ge a2 n with hi' | hi'
                · rw [List.getElem?_append_left (by omega)] at hd
                  obtain ⟨w, g1, g2⟩ := hcs a2 j d y hd hy
                  refine ⟨w, ?_, g2.mono (F := C.F) (w := C.w) (F' := Cd.F) (w' := Cd.w) (fun _ _ h => h) (fun _ _ _ => rfl)⟩
                  have hlt := (List.getElem?_eq_some_iff.1 g1).1
                  rw [Array.getElem?_append_left (by simp; omega), Array.getElem?_append_left (by simpa using hlt)]
                  simpa using g1
                · rw [List.getElem?_append_right (by omega), hl] at hd
                  obtain ⟨w, g1, g2⟩ := hcx (a2 - n) j d y hd hy
                  refine ⟨w, ?_, g2.mono (F := C.F) (w := C.w) (F' := Cd.F) (w' := Cd.w) (fun _ _ h => h) (fun _ _ _ => rfl)⟩
                  have hlt := (List.getElem?_eq_some_iff.1 g1).1
                  have h3 : n * sizeT P e ≤ a2 * sizeT P e := Nat.mul_le_mul_right _ hi'
                  have h4 : (a2 - n) * sizeT P e = a2 * sizeT P e - n * sizeT P e := Nat.sub_mul ..
                  rw [Array.getElem?_append_left (by simp; omega), Array.getElem?_append_right (by simp; omega)]
                  rw [show a2 * sizeT P e + j - olds.toArray.size = (a2 - n) * sizeT P e + j by simp; omega]
                  simpa using g1)
            have G12 := Gd.trans G2
            have hob2 : C2.ob k = some (.arr (sizeT P e) (els ++ xs) ro) := by rw [G2.ob, updF_apply, if_pos rfl]
            have hval : (Builtin.append_ #[t, t] o.type #[ρ s, ρ x]).run P C.w = .ok (.slice (some ⟨C.w.heap.size, 0, none⟩) (n + xs.length) (grownCap C.w (n + xs.length) caps e))
                (C.w.drew.alloc (.cells (olds.toArray ++ news.toArray ++ Builtin.zeroCells z.cells (grownCap C.w (n + xs.length) caps e - (n + xs.length))) e)) := by
              rw [hsv, hxv]
              cases ads with
              | none =>
                have hn0 : n = 0 := by
                  rcases Nat.eq_zero_or_pos n with hn | hn
                  · exact hn
                  · obtain ⟨_, hq⟩ := hssome hn; cases hq
                subst hn0
                have hc0 : caps = 0 := by
                  rcases hr1 with hr1 | ⟨_, _, _, hq, _⟩
                  · exact hr1
                  · cases hq
                subst hc0
                have ho0 : olds = [] := List.length_eq_zero_iff.1 (by simpa using hol)
                subst ho0
                have := run_append_nil (P := P) C.w t o.type e i z hu1 hi hzz a xs.length cap news (by rw [hnl, hsz]) (hnews a rfl) h0 (by omega) (by rw [Nat.zero_add] at q2; omega)
                simpa using this
              | some ad0 =>
                have hfs := growslice_fits (need := n + xs.length) (old := caps) (bytes := i.bytes) (by omega) q2
                exact run_append_grow (P := P) C.w t o.type e i z hu1 hi hzz ad0 n caps olds (by rw [hol, hsz]) (holds ad0 rfl) a xs.length cap news (by rw [hnl, hsz]) (hnews a rfl) (by omega) q1 hfs
            refine ⟨.slice (some ⟨C.w.heap.size, 0, none⟩) (n + xs.length) (grownCap C.w (n + xs.length) caps e), C2, .value _, ?_, .inl rfl, by rw [G2.w]; exact G12, ?_, ?_⟩
            · rw [G2.w]
              exact hrun hval
            · refine sl_whole (C' := C2) (e := e) hob2 (by simp [hl]) hμ (by rw [G2.w]; exact shape?_alloc_new _ _ _) (grownCap_ge _ _ _ _) ?_
              have := grownCap_ge C.w (n + xs.length) caps e
              simp only [Array.size_append, List.size_toArray, hlo, size_zeroCells, hzs]
              rw [← Nat.add_mul]
              exact Nat.mul_le_mul_right _ (by omega)
            · intro k' hk'
              cases hk'
              rw [hob2]
              rfl
      · cases he
    · cases he
end
end Go.Lf
/- Soundness, part 17: copy, clear, min, max, maps. -/
namespace Go.Lf
open Go.RowKit (Below)

section
variable {P : Program} {base : Nat} {C : Cx} {ρ : Operand → Value} {g : Nat → Option O} {fr : Nat} {o : Oper} {v : V} {us : List (Nat × O)}

theorem put_range {base : Nat} {C : Cx} (h : WRep base C) {k b sz ro off : Nat} {els ys : List D} {vals : List Value} (hk : C.ob k = some (.arr sz els ro)) (hb : C.μ k = some b) (hro : ro ≤ off) (hfit : off + ys.length ≤ els.length)
    (hvl : vals.length = ys.length * sz) (hone : ∀ u ∈ vals, u.oneCell' = true) (hsz : ∀ d ∈ ys, d.cells.length = sz ∧ ∀ x ∈ d.cells, x.leaf = true)
    (hc : ∀ (i j : Nat) d x, ys[i]? = some d → d.cells[j]? = some x → ∃ w, vals[i * sz + j]? = some w ∧ RepD C.F C.w w x) :
    (∀ j, j < vals.length → (C.w.cell? ⟨b, off * sz + j, none⟩).isSome = true) ∧ (∀ x, C.w.frozen? ⟨b, x, none⟩ = false) ∧
    ∃ C', Goes base C (updF C.ob k (.arr sz (els.take off ++ ys ++ els.drop (off + ys.length)) ro)) (C.w.setCells b (off * sz) vals) C' ∧ C'.μ = C.μ := by
  cases h.objs k _ hk with
  | empty hm => rw [hb] at hm; cases hm
  | arr b' e m hm hbb hsh hmm hz hro' hsz0 hc0 hf hnf =>
    rw [hb] at hm
    injection hm with hm
    subst hm
    have hle : (off + ys.length) * sz ≤ els.length * sz := Nat.mul_le_mul_right _ hfit
    rw [Nat.add_mul] at hle
    have hin : ∀ j, j < vals.length → (C.w.cell? ⟨b, off * sz + j, none⟩).isSome = true := fun j hj => cell?_of_shape hsh (by omega)
    refine ⟨hin, hz, ?_⟩
    have hlen : (els.take off ++ ys ++ els.drop (off + ys.length)).length = els.length := by simp; omega
    refine write_arr h (els' := els.take off ++ ys ++ els.drop (off + ys.length)) hk hb hin hone (Nat.mul_le_mul_right _ hro) (by omega) (fun e2 m2 hm2 => by rw [hsh] at hm2; cases hm2; rw [hlen]; exact hmm) ?_ ?_
    · intro d hd
      rcases List.mem_append.1 hd with hd | hd
      · rcases List.mem_append.1 hd with hd | hd
        · exact hsz0 d (List.mem_of_mem_take hd)
        · exact hsz d hd
      · exact hsz0 d (List.mem_of_mem_drop hd)
    · intro i j d x hd hx
      rcases Nat.lt_or_ge i off with h1 | h1
      · right
        rw [List.append_assoc, List.getElem?_append_left (by simp; omega), List.getElem?_take_of_lt h1] at hd
        have hj : j < sz := by have := (List.getElem?_eq_some_iff.1 hx).1; rw [(hsz0 d (List.mem_of_getElem? hd)).1] at this; exact this
        exact ⟨.inl (idx_lt h1 hj), d, hd, hx⟩
      · rcases Nat.lt_or_ge i (off + ys.length) with h2 | h2
        · left
          rw [List.getElem?_append_left (by simp; omega), List.getElem?_append_right (by simp; omega)] at hd
          rw [show i - (List.take off els).length = i - off by simp; omega] at hd
          have h3 : off * sz ≤ i * sz := Nat.mul_le_mul_right _ h1
          have h4 : (i - off) * sz = i * sz - off * sz := Nat.sub_mul ..
          refine ⟨by omega, ?_⟩
          obtain ⟨w, q1, q2⟩ := hc (i - off) j d x hd hx
          exact ⟨w, by rw [show i * sz + j - off * sz = (i - off) * sz + j by omega]; exact q1, q2⟩
        · right
          rw [List.getElem?_append_right (by simp; omega), List.getElem?_drop] at hd
          rw [show off + ys.length + (i - (List.take off els ++ ys).length) = i by simp; omega] at hd
          have h3 : (off + ys.length) * sz ≤ i * sz := Nat.mul_le_mul_right _ h2
          rw [Nat.add_mul] at h3
          exact ⟨.inr (by omega), d, hd, hx⟩

theorem op_copy (h : WRep base C) (hg : Sees g C) {c : Call} {t t2 e : TypeId} {s x : Operand} {v1 v2 : V} (ho : o.op = .call c) (hc : c.callee = .builtin .copy) (hx : c.args.toList = [s, x]) (hts : c.argTypes.toList = [t, t2])
    (hu : elemT P t = some e) (h1 : RepV C (ρ s) v1) (h2 : RepV C (ρ x) v2) (he : eff (.copy (sizeT P e)) [v1, v2] g fr = some (v, us)) :
    OpRes P base C ρ o us v := by
  obtain ⟨i, hu1, hi, hpos, hby, hsz⟩ := elemT_some hu
  have ha : c.args = #[s, x] := by apply Array.ext'; simpa using hx
  have ht : c.argTypes = #[t, t2] := by apply Array.ext'; simpa using hts
  have hrun : ∀ {w' : World} {val : Value}, (Builtin.copy_ #[t, t2] o.type #[ρ s, ρ x]).run P C.w = .ok val w' → (execOp ρ o).run P C.w = .ok (.value val) w' := by
    intro w' val hr
    refine call_builtin ho hc ?_
    simp [builtin, ha, ht, hr]
  simp only [eff] at he
  split at he
  · cases he
  · rename_i sz4 xs hs
    split at he
    · rename_i k n sz' off len
      split at he
      · rename_i sz'' els ro hk
        have hh := ite_some he
        clear he
        obtain ⟨⟨e0, e1, e2, hl, hol, hro⟩, he⟩ := hh
        subst e0 e1 e2
        simp only [Option.some.injEq, Prod.mk.injEq] at he
        obtain ⟨rfl, rfl⟩ := he
        have hkC := hg _ _ hk
        obtain ⟨ad, cap, news, hxv, hcap, hnl, hnews, hsome, hone, hszx, hcx⟩ := flat_cells (sz := sizeT P e) (by omega) (sliceOf_ok h hg h2 hs)
        generalize hsv : ρ s = u at h1
        cases h1 with
        | @sl a l cp _ _ _ _ _ hs' =>
          obtain ⟨_, hs'⟩ := hs' els ro hkC
          obtain ⟨rfl, _, hlc, hs'⟩ := hs' hl
          rcases Nat.eq_zero_or_pos (min xs.length l) with h0 | h0
          · have heq : els.take off ++ xs.take l ++ els.drop (off + min xs.length l) = els := by
              have : xs.take l = [] := by
                rcases Nat.min_eq_zero_iff.1 h0 with h3 | h3
                · rw [List.length_eq_zero_iff.1 h3]; simp
                · rw [h3]; simp
              rw [this, h0]
              simp
            rw [heq, h0]
            refine ⟨.int .i64 0, C, .value _, hrun ?_, .inl rfl, ?_, .d (.lit rfl), Valid.d⟩
            · have hnm : Nat.min xs.length l = 0 := h0
              rw [hsv, hxv]
              have hf : (Builtin.firstCells i.size 0 (.slice ad xs.length cap)).run P C.w = .ok #[] C.w := by
                cases ad with
                | none => rfl
                | some a => simp [Builtin.firstCells, loadCells, loadCellsFrom]
              cases a with
              | none => simp [Builtin.copy_, run_underlying hu1, Builtin.lenOf, hnm, sizeOf, typeInfo, hi, hf, goInt]
              | some a => simp [Builtin.copy_, run_underlying hu1, Builtin.lenOf, hnm, sizeOf, typeInfo, hi, hf, goInt, storeCells]
            · have : over C.ob [(k, .arr (sizeT P e) els ro)] = C.ob := by
                funext j
                rw [over_cons, over_nil, updF_apply]
                split
                · rename_i hj; subst hj; rw [hkC]
                · rfl
              rw [this]
              exact Goes.refl h
          · rcases hs' with hs' | ⟨b, e', m, hb, rfl, hsh, hm⟩
            · omega
            · obtain ⟨a2, rfl⟩ := hsome (by omega)
              have hmx : (xs.take l).length = min xs.length l := by simp [Nat.min_comm]
              have hnt : (news.take (min xs.length l * sizeT P e)).length = min xs.length l * sizeT P e := by
                have : min xs.length l * sizeT P e ≤ xs.length * sizeT P e := Nat.mul_le_mul_right _ (Nat.min_le_left _ _)
                simp; omega
              have hA : off + (xs.take l).length ≤ els.length := by
                rw [hmx]
                have := Nat.min_le_right xs.length l
                rw [hl]
                exact Nat.le_trans (Nat.add_le_add_left this off) hol
              obtain ⟨g1, g2, C2, G2, hμ2⟩ := put_range h (off := off) (ys := xs.take l) (vals := news.take (min xs.length l * sizeT P e)) hkC hb hro hA (by rw [hnt, hmx])
                (fun u hu' => hone u (List.mem_of_mem_take hu')) (fun d hd => hszx d (List.mem_of_mem_take hd))
                (fun i' j d y hd hy => by
                  have hi' : i' < min xs.length l := by have := (List.getElem?_eq_some_iff.1 hd).1; rwa [hmx] at this
                  rw [List.getElem?_take_of_lt (Nat.lt_of_lt_of_le hi' (Nat.min_le_right _ _))] at hd
                  have hj : j < sizeT P e := by have := (List.getElem?_eq_some_iff.1 hy).1; rw [(hszx d (List.mem_of_getElem? hd)).1] at this; exact this
                  obtain ⟨w, q1, q2⟩ := hcx i' j d y hd hy
                  exact ⟨w, by rw [List.getElem?_take_of_lt (idx_lt hi' hj)]; exact q1, q2⟩)
              rw [hmx] at G2
              refine ⟨.int .i64 (min xs.length l : Nat), C2, .value _, ?_, .inl rfl, by rw [G2.w]; exact G2, by have := RepV.d (C := C2) (RepD.lit (F := C2.F) (w := C2.w) (x := .int .i64 (min xs.length l : Nat)) rfl); simpa using this, Valid.d⟩
              rw [G2.w]
              refine hrun ?_
              rw [hsv, hxv]
              have hnm : Nat.min xs.length l = min xs.length l := rfl
              have hf := run_firstCells_some (P := P) C.w i.size (min xs.length l) a2 xs.length cap (news.take (min xs.length l * sizeT P e)) (by rw [hnt, hsz])
                (fun j w hw => hnews a2 rfl j w (by
                  have hj : j < min xs.length l * sizeT P e := by have := (List.getElem?_eq_some_iff.1 hw).1; rwa [hnt] at this
                  rwa [List.getElem?_take_of_lt hj] at hw))
              have hst := run_storeCells_cells (P := P) b (off * sizeT P e) (news.take (min xs.length l * sizeT P e)) 0 C.w (by simpa using g1) (fun j _ => g2 _) (fun u hu' => hone u (List.mem_of_mem_take hu'))
              simp only [Nat.add_zero] at hst
              simp [Builtin.copy_, run_underlying hu1, Builtin.lenOf, hnm, sizeOf, typeInfo, hi, hf, goInt, hst]
      · cases he
    · cases he

theorem op_clear (h : WRep base C) (hg : Sees g C) {c : Call} {t e : TypeId} {s : Operand} {v1 : V} {z : D} (ho : o.op = .call c) (hc : c.callee = .builtin .clear) (hx : c.args.toList = [s]) (hts : c.argTypes[0]? = some t)
    (hu : elemT P t = some e) (hz : zeroD P e = some z) (hzl : z.cells.length = sizeT P e) (hzleaf : ∀ x ∈ z.cells, x.leaf = true) (h1 : RepV C (ρ s) v1) (he : eff (.clear (sizeT P e) z) [v1] g fr = some (v, us)) :
    OpRes P base C ρ o us v := by
  obtain ⟨i, hu1, hi, hpos, hby, hsz⟩ := elemT_some hu
  obtain ⟨i', zv, hi', hzz, hzs, hzr⟩ := zeroD_ok hz
  rw [hi] at hi'
  injection hi' with hi'
  subst hi'
  have ha : c.args = #[s] := by apply Array.ext'; simpa using hx
  have hrun : ∀ {w' : World} {val : Value}, (Builtin.clear_ c.argTypes o.type #[ρ s]).run P C.w = .ok val w' → (execOp ρ o).run P C.w = .ok (.value val) w' := by
    intro w' val hr
    refine call_builtin ho hc ?_
    simp [builtin, ha, hr]
  have htup : RepV C (.tuple #[]) (.tup []) := .tup rfl (fun i u y hu => by simp at hu)
  have hzero : ∀ (a : Option Addr) (cp : Nat), ρ s = .slice a 0 cp → (some (V.tup [], ([] : List (Nat × O))) = some (v, us)) → OpRes P base C ρ o us v := by
    intro a cp hsv he
    simp only [Option.some.injEq, Prod.mk.injEq] at he
    obtain ⟨rfl, rfl⟩ := he
    refine OpRes.quiet h (.tuple #[]) (hrun ?_) htup (fun k hk => by cases hk with | tup hm => simp at hm)
    rw [hsv]
    cases a <;> simp [Builtin.clear_, hts, run_underlying hu1]
  simp only [eff] at he
  split at he
  · generalize hsv : ρ s = u at h1
    cases h1
    exact hzero _ _ hsv he
  · rename_i k n sz' off len
    split at he
    · rename_i sz'' els ro hk
      have hh := ite_some he
      clear he
      obtain ⟨⟨e1, e2, hl, hol, hro⟩, he⟩ := hh
      subst e1 e2
      have hkC := hg _ _ hk
      generalize hsv : ρ s = u at h1
      cases h1 with
      | @sl a l cp _ _ _ _ _ hs' =>
        obtain ⟨_, hs'⟩ := hs' els ro hkC
        obtain ⟨rfl, _, hlc, hs'⟩ := hs' hl
        rcases Nat.eq_zero_or_pos l with h0 | hlpos
        · subst h0
          exact hzero _ _ hsv (by simpa using he)
        have hlne : Nat.beq l 0 = false := by
          cases l with
          | zero => omega
          | succ l => rfl
        simp only [hlne, cond_false, Option.some.injEq, Prod.mk.injEq] at he
        obtain ⟨rfl, rfl⟩ := he
        rcases hs' with hs' | ⟨b, e', m, hb, rfl, hsh, hm⟩
        · omega
        · have hzsz : zv.cells.size = sizeT P e := hzs.trans hzl
          have hvals : ∀ i' j, i' < l → j < sizeT P e → (Builtin.zeroCells zv.cells l).toList[i' * sizeT P e + j]? = zv.cells[j]? := by
            intro i' j hi' hj
            have hlt := idx_lt hi' hj
            have hjz : j < zv.cells.size := by omega
            unfold Builtin.zeroCells
            rw [Array.getElem?_toList, made_get zv.cells _ (sizeT P e) _ hzsz (by rw [hzsz]; exact hlt) (by omega), idx_mod hj]
          obtain ⟨g1, g2, C2, G2, hμ2⟩ := put_range h (off := off) (ys := List.replicate l z) (vals := (Builtin.zeroCells zv.cells l).toList) hkC hb hro (by simpa using by omega) (by simp [size_zeroCells, hzsz])
            (fun u hu' => by
              obtain ⟨q, hq⟩ := List.mem_iff_getElem?.1 hu'
              have hql : q < l * sizeT P e := by have := (List.getElem?_eq_some_iff.1 hq).1; simpa [size_zeroCells, hzsz] using this
              have hp : 0 < sizeT P e := by omega
              have h3 : q / sizeT P e < l := Nat.div_lt_of_lt_mul (by rwa [Nat.mul_comm])
              have h4 : q % sizeT P e < sizeT P e := Nat.mod_lt _ hp
              have h5 : q / sizeT P e * sizeT P e + q % sizeT P e = q := by rw [Nat.mul_comm]; exact Nat.div_add_mod q _
              have h6 := hvals _ _ h3 h4
              rw [h5] at h6
              rw [h6] at hq
              exact (hzr C.F C.w _ u _ hq (List.getElem?_eq_getElem (by omega))).2)
            (fun d hd => by rw [List.eq_of_mem_replicate hd]; exact ⟨hzl, hzleaf⟩)
            (fun i' j d y hd hy => by
              have hi' : i' < l := by have := (List.getElem?_eq_some_iff.1 hd).1; simpa using this
              rw [List.getElem?_replicate, if_pos hi'] at hd
              injection hd with hd
              subst hd
              have hj : j < sizeT P e := by have := (List.getElem?_eq_some_iff.1 hy).1; omega
              have hjz : j < zv.cells.size := by omega
              exact ⟨zv.cells[j], by rw [hvals _ _ hi' hj]; simp [hjz], (hzr C.F C.w j _ y (by simp [hjz]) hy).1⟩)
          rw [List.length_replicate] at G2
          refine ⟨.tuple #[], C2, .value _, ?_, .inl rfl, by rw [G2.w]; exact G2, .tup rfl (fun i u y hu => by simp at hu), (fun k hk => by cases hk with | tup hm => simp at hm)⟩
          rw [G2.w]
          refine hrun ?_
          rw [hsv]
          have hst := run_storeCells_cells (P := P) b (off * sizeT P e) (Builtin.zeroCells zv.cells l).toList 0 C.w (by simpa using g1) (fun j _ => g2 _) (fun u hu' => by
              obtain ⟨q, hq⟩ := List.mem_iff_getElem?.1 hu'
              have hql : q < l * sizeT P e := by have := (List.getElem?_eq_some_iff.1 hq).1; simpa [size_zeroCells, hzsz] using this
              have hp : 0 < sizeT P e := by omega
              have h3 : q / sizeT P e < l := Nat.div_lt_of_lt_mul (by rwa [Nat.mul_comm])
              have h4 : q % sizeT P e < sizeT P e := Nat.mod_lt _ hp
              have h5 : q / sizeT P e * sizeT P e + q % sizeT P e = q := by rw [Nat.mul_comm]; exact Nat.div_add_mod q _
              have h6 := hvals _ _ h3 h4
              rw [h5] at h6
              rw [h6] at hq
              exact (hzr C.F C.w _ u _ hq (List.getElem?_eq_getElem (by omega))).2)
          simp only [Nat.add_zero] at hst
          obtain ⟨l', rfl⟩ : ∃ l', l = l' + 1 := ⟨l - 1, by omega⟩
          simp [Builtin.clear_, hts, run_underlying hu1, zeroValue, typeInfo, hi, hzz, hst]
    · cases he
  · cases he
end
end Go.Lf
/- Soundness, part 18: min, max, maps. -/
namespace Go.Lf
open Go.RowKit (Below)

section
variable {P : Program} {base : Nat} {C : Cx} {ρ : Operand → Value} {g : Nat → Option O} {fr : Nat} {o : Oper} {v : V} {us : List (Nat × O)}

theorem repV_d {u : Value} {x : D} (h : RepV C u (.d x)) : RepD C.F C.w u x := by
  cases h with | d q => exact q
theorem repV_scal {u x : Value} (h : RepV C u (.d (.lit x))) : scal x = true := by
  cases h with
  | d q => cases q with | lit q => exact q

theorem fold_lits {f : Value → Value → Option Value} {F : Value → Value → Sem Value} (hf : ∀ x y z, f x y = some z → (∀ w, (F x y).run P w = .ok z w) ∧ scal z = true) :
    ∀ (xs : List Operand) (vs : List V), Rel C ρ xs vs → ∀ (x z : Value), scal x = true → foldLits f x vs = some z → (∀ w, ((xs.map ρ).foldlM F x).run P w = .ok z w) ∧ scal z = true
  | [], vs, hr, x, z, hx, he => by
    cases hr
    simp only [foldLits, Option.some.injEq] at he
    subst he
    exact ⟨fun w => by simp, hx⟩
  | a :: xs, vs, hr, x, z, hx, he => by
    obtain ⟨y, r, rfl, h1, _, hr2⟩ := hr.uncons
    cases y with
    | d dd =>
      cases dd with
      | lit u =>
        simp only [foldLits] at he
        split at he
        · rename_i z1 hz1
          obtain ⟨q1, q2⟩ := hf _ _ _ hz1
          obtain ⟨q3, q4⟩ := fold_lits hf xs r hr2 z1 z q2 he
          have e := repV_lit h1
          exact ⟨fun w => by simp [e, q1, q3], q4⟩
        · cases he
      | _ => simp [foldLits] at he
    | _ => simp [foldLits] at he

theorem min2_ok {x y z : Value} (h : min2 x y = some z) : (∀ w, (Builtin.min2 x y).run P w = .ok z w) ∧ scal z = true := by
  unfold min2 at h
  split at h
  · injection h with h; subst h; exact ⟨fun w => by simp [Builtin.min2], rfl⟩
  · cases h
theorem max2_ok {x y z : Value} (h : max2 x y = some z) : (∀ w, (Builtin.max2 x y).run P w = .ok z w) ∧ scal z = true := by
  unfold max2 at h
  split at h
  · injection h with h; subst h; exact ⟨fun w => by simp [Builtin.max2], rfl⟩
  · cases h

theorem op_mn (h : WRep base C) {c : Call} {vs : List V} (ho : o.op = .call c) (hc : c.callee = .builtin .min) (hv : Rel C ρ c.args.toList vs) (he : eff .mn vs g fr = some (v, us)) : OpRes P base C ρ o us v := by
  cases hv' : vs with
  | nil => subst hv'; simp [eff] at he
  | cons v0 r =>
    subst hv'
    cases v0 <;> try (simp [eff] at he; done)
    rename_i d0
    cases d0 <;> try (simp [eff] at he; done)
    rename_i x
    cases ha : c.args.toList with
    | nil => rw [ha] at hv; cases hv
    | cons a as =>
      rw [ha] at hv
      obtain ⟨_, _, e1, h1, _, hr⟩ := hv.uncons
      injection e1 with e1 e2
      subst e1 e2
      have e := repV_lit h1
      have hs : scal x = true := repV_scal h1
      simp only [eff] at he
      split at he
      · rename_i z hz
        simp only [Option.some.injEq, Prod.mk.injEq] at he
        obtain ⟨rfl, rfl⟩ := he
        obtain ⟨q1, q2⟩ := fold_lits (P := P) (fun _ _ _ h => min2_ok h) as r hr x z hs hz
        refine OpRes.quiet h z (call_builtin ho hc ?_) (.d (.lit q2)) Valid.d
        have : (c.args.map ρ).toList = x :: as.map ρ := by rw [Array.toList_map, ha]; simp [e]
        simp [builtin, Builtin.min_, ha, e, q1]
      · cases he

theorem op_mx (h : WRep base C) {c : Call} {vs : List V} (ho : o.op = .call c) (hc : c.callee = .builtin .max) (hv : Rel C ρ c.args.toList vs) (he : eff .mx vs g fr = some (v, us)) : OpRes P base C ρ o us v := by
  cases hv' : vs with
  | nil => subst hv'; simp [eff] at he
  | cons v0 r =>
    subst hv'
    cases v0 <;> try (simp [eff] at he; done)
    rename_i d0
    cases d0 <;> try (simp [eff] at he; done)
    rename_i x
    cases ha : c.args.toList with
    | nil => rw [ha] at hv; cases hv
    | cons a as =>
      rw [ha] at hv
      obtain ⟨_, _, e1, h1, _, hr⟩ := hv.uncons
      injection e1 with e1 e2
      subst e1 e2
      have e := repV_lit h1
      have hs : scal x = true := repV_scal h1
      simp only [eff] at he
      split at he
      · rename_i z hz
        simp only [Option.some.injEq, Prod.mk.injEq] at he
        obtain ⟨rfl, rfl⟩ := he
        obtain ⟨q1, q2⟩ := fold_lits (P := P) (fun _ _ _ h => max2_ok h) as r hr x z hs hz
        refine OpRes.quiet h z (call_builtin ho hc ?_) (.d (.lit q2)) Valid.d
        simp [builtin, Builtin.max_, ha, e, q1]
      · cases he

/-! ### maps -/
theorem op_mkMap (h : WRep base C) {t : TypeId} (ho : o.op = .makeMap t none) (hfr : C.ob fr = none) (he : eff .mkMap [] g fr = some (v, us)) : OpRes P base C ρ o us v := by
  simp only [eff, Option.some.injEq, Prod.mk.injEq] at he
  obtain ⟨rfl, rfl⟩ := he
  have := h.newObj (.map #[] 0) hfr (.mp []) (fun C' E hμ hw hF => .mp C.w.heap.size #[] 0 hμ h.base (by rw [hw]; exact heap_alloc_at _ _) rfl (fun i m p hm => by simp at hm)) (fun ro ds hd => by cases hd)
  refine ⟨.map (some C.w.heap.size), _, .value _, ?_, .inl rfl, ⟨rfl, rfl, this.1, this.2⟩, .mp fun es _ => ⟨_, by simp, rfl⟩, ?_⟩
  · have hm : (Instr.makeMap t none).run P C.w = .ok (.map (some C.w.heap.size)) (C.w.alloc (.map #[] 0)) := rfl
    simp [execOp, ho, hm]
  · intro k hk
    cases hk
    simp only [updF_apply, if_true]
    rfl

theorem keyEq_some {kd : Nat} {a b : D} {r : Bool} (h : keyEq kd a b = some r) : ∃ x y, a = .lit x ∧ b = .lit y ∧ kd = kindOf x ∧ litEq x y = some r := by
  unfold keyEq at h
  split at h
  · rename_i x y
    obtain ⟨h1, h2⟩ := cond_some h
    exact ⟨x, y, rfl, rfl, by have := beq_eq h1; rw [this]; cases x <;> rfl, h2⟩
  · cases h

/-- A key's type. -/
def KeyT (P : Program) (kd : Nat) (k : TypeId) : Prop := ∃ d, P.underlying k = some d ∧ ((kd = 0 ∧ ∃ j, d = .int j) ∨ (kd = 1 ∧ d = .bool) ∨ (kd = 2 ∧ d = .string))
theorem keyT_some {t e : TypeId} {kd : Nat} (h : keyT P t = some (kd, e)) : ∃ k, P.underlying t = some (.map k e) ∧ KeyT P kd k := by
  unfold keyT at h
  split at h
  · rename_i k e' hu
    split at h
    · rename_i j hk; injection h with h; injection h with h1 h2; subst h1 h2; exact ⟨k, hu, _, hk, .inl ⟨rfl, _, rfl⟩⟩
    · rename_i hk; injection h with h; injection h with h1 h2; subst h1 h2; exact ⟨k, hu, _, hk, .inr (.inl ⟨rfl, rfl⟩)⟩
    · rename_i hk; injection h with h; injection h with h1 h2; subst h1 h2; exact ⟨k, hu, _, hk, .inr (.inr ⟨rfl, rfl⟩)⟩
    · cases h
  · cases h
theorem sameNow_of {kd : Nat} (_k : TypeId) {x y : Value} {r : Bool} {d : TypeDesc} (hk : (kd = 0 ∧ ∃ j, d = .int j) ∨ (kd = 1 ∧ d = .bool) ∨ (kd = 2 ∧ d = .string)) (hx : kd = kindOf x) (h : litEq x y = some r) : Instr.sameNow d x y = some r := by
  unfold litEq at h
  split at h
  · rename_i j a k b
    obtain ⟨h1, h2⟩ := ite_some h
    subst h1
    simp only [kindOf] at hx
    rcases hk with ⟨_, _, rfl⟩ | ⟨h3, _⟩ | ⟨h3, _⟩
    · simp [Instr.sameNow]; simpa using h2
    · omega
    · omega
  · rename_i a b
    simp only [kindOf] at hx
    rcases hk with ⟨h3, _⟩ | ⟨h3, _⟩ | ⟨_, rfl⟩
    · omega
    · omega
    · simpa [Instr.sameNow] using h
  · rename_i a b
    simp only [kindOf] at hx
    rcases hk with ⟨h3, _⟩ | ⟨_, rfl⟩ | ⟨h3, _⟩
    · omega
    · simpa [Instr.sameNow] using h
    · omega
  · cases h
theorem checkKey_run {kd : Nat} {k : TypeId} (hk : KeyT P kd k) (b : Bool) (x : Value) (w : World) : (Instr.checkKey b 10000 k x).run P w = .ok () w := by
  obtain ⟨d, hd, hk⟩ := hk
  rcases hk with ⟨_, j, rfl⟩ | ⟨_, rfl⟩ | ⟨_, rfl⟩ <;> (unfold Instr.checkKey; simp [run_underlying hd])

theorem find_get {F : Fz} {w : World} {kd : Nat} {k : TypeId} {d : TypeDesc} {x : Value} (hk : (kd = 0 ∧ ∃ j, d = .int j) ∨ (kd = 1 ∧ d = .bool) ∨ (kd = 2 ∧ d = .string)) : ∀ (es : List (D × D)) (en : List MapEntry) (q : Nat), en.length = es.length →
    (∀ (i : Nat) m p, en[i]? = some m → es[i]? = some p → RepD F w m.key p.1 ∧ RepD F w m.val p.2) → ∀ {r : Option D}, mapGet kd (.lit x) es = some r →
      (r = none ∧ Instr.findNow d x en q = some none) ∨ ∃ y i u, r = some y ∧ Instr.findNow d x en q = some (some (i, u)) ∧ RepD F w u y
  | [], [], q, _, _, r, he => by
    simp only [mapGet, Option.some.injEq] at he
    subst he
    exact .inl ⟨rfl, rfl⟩
  | (kk, y) :: es, m :: en, q, hl, hc, r, he => by
    simp only [mapGet] at he
    split at he
    · rename_i hke
      obtain ⟨x', y', e1, e2, h1, h2⟩ := keyEq_some hke
      injection e1 with e1
      subst e1 e2
      injection he with he
      subst he
      have hm := hc 0 m _ rfl rfl
      have e := repD_lit hm.1
      refine .inr ⟨y, q, m.val, rfl, ?_, hm.2⟩
      simp only [Instr.findNow, e, sameNow_of k hk h1 h2]
    · rename_i hke
      obtain ⟨x', y', e1, e2, h1, h2⟩ := keyEq_some hke
      injection e1 with e1
      subst e1 e2
      have hm := hc 0 m _ rfl rfl
      have e := repD_lit hm.1
      have ih := find_get (k := k) hk es en (q + 1) (by simpa using hl) (fun i m p h1 h2 => hc (i + 1) m p (by simpa using h1) (by simpa using h2)) he
      simp only [Instr.findNow, e, sameNow_of k hk h1 h2]
      exact ih
    · cases he
  | [], _ :: _, _, hl, _, _, _ => by simp at hl
  | _ :: _, [], _, hl, _, _, _ => by simp at hl

theorem zeroD_rep {e : TypeId} {z : D} (h : zeroD P e = some z) : ∃ i zv, P.info? e = some i ∧ i.zero = some zv ∧ ∀ F w, RepD F w zv z := by
  obtain ⟨i, zv, hi, hz, hs, hr⟩ := zeroD_ok h
  refine ⟨i, zv, hi, hz, fun F w => ?_⟩
  unfold zeroD at h
  rw [hi] at h
  simp only [Option.bind_some, hz] at h
  split at h
  · rename_i cs e1
    injection e1 with e1
    subst e1
    split at h
    · simp only [Option.map_eq_some_iff] at h
      obtain ⟨ds, _, rfl⟩ := h
      exact .agg (by simpa [Value.cells, D.cells] using hs) (fun j u y hu hy => (hr F w j u y (by simpa [Value.cells] using hu) hy).1)
    · cases h
  · rename_i zv' hna e1
    injection e1 with e1
    subst e1
    split at h
    · rename_i x hx
      unfold cLeaf at hx
      split at hx
      · injection hx with hx
        subst hx
        simp only [V.toD, Option.some.injEq] at h
        subst h
        exact .list0
      · obtain ⟨h1, hx⟩ := cond_some hx
        injection hx with hx
        subst hx
        simp only [V.toD, Option.some.injEq] at h
        subst h
        exact .lit h1
    · cases h
  · rename_i e1
    cases e1

theorem op_lookup (h : WRep base C) (hg : Sees g C) {t e : TypeId} {x i : Operand} {ok : Bool} {kd : Nat} {z : D} {v1 v2 : V} (ho : o.op = .lookup t x i ok) (hu : keyT P t = some (kd, e)) (hz : zeroD P e = some z)
    (h1 : RepV C (ρ x) v1) (h2 : RepV C (ρ i) v2) (he : eff (.lookup kd z ok) [v1, v2] g fr = some (v, us)) : OpRes P base C ρ o us v := by
  obtain ⟨k, hut, hkt⟩ := keyT_some hu
  obtain ⟨ie, zv, hie, hzz, hzs, hzr⟩ := zeroD_ok hz
  cases v1 <;> try (simp [eff] at he; done)
  rename_i kk
  cases v2 <;> try (simp [eff] at he; done)
  rename_i key
  cases key <;> try (simp [eff] at he; done)
  simp only [eff] at he
  split at he
  · rename_i es hk
    have hkC := hg _ _ hk
    generalize hsv : ρ x = u at h1
    cases h1 with
    | mp hp =>
      obtain ⟨b, hb, rfl⟩ := hp es hkC
      cases h.objs kk _ hkC with
      | mp b' en ck hm hbb hh hl hc =>
        rw [hb] at hm
        injection hm with hm
        subst hm
        have hzrep : RepD C.F C.w zv z := by
          obtain ⟨_, zv', q1, q2, q3⟩ := zeroD_rep hz
          rw [hie] at q1
          injection q1 with q1
          subst q1
          rw [hzz] at q2
          injection q2 with q2
          subst q2
          exact q3 C.F C.w
        have fin : ∀ (y : D) (u : Value) (bo : Bool), RepD C.F C.w u y → (execOp ρ o).run P C.w = .ok (.value (if ok then .tuple #[u, .bool bo] else u)) C.w →
            some (bif ok then V.tup [.d y, .d (.lit (.bool bo))] else .d y, ([] : List (Nat × O))) = some (v, us) → OpRes P base C ρ o us v := by
          intro y u bo hu hr he
          simp only [Option.some.injEq, Prod.mk.injEq] at he
          obtain ⟨rfl, rfl⟩ := he
          cases ok with
          | true =>
            refine OpRes.quiet h _ hr (.tup rfl fun q a c ha hc => ?_) (fun j hj => by
              cases hj with
              | tup hm hk =>
                simp at hm
                rcases hm with rfl | rfl <;> cases hk)
            match q with
            | 0 => simp at ha hc; subst ha hc; exact .d hu
            | 1 => simp at ha hc; subst ha hc; exact .d (.lit rfl)
            | q + 2 => simp at hc
          | false => exact OpRes.quiet h _ hr (.d hu) Valid.d
        have hrun : ∀ (r : Option (Nat × Value)), (Instr.findKey k (ρ i) en.toList).run P C.w = .ok r C.w →
            (execOp ρ o).run P C.w = .ok (.value (match r with | some (_, u) => if ok then .tuple #[u, .bool true] else u | none => if ok then .tuple #[zv, .bool false] else zv)) C.w := by
          intro r hr
          have hgo : (getObj b).run P C.w = .ok (.map en ck) C.w := by simp [getObj, Sem.run, hh]
          have hck := checkKey_run hkt en.isEmpty (ρ i) C.w
          have hzv : (zeroValue e).run P C.w = .ok zv C.w := by simp [zeroValue, typeInfo, hie, hzz]
          cases r with
          | none => simp [execOp, ho, hsv, Instr.lookup, run_underlying hut, hgo, hck, hr, hzv]
          | some p => simp [execOp, ho, hsv, Instr.lookup, run_underlying hut, hgo, hck, hr]
        obtain ⟨d, hd, hkd⟩ := hkt
        · have ey := repV_lit h2
          split at he
          · rename_i yy hget
            rcases find_get (k := k) hkd es en.toList 0 (by simpa using hl) (fun q m p hm hp => hc q m p (by simpa using hm) hp) hget with ⟨h3, _⟩ | ⟨y2, q, u, h3, h4, h5⟩
            · cases h3
            · injection h3 with h3
              subst h3
              have := hrun (some (q, u)) (by simp [Instr.findKey, run_underlying hd, ey, h4])
              exact fin yy u true h5 this he
          · rename_i hget
            rcases find_get (k := k) hkd es en.toList 0 (by simpa using hl) (fun q m p hm hp => hc q m p (by simpa using hm) hp) hget with ⟨_, h4⟩ | ⟨y2, q, u, h3, _⟩
            · have := hrun none (by simp [Instr.findKey, run_underlying hd, ey, h4])
              exact fin z zv false hzrep this he
            · cases h3
          · cases he
  · cases he

theorem find_put {F : Fz} {w : World} {kd : Nat} {d : TypeDesc} {x : Value} {y : D} {u0 : Value} (hk : (kd = 0 ∧ ∃ j, d = .int j) ∨ (kd = 1 ∧ d = .bool) ∨ (kd = 2 ∧ d = .string)) (hx : scal x = true) (hu0 : RepD F w u0 y) :
    ∀ (es : List (D × D)) (en : List MapEntry) (q : Nat), en.length = es.length →
    (∀ (i : Nat) m p, en[i]? = some m → es[i]? = some p → RepD F w m.key p.1 ∧ RepD F w m.val p.2) → ∀ {es' : List (D × D)}, mapPut kd (.lit x) y es = some es' →
      (es' = es ++ [(.lit x, y)] ∧ Instr.findNow d x en q = some none) ∨ ∃ i u m, Instr.findNow d x en q = some (some (q + i, u)) ∧ en[i]? = some m ∧ Instr.sameBits 10000 m.key x = true ∧ es' = es.set i (.lit x, y) ∧ i < es.length
  | [], [], q, _, _, es', he => by
    simp only [mapPut, Option.some.injEq] at he
    subst he
    exact .inl ⟨rfl, rfl⟩
  | (kk, z) :: es, m :: en, q, hl, hc, es', he => by
    simp only [mapPut] at he
    split at he
    · rename_i hke
      obtain ⟨x', y', e1, e2, h1, h2⟩ := keyEq_some hke
      injection e1 with e1
      subst e1 e2
      injection he with he
      subst he
      have hm := hc 0 m _ rfl rfl
      have e := repD_lit hm.1
      refine .inr ⟨0, m.val, m, ?_, rfl, ?_, rfl, by simp⟩
      · simp only [Instr.findNow, e, sameNow_of 0 hk h1 h2, Nat.add_zero]
      · rw [e]
        unfold litEq at h2
        split at h2
        · obtain ⟨q1, q2⟩ := ite_some h2
          subst q1
          injection q2 with q2
          have := eq_of_beq q2
          simp [Instr.sameBits, this]
        · injection h2 with q2
          rw [beq_toListBytes] at q2
          have := eq_of_beq q2
          simp [Instr.sameBits, beq_toListBytes, this]
        · injection h2 with q2
          have := eq_of_beq q2
          simp [Instr.sameBits, this]
        · cases h2
    · rename_i hke
      obtain ⟨x', y', e1, e2, h1, h2⟩ := keyEq_some hke
      injection e1 with e1
      subst e1 e2
      have hm := hc 0 m _ rfl rfl
      have e := repD_lit hm.1
      split at he
      · rename_i l hl2
        injection he with he
        subst he
        have hfn : Instr.findNow d x (m :: en) q = Instr.findNow d x en (q + 1) := by simp only [Instr.findNow, e, sameNow_of 0 hk h1 h2]
        rw [hfn]
        rcases find_put hk hx hu0 es en (q + 1) (by simpa using hl) (fun i m p h1 h2 => hc (i + 1) m p (by simpa using h1) (by simpa using h2)) hl2 with ⟨h3, h4⟩ | ⟨i, u, m', h3, h4, h5, h6, h7⟩
        · exact .inl ⟨by rw [h3]; rfl, h4⟩
        · exact .inr ⟨i + 1, u, m', by rw [h3, Nat.add_assoc, Nat.add_comm 1 i], by simpa using h4, h5, by rw [h6]; rfl, by simpa using h7⟩
      · cases he
    · cases he
  | [], _ :: _, _, hl, _, _, _ => by simp at hl
  | _ :: _, [], _, hl, _, _, _ => by simp at hl

/-- A map is written. -/
theorem write_map {base : Nat} {C : Cx} (h : WRep base C) {k b ck ck' : Nat} {es es' : List (D × D)} {en en' : Array MapEntry} (hk : C.ob k = some (.mp es)) (hb : C.μ k = some b) (hh : C.w.heap[b]? = some (.map en ck))
    (hl : en'.size = es'.length) (hc : ∀ (i : Nat) m p, en'[i]? = some m → es'[i]? = some p → RepD C.F C.w m.key p.1 ∧ RepD C.F C.w m.val p.2) :
    ∃ C', Goes base C (updF C.ob k (.mp es')) { C.w with heap := C.w.heap.setIfInBounds b (.map en' ck') } C' := by
  have hlt : b < C.w.heap.size := by
    rcases Nat.lt_or_ge b C.w.heap.size with h | h
    · exact h
    · simp [Array.getElem?_eq_none h] at hh
  have hbase : base ≤ b := ((h.objs k _ hk).lt hb).2
  let w' : World := { C.w with heap := C.w.heap.setIfInBounds b (.map en' ck') }
  have hother : ∀ b2, b2 ≠ b → w'.heap[b2]? = C.w.heap[b2]? := fun b2 hne => Array.getElem?_setIfInBounds_ne (Ne.symm hne)
  have hat : w'.heap[b]? = some (.map en' ck') := by show (C.w.heap.setIfInBounds b _)[b]? = _; simp [hlt]
  have hcell : ∀ b2 x, w'.cell? ⟨b2, x, none⟩ = C.w.cell? ⟨b2, x, none⟩ := by
    intro b2 x
    by_cases e : b2 = b
    · subst e
      simp [World.cell?, hat, hh]
    · exact World.cell?_of_block (w := C.w) (a := ⟨b2, x, none⟩) (hother b2 e)
  let C' : Cx := { μ := C.μ, F := C.F, ob := updF C.ob k (.mp es'), w := w' }
  have E : Ext C C' :=
    { fsub := fun _ _ h => h, fsame := fun b2 x _ => hcell b2 x
      box := fun j r cs hj h2 => by
        simp only [C', updF_apply] at h2
        split at h2
        · cases h2
        · exact ⟨⟨_, _, h2⟩, rfl⟩
      arr := fun j sz2 els2 ro2 hj h2 => by
        simp only [C', updF_apply] at h2
        split at h2
        · cases h2
        · exact ⟨_, _, h2, Nat.le_refl _, fun _ => rfl⟩
      mp := fun j es2 hj h2 => by
        simp only [C', updF_apply] at h2
        split at h2
        · rename_i e; subst e; exact ⟨⟨_, hk⟩, rfl⟩
        · exact ⟨⟨_, h2⟩, rfl⟩
      shp := fun b2 s hs => by
        by_cases e : b2 = b
        · subst e
          simp [World.shape?, hh] at hs
        · rw [← hs]; exact shape?_of_block (hother b2 e)
      live := fun j hj => by
        simp only [C', updF_apply]
        split
        · rfl
        · exact hj }
  refine ⟨C', rfl, rfl, ?_, E, ⟨rfl, rfl, rfl, by simp [C', w'], fun b2 hb2 => hother b2 (by omega)⟩, fun _ _ h => .inl h⟩
  refine h.upd E (fun j => updF_apply _ _ _ _) (fun _ _ => rfl) (fun b2 _ hne => ⟨hother b2 ?_, fun _ => Iff.rfl⟩) (fun b2 hb2 => .inr ⟨hb2, by simp [hk]⟩) ?_ (fun r cs hd => by cases hd) ?_ ?_
  · rintro rfl
    rcases hne with hne | hne
    · exact hne hb
    · simp [hk] at hne
  · exact .mp b en' ck' hb hbase hat hl fun i m p hm hp => ⟨(hc i m p hm hp).1.mono E.fsub E.fsame, (hc i m p hm hp).2.mono E.fsub E.fsame⟩
  · intro b2 x hx
    rw [E.fsame b2 x hx]
    exact h.fcell b2 x hx
  · have := h.base
    simp [C', w']
    omega

theorem op_mapUpd (h : WRep base C) (hg : Sees g C) {t e : TypeId} {x i y : Operand} {kd : Nat} {v1 v2 v3 : V} (ho : o.op = .insert t x i y ∨ o.op = .mapUpdate t x i y) (hu : keyT P t = some (kd, e))
    (h1 : RepV C (ρ x) v1) (h2 : RepV C (ρ i) v2) (h3 : RepV C (ρ y) v3) (he : eff (.mapUpd kd) [v1, v2, v3] g fr = some (v, us)) : OpRes P base C ρ o us v := by
  obtain ⟨k, hut, hkt⟩ := keyT_some hu
  cases v1 <;> try (simp [eff] at he; done)
  rename_i kk
  cases v2 <;> try (simp [eff] at he; done)
  rename_i key
  cases key <;> try (simp [eff] at he; done)
  rename_i kx
  simp only [eff] at he
  split at he
  · rename_i es hk
    have hkC := hg _ _ hk
    split at he
    · rename_i yd
      split at he
      · rename_i es' hput
        simp only [Option.some.injEq, Prod.mk.injEq] at he
        obtain ⟨rfl, rfl⟩ := he
        have ey := repV_lit h2
        have hks := repV_scal h2
        have hyr : RepD C.F C.w (ρ y) yd := repV_d h3
        generalize hsv : ρ x = u at h1
        cases h1 with
        | mp hp =>
          obtain ⟨b, hb, rfl⟩ := hp es hkC
          cases h.objs kk _ hkC with
          | mp b' en ck hm hbb hh hl hc =>
            rw [hb] at hm
            injection hm with hm
            subst hm
            obtain ⟨d, hd, hkd⟩ := id hkt
            have hgo : (getObj b).run P C.w = .ok (.map en ck) C.w := by simp [getObj, Sem.run, hh]
            have hck := checkKey_run hkt false kx C.w
            have hset : ∀ (ob : Obj), (setObj b ob).run P C.w = .ok () { C.w with heap := C.w.heap.setIfInBounds b ob } := by intro ob; simp [setObj, Sem.run, hh]
            have hfin : ∀ (w' : World), (Instr.mapUpdate t (.map (some b)) kx (ρ y)).run P C.w = .ok () w' → (execOp ρ o).run P C.w = .ok .skip w' := by
              intro w' hr
              rcases ho with e | e <;> simp [execOp, e, hsv, ey, hr]
            rcases find_put (d := d) hkd hks hyr es en.toList 0 (by simpa using hl) (fun q m p hm hp => hc q m p (by simpa using hm) hp) hput with ⟨q1, q2⟩ | ⟨j, u, m, q1, q2, q3, q4, q5⟩
            · obtain ⟨C', hG⟩ := write_map h (ck' := ck + 1) (es' := es') (en' := en.push { key := kx, val := ρ y, born := ck }) hkC hb hh (by rw [q1]; simp [hl]) (fun q m p hm hp => by
                rw [q1] at hp
                rcases Nat.lt_or_ge q en.size with hq | hq
                · rw [Array.getElem?_push, if_neg (by omega)] at hm
                  rw [List.getElem?_append_left (by omega)] at hp
                  exact hc q m p hm hp
                · have hq' : q = en.size := by
                    have := (Array.getElem?_eq_some_iff.1 hm).1
                    simp at this
                    omega
                  subst hq'
                  rw [Array.getElem?_push, if_pos rfl] at hm
                  rw [List.getElem?_append_right (by omega), hl, Nat.sub_self] at hp
                  injection hm with hm
                  simp at hp
                  subst hm hp
                  exact ⟨.lit hks, hyr⟩)
              refine ⟨Go.undef, C', .skip, ?_, .inr ⟨rfl, rfl⟩, by rw [hG.w]; exact hG, .undef, fun k' hk' => by cases hk'⟩
              rw [hG.w]
              refine hfin _ ?_
              simp [Instr.mapUpdate, run_underlying hut, hgo, hck, Instr.findKey, run_underlying hd, q2, hset]
            · have hjl : j < en.size := by omega
              have hmj : en[j]? = some m := by simpa using q2
              obtain ⟨C', hG⟩ := write_map h (ck' := ck) (es' := es') (en' := en.modify j fun e => { e with key := kx, val := ρ y }) hkC hb hh (by rw [q4]; simp [hl]) (fun q m2 p hm hp => by
                rw [q4] at hp
                rw [Array.getElem?_modify] at hm
                by_cases hqj : j = q
                · subst hqj
                  rw [if_pos rfl, hmj] at hm
                  rw [List.getElem?_set_self q5] at hp
                  injection hp with hp
                  simp at hm
                  subst hm hp
                  exact ⟨.lit hks, hyr⟩
                · rw [if_neg hqj] at hm
                  rw [List.getElem?_set_ne hqj] at hp
                  exact hc q m2 p hm hp)
              refine ⟨Go.undef, C', .skip, ?_, .inr ⟨rfl, rfl⟩, by rw [hG.w]; exact hG, .undef, fun k' hk' => by cases hk'⟩
              rw [hG.w]
              refine hfin _ ?_
              rw [Nat.zero_add] at q1
              simp [Instr.mapUpdate, run_underlying hut, hgo, hck, Instr.findKey, run_underlying hd, q1, hset, hmj, Instr.keyThatStays, q3]
      · cases he
    · cases he
  · cases he
end
end Go.Lf
/- Soundness, part 19: every operation that is compiled does what the small language says. -/
namespace Go.Lf
open Go.RowKit (Below)

section
variable {P : Program} {base : Nat} {C : Cx} {ρ : Operand → Value} {g : Nat → Option O} {fr : Nat} {o : Oper} {v : V} {us : List (Nat × O)}

theorem isNilSlice_eq {x : Operand} (h : isNilSlice x = true) : x = .const (.slice none 0 0) := by
  unfold isNilSlice at h
  split at h
  · rfl
  · cases h

theorem fresh_bslice {sz len : Nat} {z : D} {pl : List Nat} {vs : List V} (h : eff (.bslice sz len z pl) vs g fr = some (v, us)) : ∃ x, (fr, x) ∈ us := by
  simp only [eff] at h
  split at h
  · split at h
    · obtain ⟨_, h⟩ := cond_some h
      simp only [Option.some.injEq, Prod.mk.injEq] at h
      obtain ⟨_, rfl⟩ := h
      exact ⟨_, List.mem_append_right _ (List.mem_singleton.2 rfl)⟩
    · cases h
  · cases h
theorem fresh_mksl {sz : Nat} {z : D} {a b : V} (h : eff (.mksl sz z) [a, b] g fr = some (v, us)) : ∃ x, (fr, x) ∈ us := by
  simp only [eff] at h
  split at h
  · obtain ⟨_, h⟩ := ite_some h
    simp only [Option.some.injEq, Prod.mk.injEq] at h
    obtain ⟨_, rfl⟩ := h
    exact ⟨_, List.mem_singleton.2 rfl⟩
  · cases h
theorem fresh_append {sz s0 : Nat} {b : V} (h : eff (.append sz) [.nil s0, b] g fr = some (v, us)) : ∃ x, (fr, x) ∈ us := by
  simp only [eff] at h
  split at h
  · cases h
  · obtain ⟨_, h⟩ := cond_some h
    obtain ⟨_, h⟩ := ite_some h
    simp only [Option.some.injEq, Prod.mk.injEq] at h
    obtain ⟨_, rfl⟩ := h
    exact ⟨_, List.mem_singleton.2 rfl⟩
theorem bif_two {α : Type} {c : Bool} {a b d : α} (h : (bif c then some a else some b) = some d) : a = d ∨ b = d := by
  cases c
  · exact .inr (Option.some.inj h)
  · exact .inl (Option.some.inj h)
theorem fresh_slc {sz : Nat} {a b c : Bool} {vs : List V} (h : eff (.slc sz a b c) vs g fr = some (v, us)) (hne : us ≠ []) : ∃ x, (fr, x) ∈ us := by
  cases vs with
  | nil => simp [eff] at h
  | cons x r =>
    simp only [eff] at h
    split at h
    · cases h
    · split at h
      · cases h
      · split at h
        · cases h
        · split at h
          · split at h
            · obtain ⟨_, h⟩ := cond_some h
              split at h
              · cases h
              · split at h
                · cases h
                · split at h
                  · cases h
                  · simp only [Option.some.injEq, Prod.mk.injEq] at h
                    exact absurd h.2.symm hne
            · cases h
          · rename_i sz' ds
            cases hb : Nat.beq sz' sz with
            | false => simp [hb] at h
            | true =>
              simp only [hb, Bool.not_true, cond_false] at h
              split at h
              · cases h
              · split at h
                · cases h
                · split at h
                  · cases h
                  · rcases bif_two h with h | h
                    · injection h with _ h
                      subst h
                      exact ⟨_, List.mem_singleton.2 rfl⟩
                    · injection h with _ h
                      exact absurd h.symm hne
          · split at h
            · cases h
            · split at h
              · cases h
              · split at h
                · cases h
                · simp only [Option.some.injEq, Prod.mk.injEq] at h
                  exact absurd h.2.symm hne
          · cases h

theorem Rel.none {xs : List Operand} {ys : List V} (h : Rel C ρ xs ys) (hx : xs = []) : ys = [] := by
  subst hx; cases h; rfl
theorem Rel.two {x y : Operand} {ys : List V} (h : Rel C ρ [x, y] ys) : ∃ a b, ys = [a, b] ∧ RepV C (ρ x) a ∧ Valid C a ∧ RepV C (ρ y) b ∧ Valid C b := by
  obtain ⟨a, r, rfl, h1, n1, h⟩ := h.uncons
  obtain ⟨b, rfl, h2, n2⟩ := h.one
  exact ⟨a, b, rfl, h1, n1, h2, n2⟩
theorem Rel.three {x y z : Operand} {ys : List V} (h : Rel C ρ [x, y, z] ys) : ∃ a b c, ys = [a, b, c] ∧ RepV C (ρ x) a ∧ Valid C a ∧ RepV C (ρ y) b ∧ Valid C b ∧ RepV C (ρ z) c ∧ Valid C c := by
  obtain ⟨a, r, rfl, h1, n1, h⟩ := h.uncons
  obtain ⟨b, c, rfl, h2, n2, h3, n3⟩ := h.two
  exact ⟨a, b, c, rfl, h1, n1, h2, n2, h3, n3⟩

theorem zeroD_leaf {e : TypeId} {z : D} (h : zeroD P e = some z) : ∀ x ∈ z.cells, x.leaf = true := by
  have one : ∀ {sz : Nat} {u : Value} {x : V} {d : D}, cLeaf sz u = some x → x.toD = some d → d.leaf = true := by
    intro sz u x d h1 h2
    unfold cLeaf at h1
    split at h1
    · injection h1 with h1; subst h1; simp only [V.toD, Option.some.injEq] at h2; subst h2; rfl
    · obtain ⟨_, h1⟩ := cond_some h1
      injection h1 with h1; subst h1; simp only [V.toD, Option.some.injEq] at h2; subst h2; rfl
  have many : ∀ (l : List Value) (ss : List Nat) {vs : List V} {ds : List D}, cLeafs ss l = some vs → toDs vs = some ds → ∀ x ∈ ds, x.leaf = true := by
    intro l
    induction l with
    | nil =>
      intro ss vs ds h1 h2
      simp only [cLeafs, Option.some.injEq] at h1
      subst h1
      simp only [toDs, Option.some.injEq] at h2
      subst h2
      simp
    | cons a r ih =>
      intro ss vs ds h1 h2
      simp only [cLeafs] at h1
      split at h1
      · rename_i x l' ha hb
        injection h1 with h1
        subst h1
        simp only [toDs] at h2
        split at h2
        · rename_i d ds' hc hd
          injection h2 with h2
          subst h2
          intro x hx
          rcases List.mem_cons.1 hx with rfl | hx
          · exact one ha hc
          · exact ih _ hb hd x hx
        · cases h2
      · cases h1
  unfold zeroD at h
  split at h
  · split at h
    · rename_i vs hvs
      simp only [Option.map_eq_some_iff] at h
      obtain ⟨ds, hds, rfl⟩ := h
      exact many _ _ hvs hds
    · cases h
  · split at h
    · rename_i x hx
      have hl := one hx h
      intro y hy
      cases z with
      | agg => simp [D.leaf] at hl
      | _ => simp only [D.cells, List.mem_singleton] at hy; subst hy; exact hl
    · cases h
  · cases h

theorem one_of {xs : List Operand} {vs : List V} {lop : LOp} (hr : Rel C ρ xs vs) (he : eff lop vs g fr = some (v, us)) (hl : lop = .len ∨ lop = .lenS ∨ ∃ s z, lop = .clear s z) : ∃ x, xs = [x] := by
  cases hr with
  | nil => rcases hl with rfl | rfl | ⟨s, z, rfl⟩ <;> simp [eff] at he
  | cons h1 n1 t =>
    cases t with
    | nil => exact ⟨_, rfl⟩
    | cons h2 n2 t => rcases hl with rfl | rfl | ⟨s, z, rfl⟩ <;> simp [eff] at he
theorem two_of {xs : List Operand} {vs : List V} {lop : LOp} (hr : Rel C ρ xs vs) (he : eff lop vs g fr = some (v, us)) (hl : ∃ s, lop = .append s ∨ lop = .copy s) : ∃ x y, xs = [x, y] := by
  obtain ⟨s, hl⟩ := hl
  cases hr with
  | nil => rcases hl with rfl | rfl <;> simp [eff] at he
  | cons h1 n1 t =>
    cases t with
    | nil => rcases hl with rfl | rfl <;> simp [eff] at he
    | cons h2 n2 t =>
      cases t with
      | nil => exact ⟨_, _, rfl⟩
      | cons h3 n3 t => rcases hl with rfl | rfl <;> simp [eff] at he

theorem op_ok (h : WRep base C) (hg : Sees g C) (hρ : ∀ u, ρ (.const u) = u) {lop : LOp} {xs : List Operand} (hc : cOp P o = some (lop, xs)) {vs : List V} (hv : Rel C ρ xs vs) (hcall : lop ≠ .call)
    (he : eff lop vs g fr = some (v, us)) (hfr : ∀ p ∈ us, fr ≤ p.1 → p.1 < fr + 16 → C.ob p.1 = none) : OpRes P base C ρ o us v := by
  have fresh0 : (∃ x, (fr, x) ∈ us) → C.ob fr = none := fun ⟨x, hx⟩ => hfr (fr, x) hx (Nat.le_refl _) (by simp)
  unfold cOp at hc
  split at hc
  case h_1 x ho | h_2 x ho =>
    have ho' : o.op = .move x ∨ o.op = .assign x := by first | exact .inl ho | exact .inr ho
    cases hn : isNilSlice x with
    | false =>
      simp only [hn, cond_false, Option.some.injEq, Prod.mk.injEq] at hc
      obtain ⟨rfl, rfl⟩ := hc
      obtain ⟨y, rfl, h1, n1⟩ := hv.one
      exact op_mv h ho' h1 n1 he
    | true =>
      simp only [hn, cond_true] at hc
      have hx := isNilSlice_eq hn
      split at hc
      · simp only [Option.some.injEq, Prod.mk.injEq] at hc
        obtain ⟨rfl, rfl⟩ := hc
        obtain ⟨y, rfl, h1, n1⟩ := hv.one
        refine op_mvNil h ho' (by rw [hx, hρ]) (fresh0 ?_) he
        simp only [eff, Option.some.injEq, Prod.mk.injEq] at he
        obtain ⟨_, rfl⟩ := he
        exact ⟨_, List.mem_singleton.2 rfl⟩
      · simp only [Option.some.injEq, Prod.mk.injEq] at hc
        obtain ⟨rfl, rfl⟩ := hc
        obtain ⟨y, rfl, h1, n1⟩ := hv.one
        exact op_mv h ho' h1 n1 he
  case h_3 c a b ho =>
    simp only [Option.some.injEq, Prod.mk.injEq] at hc
    obtain ⟨rfl, rfl⟩ := hc
    obtain ⟨x, y, z, rfl, h1, n1, h2, n2, h3, n3⟩ := hv.three
    exact op_pick h ho h1 h2 h3 n2 n3 he
  case h_4 t ho =>
    split at hc
    · rename_i hz
      split at hc
      · simp only [Option.some.injEq, Prod.mk.injEq] at hc
        obtain ⟨rfl, rfl⟩ := hc
        have := hv.none rfl
        subst this
        have he' := he
        simp only [eff, Option.some.injEq, Prod.mk.injEq] at he'
        obtain ⟨_, rfl⟩ := he'
        exact op_allocNil h ho hz (fresh0 ⟨_, List.mem_cons_of_mem _ (List.mem_singleton.2 rfl)⟩) (hfr (fr + 1, _) (List.mem_cons_self ..) (by simp) (by simp)) he
      · cases hc
    · rename_i z _ hz
      split at hc
      · rename_i cs hcs
        simp only [Option.some.injEq, Prod.mk.injEq] at hc
        obtain ⟨rfl, rfl⟩ := hc
        have := hv.none rfl
        subst this
        refine op_alloc h ho hz hcs (fresh0 ?_) he
        simp only [eff, Option.some.injEq, Prod.mk.injEq] at he
        obtain ⟨_, rfl⟩ := he
        exact ⟨_, List.mem_singleton.2 rfl⟩
      · cases hc
    · cases hc
  case h_5 t x ho =>
    simp only [Option.some.injEq, Prod.mk.injEq] at hc
    obtain ⟨rfl, rfl⟩ := hc
    obtain ⟨y, rfl, h1, n1⟩ := hv.one
    refine op_box h ho h1 n1 (fresh0 ?_) he
    simp only [eff] at he
    obtain ⟨_, he⟩ := cond_some he
    simp only [Option.some.injEq, Prod.mk.injEq] at he
    obtain ⟨_, rfl⟩ := he
    exact ⟨_, List.mem_singleton.2 rfl⟩
  case h_6 t parts ho =>
    split at hc
    · rename_i fs z hu hz
      split at hc
      · rename_i zero ps hzl hps hall
        simp only [Option.some.injEq, Prod.mk.injEq] at hc
        obtain ⟨rfl, rfl⟩ := hc
        exact op_build h ho hu hz hzl hps hall hv he
      · cases hc
    · cases hc
  case h_7 t len parts ho =>
    split at hc
    · rename_i e hu
      split at hc
      · rename_i z hz
        obtain ⟨hb, hc⟩ := cond_some hc
        simp only [Bool.and_eq_true] at hb
        simp only [Option.some.injEq, Prod.mk.injEq] at hc
        obtain ⟨rfl, rfl⟩ := hc
        exact op_bslice h hg ho hu hz (ble_le hb.1) (beq_eq hb.2) hv (fresh0 (fresh_bslice he)) he
      · cases hc
    · cases hc
  case h_8 t a ho =>
    split at hc
    · rename_i ag ha
      simp only [Option.some.injEq, Prod.mk.injEq] at hc
      obtain ⟨rfl, rfl⟩ := hc
      obtain ⟨y, rfl, h1, n1⟩ := hv.one
      exact op_load h hg ho ha h1 he
    · cases hc
  case h_9 t a x ho =>
    split at hc
    · rename_i i hi
      simp only [Option.some.injEq, Prod.mk.injEq] at hc
      obtain ⟨rfl, rfl⟩ := hc
      obtain ⟨y, z, rfl, h1, n1, h2, n2⟩ := hv.two
      exact op_store h hg ho (by simp [hi]) h1 n1 h2 n2 he
    · cases hc
  case h_10 x ho =>
    simp only [Option.some.injEq, Prod.mk.injEq] at hc
    obtain ⟨rfl, rfl⟩ := hc
    obtain ⟨y, rfl, h1, n1⟩ := hv.one
    exact op_nilck h hg ho h1 n1 he
  case h_11 op t x y t' ho =>
    split at hc
    · simp only [Option.some.injEq, Prod.mk.injEq] at hc
      obtain ⟨rfl, rfl⟩ := hc
      obtain ⟨a, b, rfl, h1, n1, h2, n2⟩ := hv.two
      exact op_bin h ho h1 h2 he
    · simp only [Option.some.injEq, Prod.mk.injEq] at hc
      obtain ⟨rfl, rfl⟩ := hc
      obtain ⟨a, b, rfl, h1, n1, h2, n2⟩ := hv.two
      exact op_bin h ho h1 h2 he
    · rename_i hu
      split at hc
      · simp only [Option.some.injEq, Prod.mk.injEq] at hc
        obtain ⟨rfl, rfl⟩ := hc
        obtain ⟨a, b, rfl, h1, n1, h2, n2⟩ := hv.two
        exact op_eqB (neg := false) h ho rfl hu h1 h2 he
      · simp only [Option.some.injEq, Prod.mk.injEq] at hc
        obtain ⟨rfl, rfl⟩ := hc
        obtain ⟨a, b, rfl, h1, n1, h2, n2⟩ := hv.two
        exact op_eqB (neg := true) h ho rfl hu h1 h2 he
      · cases hc
    · rename_i hu
      split at hc
      · rename_i ks hks
        split at hc
        · simp only [Option.some.injEq, Prod.mk.injEq] at hc
          obtain ⟨rfl, rfl⟩ := hc
          obtain ⟨a, b, rfl, h1, n1, h2, n2⟩ := hv.two
          exact op_eqA (neg := false) h ho rfl hu hks h1 h2 he
        · simp only [Option.some.injEq, Prod.mk.injEq] at hc
          obtain ⟨rfl, rfl⟩ := hc
          obtain ⟨a, b, rfl, h1, n1, h2, n2⟩ := hv.two
          exact op_eqA (neg := true) h ho rfl hu hks h1 h2 he
        · cases hc
      · cases hc
    · rename_i hu
      split at hc
      · simp only [Option.some.injEq, Prod.mk.injEq] at hc
        obtain ⟨rfl, rfl⟩ := hc
        obtain ⟨a, b, rfl, h1, n1, h2, n2⟩ := hv.two
        exact op_eqNil (neg := false) h hg ho rfl hu h1 h2 he
      · simp only [Option.some.injEq, Prod.mk.injEq] at hc
        obtain ⟨rfl, rfl⟩ := hc
        obtain ⟨a, b, rfl, h1, n1, h2, n2⟩ := hv.two
        exact op_eqNil (neg := true) h hg ho rfl hu h1 h2 he
      · cases hc
    · rename_i e hu
      cases hs : Nat.beq (sizeT P e) 0 with
      | true => simp [hs] at hc
      | false =>
        simp only [hs, cond_false] at hc
        split at hc
        · simp only [Option.some.injEq, Prod.mk.injEq] at hc
          obtain ⟨rfl, rfl⟩ := hc
          obtain ⟨a, b, rfl, h1, n1, h2, n2⟩ := hv.two
          exact op_eqNilP (neg := false) h hg ho rfl hu h1 h2 he
        · simp only [Option.some.injEq, Prod.mk.injEq] at hc
          obtain ⟨rfl, rfl⟩ := hc
          obtain ⟨a, b, rfl, h1, n1, h2, n2⟩ := hv.two
          exact op_eqNilP (neg := true) h hg ho rfl hu h1 h2 he
        · cases hc
    · cases hc
  case h_12 op t x ho =>
    simp only [Option.some.injEq, Prod.mk.injEq] at hc
    obtain ⟨rfl, rfl⟩ := hc
    obtain ⟨y, rfl, h1, n1⟩ := hv.one
    exact op_un h ho h1 he
  case h_13 s t x ho =>
    split at hc
    · rename_i k' k hs ht
      simp only [Option.some.injEq, Prod.mk.injEq] at hc
      obtain ⟨rfl, rfl⟩ := hc
      obtain ⟨y, rfl, h1, n1⟩ := hv.one
      exact op_conv h ho hs ht h1 he
    · cases hc
  case h_14 f first caps ho =>
    simp only [Option.some.injEq, Prod.mk.injEq] at hc
    obtain ⟨rfl, rfl⟩ := hc
    exact op_mkfn h ho hv.length hv.get he
  case h_15 t x lo hi mx ho =>
    split at hc
    · rename_i hu
      split at hc
      · simp only [Option.some.injEq, Prod.mk.injEq] at hc
        obtain ⟨rfl, rfl⟩ := hc
        exact op_slcS h ho hu hv he
      · cases hc
    · cases hb : (mx.isSome && !hi.isSome) with
      | true => rw [hb] at hc; cases hc
      | false =>
        rw [hb] at hc
        simp only [cond_false] at hc
        split at hc
        · rename_i e hu
          simp only [Option.some.injEq, Prod.mk.injEq] at hc
          obtain ⟨rfl, rfl⟩ := hc
          refine op_slc h hg ho hu ?_ hv (fun hne => fresh0 (fresh_slc he hne)) he
          intro hn
          subst hn
          cases mx <;> simp_all
        · cases hc
  case h_16 t l c ho =>
    split at hc
    · rename_i e hu
      split at hc
      · rename_i z hz
        obtain ⟨hb, hc⟩ := cond_some hc
        simp only [Option.some.injEq, Prod.mk.injEq] at hc
        obtain ⟨rfl, rfl⟩ := hc
        obtain ⟨a, b, rfl, h1, n1, h2, n2⟩ := hv.two
        exact op_mksl h ho hu hz (beq_eq hb) (zeroD_leaf hz) h1 h2 (fresh0 (fresh_mksl he)) he
      · cases hc
    · cases hc
  case h_17 s x f ho =>
    split at hc
    · rename_i fs hu
      split at hc
      · rename_i fd hf
        split at hc
        · rename_i i hi
          cases hs : Nat.beq i.size 0 with
          | true => simp [hs] at hc
          | false =>
            simp only [hs, cond_false, Option.some.injEq, Prod.mk.injEq] at hc
            obtain ⟨rfl, rfl⟩ := hc
            obtain ⟨y, rfl, h1, n1⟩ := hv.one
            exact op_faddr h hg ho hu hf hi (fun e => by rw [e] at hs; cases hs) h1 n1 he
        · cases hc
      · cases hc
    · cases hc
  case h_18 t x f ho =>
    split at hc
    · rename_i fs hu
      split at hc
      · rename_i fd hf
        split at hc
        · rename_i ag ha
          simp only [Option.some.injEq, Prod.mk.injEq] at hc
          obtain ⟨rfl, rfl⟩ := hc
          obtain ⟨y, rfl, h1, n1⟩ := hv.one
          exact op_fld h ho hu hf ha h1 n1 he
        · cases hc
      · cases hc
    · cases hc
  case h_19 t x i ho =>
    split at hc
    · rename_i e hu
      simp only [Option.some.injEq, Prod.mk.injEq] at hc
      obtain ⟨rfl, rfl⟩ := hc
      obtain ⟨a, b, rfl, h1, n1, h2, n2⟩ := hv.two
      exact op_iaddr h hg ho hu h1 n1 h2 he
    · cases hc
  case h_20 t x i ho =>
    split at hc
    · rename_i hu
      simp only [Option.some.injEq, Prod.mk.injEq] at hc
      obtain ⟨rfl, rfl⟩ := hc
      obtain ⟨a, b, rfl, h1, n1, h2, n2⟩ := hv.two
      exact op_idx h ho hu h1 h2 he
    · cases hc
  case h_21 t i ho =>
    simp only [Option.some.injEq, Prod.mk.injEq] at hc
    obtain ⟨rfl, rfl⟩ := hc
    obtain ⟨y, rfl, h1, n1⟩ := hv.one
    exact op_ext h ho h1 n1 he
  case h_22 t ho =>
    split at hc
    · simp only [Option.some.injEq, Prod.mk.injEq] at hc
      obtain ⟨rfl, rfl⟩ := hc
      have := hv.none rfl
      subst this
      refine op_mkMap h ho (fresh0 ?_) he
      simp only [eff, Option.some.injEq, Prod.mk.injEq] at he
      obtain ⟨_, rfl⟩ := he
      exact ⟨_, List.mem_singleton.2 rfl⟩
    · cases hc
  case h_23 t m k x ho | h_24 t m k x ho =>
    split at hc
    · rename_i kd e hu
      simp only [Option.some.injEq, Prod.mk.injEq] at hc
      obtain ⟨rfl, rfl⟩ := hc
      obtain ⟨a, b, c, rfl, h1, n1, h2, n2, h3, n3⟩ := hv.three
      exact op_mapUpd h hg (by first | exact .inl ho | exact .inr ho) hu h1 h2 h3 he
    · cases hc
  case h_25 t x i ok ho =>
    split at hc
    · rename_i kd e hu
      split at hc
      · rename_i z hz
        simp only [Option.some.injEq, Prod.mk.injEq] at hc
        obtain ⟨rfl, rfl⟩ := hc
        obtain ⟨a, b, rfl, h1, n1, h2, n2⟩ := hv.two
        exact op_lookup h hg ho hu hz h1 h2 he
      · cases hc
    · cases hc
  case h_26 t x ho | h_27 x ho =>
    simp only [Option.some.injEq, Prod.mk.injEq] at hc
    obtain ⟨rfl, rfl⟩ := hc
    simp [eff] at he
  case h_28 c ho =>
    split at hc
    · simp only [Option.some.injEq, Prod.mk.injEq] at hc
      exact absurd hc.1.symm hcall
    · rename_i hcl
      split at hc
      · rename_i ht
        simp only [Option.some.injEq, Prod.mk.injEq] at hc
        obtain ⟨rfl, rfl⟩ := hc
        obtain ⟨x, hx⟩ := one_of hv he (.inr (.inl rfl))
        rw [hx] at hv
        obtain ⟨a, rfl, h1, n1⟩ := hv.one
        exact op_lenS h ho hcl hx ht h1 he
      · rename_i ht
        simp only [Option.some.injEq, Prod.mk.injEq] at hc
        obtain ⟨rfl, rfl⟩ := hc
        obtain ⟨x, hx⟩ := one_of hv he (.inl rfl)
        rw [hx] at hv
        obtain ⟨a, rfl, h1, n1⟩ := hv.one
        exact op_len h hg ho hcl hx ht h1 he
      · cases hc
    · rename_i hcl
      split at hc
      · rename_i t u hts
        split at hc
        · rename_i e z0 hu hz0 htu
          split at hc
          · rename_i z hz
            obtain ⟨hb, hc⟩ := cond_some hc
            simp only [Option.some.injEq, Prod.mk.injEq] at hc
            obtain ⟨rfl, rfl⟩ := hc
            obtain ⟨x, y, hx⟩ := two_of hv he ⟨_, .inl rfl⟩
            rw [hx] at hv
            obtain ⟨a, b, rfl, h1, n1, h2, n2⟩ := hv.two
            have htu := beq_eq htu
            subst htu
            exact op_append h hg ho hcl hx hts hu hz (beq_eq hb) h1 n1 h2 (fun ⟨s, e⟩ => by subst e; exact fresh0 (fresh_append he)) he
          · cases hc
        · cases hc
      · cases hc
    · rename_i hcl
      split at hc
      · rename_i t u hts
        split at hc
        · rename_i e hu
          simp only [Option.some.injEq, Prod.mk.injEq] at hc
          obtain ⟨rfl, rfl⟩ := hc
          obtain ⟨x, y, hx⟩ := two_of hv he ⟨_, .inr rfl⟩
          rw [hx] at hv
          obtain ⟨a, b, rfl, h1, n1, h2, n2⟩ := hv.two
          exact op_copy h hg ho hcl hx hts hu h1 h2 he
        · cases hc
      · cases hc
    · rename_i hcl
      split at hc
      · rename_i e hu
        split at hc
        · rename_i z hz
          obtain ⟨hb, hc⟩ := cond_some hc
          simp only [Option.some.injEq, Prod.mk.injEq] at hc
          obtain ⟨rfl, rfl⟩ := hc
          obtain ⟨x, hx⟩ := one_of hv he (.inr (.inr ⟨_, _, rfl⟩))
          rw [hx] at hv
          obtain ⟨a, rfl, h1, n1⟩ := hv.one
          obtain ⟨t, ht1, ht2⟩ := Option.bind_eq_some_iff.1 hu
          exact op_clear h hg ho hcl hx ht1 ht2 hz (beq_eq hb) (zeroD_leaf hz) h1 he
        · cases hc
      · cases hc
    · rename_i hcl
      simp only [Option.some.injEq, Prod.mk.injEq] at hc
      obtain ⟨rfl, rfl⟩ := hc
      exact op_mn h ho hcl hv he
    · rename_i hcl
      simp only [Option.some.injEq, Prod.mk.injEq] at hc
      obtain ⟨rfl, rfl⟩ := hc
      exact op_mx h ho hcl hv he
    · cases hc
  case h_29 => cases hc
end
end Go.Lf
