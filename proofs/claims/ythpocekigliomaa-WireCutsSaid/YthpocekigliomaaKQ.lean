/- Deferred closures that recover; results in cells; tests on interface values. No condition. -/
import Derived.Test.YthpocekigliomaaKP
namespace Go.Proofs.Ythpocekigliomaa.K
open Go

theorem k_recover {P : Program} {n : Nat} {f : FuncId} {fn : Func} {id : Nat} {t : Tmp} {ty : TypeId} {pos : String} {af : Array Edge} {rest : Code} {args : Array Value} {w : World} {R' : Ending → World → Prop} (u u' : FrameMode) (x : Value)
    (hf : P.funcs[f]? = some fn) (hb : fn.body = some (.seq (.region id #[⟨some t, .call { callee := .builtin .recover, args := #[], argTypes := #[] }, ty, pos, af, none⟩] false) rest)) (hn : fn.ntmps = n) (ha : Nat.ble args.size n = true) (ht : Nat.blt t n = true)
    (hrec : ∀ (c : Frame) (cs : List Frame), c.mode = u → (recoverD (c :: cs) = some (x, { c with mode := u' } :: cs)) ∨ (recoverD (c :: cs) = none ∧ x = .nilIface ∧ u' = u))
    (h : KC P n rest (kFn P fn n R') [] (upd (fun t => args.getD t undef) t x) w) : CallsD P f args u w fun e u'' w' => u'' = u' ∧ R' e w' := by
  refine callsD_of_wpS hf hb fun c₀ cs hu => ?_
  rw [hn, entry_eq n args (Nat.le_of_ble_eq_true ha)]
  refine wpS_seq (wpS_region ?_)
  have hfin : ∀ cs', cs' = { c₀ with mode := u' } :: cs → rest.wpS P (bodyPostS P fn c₀ cs fun e u'' w' => u'' = u' ∧ R' e w') (ac n (upd (fun t => args.getD t undef) t x) []) cs' w := by
    rintro cs' rfl
    refine wpS_of_wp (wp_mono h.wp fun e a w hq => ?_)
    cases e with
    | normal => obtain ⟨ds, ρ, rfl, rfl, v, hv, hR⟩ := hq; exact ⟨rfl, u', rfl, v, hv, rfl, hR⟩
    | exit i => obtain ⟨_, _, _, h⟩ := hq; exact h.elim
    | ret => obtain ⟨ds, ρ, rfl, rfl, v, hv, hR⟩ := hq; exact ⟨rfl, u', rfl, v, hv, rfl, hR⟩
    | panic c => exact ⟨hq.1, u', rfl, rfl, hq.2⟩
    | goto _ => exact hq.elim
    | outgrown => exact hq.elim
  have hrun : (execOp (ac n (fun t => args.getD t undef) []).eval ⟨some t, .call { callee := .builtin .recover, args := #[], argTypes := #[] }, ty, pos, af, none⟩).run P w = .ok .recover w := by
    simp [execOp, resolve, invoke, builtin]
  simp only [List.size_toArray, List.length_singleton, List.range_succ, List.range_zero, List.nil_append, wpOpsS]
  simp only [List.getElem?_toArray, List.getElem?_cons_zero, Region.wanted, if_true, hrun]
  rcases hrec c₀ cs hu with hr | ⟨hr, rfl, rfl⟩
  · rw [hr]
    simp only [ac_put _ _ _ ht]
    exact hfin _ rfl
  · rw [hr]
    simp only [ac_put _ _ _ ht]
    exact hfin _ (by subst hu; rfl)

theorem rec_panic (v : Value) (c : Frame) (cs : List Frame) (h : c.mode = .panicking [{ v, recovered := false }]) :
    recoverD (c :: cs) = some (v, { c with mode := .panicking [{ v, recovered := true }] } :: cs) := by simp [recoverD, h]
theorem rec_return (c : Frame) (cs : List Frame) (h : c.mode = .returning) : recoverD (c :: cs) = none := by simp [recoverD, h]

section
variable {P : Program} {n : Nat} {ρ : Env} {w : World} {d : Option Tmp} {ty : TypeId} {pos : String} {af : Array Edge} {g : Option (Nat × Bool)}
theorem y_eqlI {x y : Operand} {t t' tx : TypeId} {ms : Array (String × TypeId)} {vx : Value} (hu : P.underlying t = some (.interface ms)) (hx : ev n ρ x = .iface tx vx) (hy : ev n ρ y = .nilIface) :
    Y P n ρ ⟨d, .binOp .eql t x y t', ty, pos, af, g⟩ w (.bool false) := by
  have he : ∀ m, (Op.equalIn (m + 1) t (.iface tx vx) .nilIface).run P w = .ok false w := fun m => by
    unfold Op.equalIn
    simp [underlying, hu]
  have hb : (binOp .eql t (.iface tx vx) .nilIface).run P w = .ok (.bool false) w := by
    unfold binOp Op.equal
    have := he (Op.maxDepth - 1)
    rw [show Op.maxDepth - 1 + 1 = Op.maxDepth from rfl] at this
    simp [this]
  have hg : (eqGuard .eql t x y (.iface tx vx) .nilIface).run P w = .ok () w := by unfold eqGuard; rfl
  refine ⟨?_⟩
  simp only [execOp, hx, hy, Sem.run_bind, hg, Result.andThen_ok, hb, Sem.run_pure]
theorem y_eqlN {x : Operand} {t t' : TypeId} {ms : Array (String × TypeId)} (hu : P.underlying t = some (.interface ms)) (hx : ev n ρ x = .nilIface) :
    Y P n ρ ⟨d, .binOp .eql t x (.const .nilIface) t', ty, pos, af, g⟩ w (.bool true) := by
  have he : ∀ m, (Op.equalIn (m + 1) t .nilIface .nilIface).run P w = .ok true w := fun m => by
    unfold Op.equalIn
    simp [underlying, hu]
  have hb : (binOp .eql t .nilIface .nilIface).run P w = .ok (.bool true) w := by
    unfold binOp Op.equal
    have := he (Op.maxDepth - 1)
    rw [show Op.maxDepth - 1 + 1 = Op.maxDepth from rfl] at this
    simp [this]
  have hg : (eqGuard .eql t x (.const .nilIface) .nilIface .nilIface).run P w = .ok () w := by unfold eqGuard; simp
  refine ⟨?_⟩
  simp only [execOp, hx, show ev n ρ (.const .nilIface) = .nilIface from rfl, Sem.run_bind, hg, Result.andThen_ok, hb, Sem.run_pure]
theorem y_assertOk {x : Operand} {tx ta : TypeId} {u : TypeDesc} {v : Value} (hu : P.underlying ta = some u) (hn : (match u with | .interface _ => false | _ => true) = true) (hx : ev n ρ x = .iface ta v) :
    Y P n ρ ⟨d, .typeAssert x tx ta true, ty, pos, af, g⟩ w (.tuple #[v, .bool true]) := by
  refine ⟨?_⟩
  simp only [execOp, hx, Instr.typeAssert, underlying, hu, Sem.run_bind, run_program, Result.andThen_ok, Sem.run_pure]
  cases u <;> simp_all
end

theorem res_cells2 {P : Program} {fn : Func} {tmps : Array Value} {w : World} {a b : Tmp} {t t' : TypeId} {ad bd : Addr} {v v' : Value} (hr : fn.results = #[.cell a t, .cell b t'])
    (ha : tmps.getD a undef = .pointer (some ad)) (hb : tmps.getD b undef = .pointer (some bd)) (hl : Ld P w t ad v) (hl' : Ld P w t' bd v') : (results fn tmps).run P w = .ok (.tuple #[v, v']) w := by
  unfold Ld at hl hl'
  simp only [Array.getD_eq_getD_getElem?] at ha hb
  simp only [results, hr]
  simp [ha, hb, hl, hl', asAddr]

theorem y_func2 {P : Program} {n : Nat} {ρ : Env} {w : World} {d : Option Tmp} {ty : TypeId} {pos : String} {af : Array Edge} {g : Option (Nat × Bool)} {f : Fn} {x y : Operand} {v u : Value} (h1 : ev n ρ x = v) (h2 : ev n ρ y = u) :
    Y P n ρ ⟨d, .makeFunc f #[] #[x, y], ty, pos, af, g⟩ w (.func f #[] #[v, u]) := y_func (by simp) (by simp [h1, h2])
theorem ow_defer0 {P : Program} {n : Nat} {ρ : Env} {k : Ks} {ds : List Deferred} {w : World} {ty : TypeId} {pos : String} {af : Array Edge} {g : Option (Nat × Bool)} {next : List Deferred → Env → World → Prop} {x : Operand} {tys : Array TypeId} {fv : Fn} {cap : Array Value}
    (hx : ev n ρ x = .func fv #[] cap) (h : next ({ target := .fn fv cap, args := #[] } :: ds) ρ w) : OW P n k ⟨none, .defer { callee := .value x, args := #[], argTypes := tys }, ty, pos, af, g⟩ ds ρ w next :=
  ow_defer hx (by simp) rfl h
/-- What all bytes tell, as results. -/
def WholeR {X : Type} (r : Except Nat X) (R : Value → X → Prop) (z u : Value) : Prop :=
  (∃ x v, r = .ok x ∧ u = .tuple #[v, .int .u16 0] ∧ R v x) ∨ (∃ e : Nat, r = .error e ∧ u = .tuple #[z, .int .u16 (e : Int)])
theorem WholeR.mono {X : Type} {r : Except Nat X} {R R' : Value → X → Prop} {z u : Value} (h : WholeR r R z u) (hR : ∀ v x, R v x → R' v x) : WholeR r R' z u := by
  rcases h with ⟨x, v, h1, h2, h3⟩ | h
  · exact .inl ⟨x, v, h1, h2, hR _ _ h3⟩
  · exact .inr h
theorem WholeR.form {X : Type} {r : Except Nat X} {R : Value → X → Prop} {zl : List Value} {u : Value} {n : Nat} (h : WholeR r R (.agg zl.toArray) u) (hz : zl.length = n ∧ One' zl) (hR : ∀ v x, R v x → ∃ cs, v = .agg cs.toArray ∧ cs.length = n ∧ One' cs) :
    ∃ (ys : List Value) (e : Int), u = .tuple #[.agg ys.toArray, .int .u16 e] ∧ ys.length = n ∧ One' ys := by
  rcases h with ⟨x, v, _, rfl, h3⟩ | ⟨e, _, rfl⟩
  · obtain ⟨cs, rfl, h4⟩ := hR _ _ h3
    exact ⟨cs, 0, rfl, h4⟩
  · exact ⟨zl, e, rfl, hz⟩
theorem k_retCT {P : Program} {fn : Func} {n : Nat} {ρ : Env} {w : World} {R' : Ending → World → Prop} {a b : Tmp} {t : TypeId} {ad : Addr} {v v' : Value} (hr : fn.results = #[.cell a t, .tmp b]) (hv : ev n ρ (.tmp a) = .pointer (some ad)) (hl : Ld P w t ad v)
    (hv' : ev n ρ (.tmp b) = v') (h : R' (.returned (.tuple #[v, v'])) w) : (kFn P fn n R').R [] ρ w := by
  refine ⟨rfl, _, ?_, h⟩
  have h1 := (ac_get n ρ a).trans hv
  have h2 := (ac_get n ρ b).trans hv'
  unfold Ld at hl
  simp only [Array.getD_eq_getD_getElem?] at h1 h2
  simp only [Res, results, hr, ac]
  simp [h1, h2, hl, asAddr]
theorem kD_R {P : Program} {fn : Func} {n : Nat} {R' : Ending → World → Prop} {ds : List Deferred} {ρ : Env} {w : World} (h : Leaves P fn (ac n ρ ds).tmps R' ds .returning w) : (kFnD P fn n R').R ds ρ w := h
theorem kD_nil {P : Program} {fn : Func} {n : Nat} {R' : Ending → World → Prop} {ρ : Env} {w : World} {v : Value} (hr : (results fn (ac n ρ []).tmps).run P w = .ok v w) (h : R' (.returned v) w) : (kFnD P fn n R').R [] ρ w :=
  ⟨v, hr, h⟩
theorem ac_tmp {n : Nat} {ρ : Env} {ds : List Deferred} {t : Nat} {v : Value} (h : ev n ρ (.tmp t) = v) : (ac n ρ ds).tmps.getD t undef = v := (ac_get n ρ t).trans h
theorem invoke_closure {P : Program} {f : FuncId} (hf : FnOk P f) (cap : Array Value) (w : World) : (invoke (.fn (.func f) cap) #[]).run P w = .ok (.enter f cap) w := by
  simp only [invoke, Array.empty_append]
  exact run_callFunc hf cap
end Go.Proofs.Ythpocekigliomaa.K
