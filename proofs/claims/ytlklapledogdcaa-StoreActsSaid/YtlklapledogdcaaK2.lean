/- Operations that write or make memory, calls, panics: one lemma a kind, over the layer K0. No condition. -/
import Derived.Test.YtlklapledogdcaaK1
import Derived.Lib.AppendStr
import Derived.Lib.ConvBytes
namespace Go.Proofs.Ytlklapledogdcaa.K
open Go

/-! ### Rows of cells of one's own -/

/-- Block b holds the cells cs, and may be written. -/
def Bx (w : World) (b : Nat) (T : TypeId) (cs : List Value) : Prop := w.heap[b]? = some (.cells cs.toArray T (0, 0))

theorem Bx.lt {w : World} {b : Nat} {T : TypeId} {cs : List Value} (h : Bx w b T cs) : b < w.heap.size := (Array.getElem?_eq_some_iff.1 h).1
theorem Bx.keep {S : Nat → Prop} {w w' : World} {b : Nat} {T : TypeId} {cs : List Value} (h : Bx w b T cs) (hf : Fr S w w') (hn : ¬ S b) : Bx w' b T cs := (hf.block b h.lt hn).trans h
theorem Bx.cs {w : World} {b : Nat} {T : TypeId} {cs : List Value} (h : Bx w b T cs) : Cs w ⟨b, 0, none⟩ cs := fun j v hj => by
  have hs : ((⟨b, 0, none⟩ : Addr).add j) = ⟨b, j, none⟩ := by unfold Addr.add; split <;> simp_all
  rw [hs]
  unfold Bx at h
  simp only [World.cell?, h]
  simpa using hj
theorem add_mk (b o j : Nat) : ((⟨b, o, none⟩ : Addr).add j) = ⟨b, o + j, none⟩ := by unfold Addr.add; split <;> simp_all
/-- A part of a row. -/
theorem Bx.part {w : World} {b : Nat} {T : TypeId} {cs : List Value} (h : Bx w b T cs) (i m : Nat) {xs : List Value} (hx : (cs.drop i).take m = xs) : Cs w ((⟨b, 0, none⟩ : Addr).add i) xs := hx ▸ h.cs.sub i m
theorem Bx.new (w : World) (cs : Array Value) (T : TypeId) : Bx (w.alloc (.cells cs T)) w.heap.size T cs.toList := by
  unfold Bx; rw [heap_alloc_new]

def splice (cs : List Value) (o : Nat) (xs : List Value) : List Value := cs.take o ++ xs ++ cs.drop (o + xs.length)

theorem setRow_fr (w : World) (b : Nat) (cs : Array Value) : Fr (· = b) w (w.setRow b cs) :=
  ⟨rfl, rfl, rfl, by simp [World.setRow], fun i hi hn => by
    simp only [World.setRow, Array.getElem?_modify]; rw [if_neg (fun h => hn h.symm)]⟩

theorem storeCells_bx {P : Program} {w : World} {b o : Nat} {T : TypeId} {cs xs : List Value} (h : Bx w b T cs) (hl : o + xs.length ≤ cs.length) (h1 : ∀ u ∈ xs, u.oneCell' = true) :
    ∃ w', (storeCells ⟨b, o, none⟩ xs).run P w = .ok () w' ∧ Bx w' b T (splice cs o xs) ∧ Fr (· = b) w w' ∧ w'.heap.size = w.heap.size := by
  have hr := run_storeCells_at P b o T xs 0 cs.toArray w h (by simpa using hl) h1
  refine ⟨_, hr, ?_, setRow_fr w b _, by simp [World.setRow]⟩
  unfold Bx
  rw [setRow_heap w b _ _ T _ h]
  simp [splice]

section
variable {P : Program} {n : Nat} {ρ : Env} {k : Ks} {ds : List Deferred} {w : World} {d : Option Tmp} {ty : TypeId} {pos : String} {af : Array Edge} {g : Option (Nat × Bool)}
variable {next : List Deferred → Env → World → Prop}

theorem ow_value {o : Oper} {t : Tmp} {v : Value} {w' : World} (hr : (execOp (ev n ρ) o).run P w = .ok (.value v) w') (hd : o.dst = some t) (hdn : Nat.blt t n = true)
    (h : next ds (upd ρ t v) w') : OW P n k o ds ρ w next := by
  refine ⟨?_⟩
  unfold Oper.wp
  rw [ac_eval, hr, Oper.upon_value, hd, ac_put _ _ _ hdn]
  exact ⟨ds, _, rfl, h⟩

theorem ow_box {t : Tmp} {T : TypeId} {x : Operand} {v : Value} (hx : ev n ρ x = v) (hdn : Nat.blt t n = true)
    (h : ∀ w' b, Bx w' b T v.cells.toList → Ext w w' → b = w.heap.size → w'.heap.size = w.heap.size + 1 → next ds (upd ρ t (.pointer (some ⟨b, 0, none⟩))) w') :
    OW P n k ⟨some t, .box T x, ty, pos, af, g⟩ ds ρ w next := by
  refine ow_value (w' := w.alloc (.cells v.cells T)) (v := .pointer (some ⟨w.heap.size, 0, none⟩)) ?_ rfl hdn (h _ _ (Bx.new _ _ _) (Fr.alloc1 _ _ _) rfl (by simp))
  simp [execOp, Instr.box, newVar, newRow, hx]

theorem ow_alloc {t : Tmp} {T : TypeId} {ti : TypeInfo} {z : Value} (hi : P.info? T = some ti) (hz : ti.zero = some z) (hdn : Nat.blt t n = true)
    (h : ∀ w' b, Bx w' b T z.cells.toList → Ext w w' → b = w.heap.size → w'.heap.size = w.heap.size + 1 → next ds (upd ρ t (.pointer (some ⟨b, 0, none⟩))) w') :
    OW P n k ⟨some t, .alloc T, ty, pos, af, g⟩ ds ρ w next := by
  refine ow_value (w' := w.alloc (.cells z.cells T)) (v := .pointer (some ⟨w.heap.size, 0, none⟩)) ?_ rfl hdn (h _ _ (Bx.new _ _ _) (Fr.alloc1 _ _ _) rfl (by simp))
  simp [execOp, Instr.alloc, newVar, newRow, zeroValue, typeInfo, hi, hz]

/-- A store into a row of one's own. -/
theorem ow_store {T T' : TypeId} {x y : Operand} {b o sz : Nat} {v : Value} {cs xs : List Value} {ti : TypeInfo} (hi : P.info? T = some ti) (hsz : ti.size = sz) (hx : ev n ρ x = .pointer (some ⟨b, o, none⟩)) (hy : ev n ρ y = v)
    (hb : Bx w b T' cs) (hv : v.cells = xs.toArray) (hs : xs.length = sz) (hl : o + xs.length ≤ cs.length) (h1 : ∀ u ∈ xs, u.oneCell' = true)
    (h : ∀ w', Bx w' b T' (splice cs o xs) → Fr (· = b) w w' → w'.heap.size = w.heap.size → next ds ρ w') :
    OW P n k ⟨none, .store T x y, ty, pos, af, g⟩ ds ρ w next := by
  obtain ⟨w', hr, h2, h3, h4⟩ := storeCells_bx (P := P) hb hl h1
  have hrun : (execOp (ev n ρ) ⟨none, .store T x y, ty, pos, af, g⟩).run P w = .ok .skip w' := by
    simp only [execOp, Instr.storeAt, hx, hy, Instr.sureAddr, storeVar, sizeOf, typeInfo, Sem.run_bind, Sem.run_pure, run_program, Result.andThen_ok, hi, hv]
    simp [hs, hsz, hr]
  refine ⟨?_⟩
  unfold Oper.wp
  rw [ac_eval, hrun, Oper.upon_skip]
  exact ⟨ds, ρ, rfl, h w' h2 h3 h4⟩

/-- A store of one cell, wherever it lies. -/
theorem ow_store1 {T : TypeId} {x y : Operand} {a : Addr} {v u : Value} {ti : TypeInfo} (hi : P.info? T = some ti) (hsz : ti.size = 1) (hx : ev n ρ x = .pointer (some a)) (hy : ev n ρ y = v)
    (hc : w.cell? a = some u) (hf : w.frozen? a = false) (hv : v.cells = #[v]) (h1 : v.oneCell' = true) (h : next ds ρ (w.setCell a v)) :
    OW P n k ⟨none, .store T x y, ty, pos, af, g⟩ ds ρ w next := by
  have hrun : (execOp (ev n ρ) ⟨none, .store T x y, ty, pos, af, g⟩).run P w = .ok .skip (w.setCell a v) := by
    have h0 : a.add 0 = a := by simp [Addr.add]
    simp only [execOp, Instr.storeAt, hx, hy, Instr.sureAddr, storeVar, sizeOf, typeInfo, Sem.run_bind, Sem.run_pure, run_program, Result.andThen_ok, hi, hv]
    simp [hsz, storeCells, h0, run_store P w a v _ h1, hc, hf]
  refine ⟨?_⟩
  unfold Oper.wp
  rw [ac_eval, hrun, Oper.upon_skip]
  exact ⟨ds, ρ, rfl, h⟩

/-! ### Calls -/

/-- Function f has a body. -/
def FnOk (P : Program) (f : FuncId) : Prop := ∃ fn, P.funcs[f]? = some fn ∧ (fn.name == "runtime.NumGoroutine") = false ∧ fn.body.isNone = false

theorem run_callFunc {f : FuncId} (hf : FnOk P f) (vs : Array Value) : (callFunc f vs).run P w = .ok (.enter f vs) w := by
  obtain ⟨fn, h1, h2, h3⟩ := hf
  simp only [callFunc, Sem.run_bind, run_program, Result.andThen_ok, h1, h2, h3, Bool.false_eq_true, if_false, Sem.run_pure]

/-- What follows a call. -/
def kRet (n : Nat) (k : Ks) (ds : List Deferred) (ρ : Env) (t : Option Tmp) (next : List Deferred → Env → World → Prop) : Ending → World → Prop
  | .returned v, w => match t with
    | some t => next ds (upd ρ t v) w
    | none => next ds ρ w
  | .panicked c, w => k.E ds (evr n ρ) c w
  | .outgrown, _ => False

def dstOk (n : Nat) : Option Tmp → Bool
  | some t => Nat.blt t n
  | none => true

theorem ow_callv {f : FuncId} {x : Operand} {args : Array Operand} {tys : Array TypeId} {vs first cap : Array Value} {R : Ending → World → Prop} (hf : FnOk P f) (hx : ev n ρ x = .func (.func f) first cap)
    (ha : first ++ args.map (ev n ρ) ++ cap = vs) (hdn : dstOk n d = true) (hc : Calls P f vs w R) (h : ∀ e w', R e w' → kRet n k ds ρ d next e w') :
    OW P n k ⟨d, .call { callee := .value x, args := args, argTypes := tys }, ty, pos, af, g⟩ ds ρ w next := by
  have hrun : (execOp (ev n ρ) ⟨d, .call { callee := .value x, args := args, argTypes := tys }, ty, pos, af, g⟩).run P w = .ok (.enter f vs) w := by
    simp only [execOp, resolve, hx, Deferred.ofValue, invoke, Sem.run_bind, Sem.run_pure, Result.andThen_ok, ha]
    exact run_callFunc hf vs
  refine ⟨?_⟩
  unfold Oper.wp
  rw [ac_eval, hrun, Oper.upon_enter]
  refine hc.mono fun e w' hR => ?_
  have := h e w' hR
  cases e with
  | returned v =>
    cases d with
    | none => exact ⟨ds, ρ, rfl, this⟩
    | some t => exact ⟨ds, _, ac_put ρ ds v hdn, this⟩
  | panicked c =>
    simp only [qof]
    rw [ac_evr]; exact this
  | outgrown => exact this.elim

theorem ow_call0 {f : FuncId} {x : Operand} {tys : Array TypeId} {R : Ending → World → Prop} (hf : FnOk P f) (hx : ev n ρ x = .func (.func f) #[] #[])
    (hdn : dstOk n d = true) (hc : Calls P f #[] w R) (h : ∀ e w', R e w' → kRet n k ds ρ d next e w') :
    OW P n k ⟨d, .call { callee := .value x, args := #[], argTypes := tys }, ty, pos, af, g⟩ ds ρ w next :=
  ow_callv hf hx (by simp) hdn hc h
theorem ow_call1 {f : FuncId} {x x1 : Operand} {tys : Array TypeId} {v1 : Value} {R : Ending → World → Prop} (hf : FnOk P f) (hx : ev n ρ x = .func (.func f) #[] #[])
    (h1 : ev n ρ x1 = v1) (hdn : dstOk n d = true) (hc : Calls P f #[v1] w R) (h : ∀ e w', R e w' → kRet n k ds ρ d next e w') :
    OW P n k ⟨d, .call { callee := .value x, args := #[x1], argTypes := tys }, ty, pos, af, g⟩ ds ρ w next :=
  ow_callv hf hx (by simp [h1]) hdn hc h
theorem ow_call2 {f : FuncId} {x x1 x2 : Operand} {tys : Array TypeId} {v1 v2 : Value} {R : Ending → World → Prop} (hf : FnOk P f) (hx : ev n ρ x = .func (.func f) #[] #[])
    (h1 : ev n ρ x1 = v1) (h2 : ev n ρ x2 = v2) (hdn : dstOk n d = true) (hc : Calls P f #[v1, v2] w R) (h : ∀ e w', R e w' → kRet n k ds ρ d next e w') :
    OW P n k ⟨d, .call { callee := .value x, args := #[x1, x2], argTypes := tys }, ty, pos, af, g⟩ ds ρ w next :=
  ow_callv hf hx (by simp [h1, h2]) hdn hc h
theorem ow_call3 {f : FuncId} {x x1 x2 x3 : Operand} {tys : Array TypeId} {v1 v2 v3 : Value} {R : Ending → World → Prop} (hf : FnOk P f) (hx : ev n ρ x = .func (.func f) #[] #[])
    (h1 : ev n ρ x1 = v1) (h2 : ev n ρ x2 = v2) (h3 : ev n ρ x3 = v3) (hdn : dstOk n d = true) (hc : Calls P f #[v1, v2, v3] w R) (h : ∀ e w', R e w' → kRet n k ds ρ d next e w') :
    OW P n k ⟨d, .call { callee := .value x, args := #[x1, x2, x3], argTypes := tys }, ty, pos, af, g⟩ ds ρ w next :=
  ow_callv hf hx (by simp [h1, h2, h3]) hdn hc h

/-- A contract: it returns. -/
def Ret (P : Program) (f : FuncId) (args : Array Value) (w : World) (R : Value → World → Prop) : Prop := Calls P f args w fun e w' => ∃ v, e = .returned v ∧ R v w'
/-- A contract: it returns, or panics. -/
def RetP (P : Program) (f : FuncId) (args : Array Value) (w : World) (R : Value → World → Prop) (E : List PanicEntry → World → Prop) : Prop :=
  Calls P f args w fun e w' => (∃ v, e = .returned v ∧ R v w') ∨ (∃ c, e = .panicked c ∧ E c w')

theorem Ret.mono {f : FuncId} {args : Array Value} {R R' : Value → World → Prop} (h : Ret P f args w R) (hr : ∀ v w', R v w' → R' v w') : Ret P f args w R' :=
  Calls.mono h fun _ _ ⟨v, he, hv⟩ => ⟨v, he, hr _ _ hv⟩
theorem Ret.toP {f : FuncId} {args : Array Value} {R : Value → World → Prop} {E : List PanicEntry → World → Prop} (h : Ret P f args w R) : RetP P f args w R E :=
  Calls.mono h fun _ _ h => .inl h

theorem kret_ret {R : Value → World → Prop} {t : Tmp} (h : ∀ v w', R v w' → next ds (upd ρ t v) w') : ∀ e w', (∃ v, e = Ending.returned v ∧ R v w') → kRet n k ds ρ (some t) next e w' := by
  rintro e w' ⟨v, rfl, hv⟩; exact h v w' hv
theorem kret_ret0 {R : Value → World → Prop} (h : ∀ v w', R v w' → next ds ρ w') : ∀ e w', (∃ v, e = Ending.returned v ∧ R v w') → kRet n k ds ρ none next e w' := by
  rintro e w' ⟨v, rfl, hv⟩; exact h v w' hv
theorem kret_retP {R : Value → World → Prop} {E : List PanicEntry → World → Prop} {t : Tmp} (h : ∀ v w', R v w' → next ds (upd ρ t v) w') (hE : ∀ c w', E c w' → k.E ds (evr n ρ) c w') :
    ∀ e w', ((∃ v, e = Ending.returned v ∧ R v w') ∨ (∃ c, e = Ending.panicked c ∧ E c w')) → kRet n k ds ρ (some t) next e w' := by
  rintro e w' (⟨v, rfl, hv⟩ | ⟨c, rfl, hc⟩)
  · exact h v w' hv
  · exact hE c w' hc

/-- A call that is laid by for the end. -/
theorem ow_defer {x : Operand} {args : Array Operand} {tys : Array TypeId} {fv : Fn} {first cap vs : Array Value} (hx : ev n ρ x = .func fv first cap) (ha : first ++ args.map (ev n ρ) = vs) (hd : d = none)
    (h : next ({ target := .fn fv cap, args := vs } :: ds) ρ w) : OW P n k ⟨d, .defer { callee := .value x, args := args, argTypes := tys }, ty, pos, af, g⟩ ds ρ w next := by
  subst hd
  have hrun : (execOp (ev n ρ) ⟨none, .defer { callee := .value x, args := args, argTypes := tys }, ty, pos, af, g⟩).run P w = .ok (.defer { target := .fn fv cap, args := vs }) w := by
    simp only [execOp, resolve, hx, Deferred.ofValue, Sem.run_bind, Sem.run_pure, Result.andThen_ok, ha]
  refine ⟨?_⟩
  unfold Oper.wp
  rw [ac_eval, hrun, Oper.upon_defer]
  exact ⟨_, ρ, rfl, h⟩

theorem ow_panic {x : Operand} {t : TypeId} {v : Value} (hx : ev n ρ x = .iface t v) (h : k.E ds (evr n ρ) [{ v := .iface t v, recovered := false }] w) :
    OW P n k ⟨d, .panic x, ty, pos, af, g⟩ ds ρ w next := by
  have hrun : (execOp (ev n ρ) ⟨d, .panic x, ty, pos, af, g⟩).run P w = .halt (.panic (.iface t v)) w := by
    simp [execOp, hx, Instr.panic]
  refine ⟨?_⟩
  unfold Oper.wp
  rw [ac_eval, hrun, Oper.upon_panic]
  simp only [qof]
  rw [ac_evr]; exact h

/-! ### Slices -/
theorem y_sliceA {t : TypeId} {x : Operand} {a : Addr} {m : Nat} {e : TypeId} {ti : TypeInfo} (hu : P.underlying t = some (.array m e)) (hi : P.info? e = some ti) (hx : ev n ρ x = .pointer (some a)) :
    Y P n ρ ⟨d, .slice t x none none none, ty, pos, af, g⟩ w (.slice (some a) m m) := by
  have h0 : a.add 0 = a := by simp [Addr.add]
  refine ⟨?_⟩
  simp only [execOp, Instr.sliceAt, Instr.sliceBounds, underlying, hu, hx, Sem.run_bind, run_program, Result.andThen_ok, Sem.run_pure, Instr.sureAddr, sizeOf, typeInfo, Option.map_none]
  simp [hi, h0]

theorem run_sliceBound {k : IntKind} {i : Int} {y : Nat} {code : BoundsCode} (h0 : 0 ≤ i) (h1 : i ≤ y) : (Instr.sliceBound (.int k i) y code).run P w = .ok i.toNat w := by
  simp [Instr.sliceBound, asIntOf, h0, h1]

/-- s[:h] -/
theorem y_sliceHi {t : TypeId} {x hi : Operand} {a : Option Addr} {len cap : Nat} {k : IntKind} {i : Int} {e : TypeId} {ti : TypeInfo} (hu : P.underlying t = some (.slice e)) (hti : P.info? e = some ti)
    (hx : ev n ρ x = .slice a len cap) (hh : ev n ρ hi = .int k i) (h0 : 0 ≤ i) (h1 : i ≤ cap) :
    Y P n ρ ⟨d, .slice t x none (some hi) none, ty, pos, af, g⟩ w (.slice a i.toNat cap) := by
  have hm : (Option.map (fun x : Addr => x.add 0) a) = a := by cases a <;> simp [Addr.add]
  refine ⟨?_⟩
  simp only [execOp, Instr.sliceAt, Instr.slice, Instr.sliceBounds, underlying, hu, hx, hh, Sem.run_bind, run_program, Result.andThen_ok, Sem.run_pure, sizeOf, typeInfo, Option.map_some, Option.map_none]
  rw [run_sliceBound h0 h1]
  simp [hti, hm]

/-- s[l:] -/
theorem y_sliceLo {t : TypeId} {x lo : Operand} {a : Option Addr} {len cap sz : Nat} {k : IntKind} {i : Int} {e : TypeId} {ti : TypeInfo} (hu : P.underlying t = some (.slice e)) (hti : P.info? e = some ti) (hs : ti.size = sz)
    (hx : ev n ρ x = .slice a len cap) (hh : ev n ρ lo = .int k i) (h0 : 0 ≤ i) (h1 : i ≤ len) :
    Y P n ρ ⟨d, .slice t x (some lo) none none, ty, pos, af, g⟩ w (.slice (if cap = i.toNat then a else a.map (·.add (i.toNat * sz))) (len - i.toNat) (cap - i.toNat)) := by
  refine ⟨?_⟩
  simp only [execOp, Instr.sliceAt, Instr.slice, Instr.sliceBounds, underlying, hu, hx, hh, Sem.run_bind, run_program, Result.andThen_ok, Sem.run_pure, sizeOf, typeInfo, Option.map_some, Option.map_none]
  rw [run_sliceBound h0 h1]
  simp [hti, hs]

/-- A literal of one element. -/
theorem ow_slice1 {t : Tmp} {T : TypeId} {x : Operand} {v : Value} {e : TypeId} {ti : TypeInfo} {z : Value} {sz : Nat} (hu : P.underlying T = some (.slice e)) (hi : P.info? e = some ti) (hz : ti.zero = some z) (hs : ti.size = sz)
    (hzs : z.cells.size = sz) (hx : ev n ρ x = v) (hv : v.cells.size = sz) (h0 : 0 < sz) (hb : sz ≤ 16777216) (hdn : Nat.blt t n = true)
    (h : ∀ w' b, Bx w' b e v.cells.toList → Ext w w' → b = w.heap.size → w'.heap.size = w.heap.size + 1 → next ds (upd ρ t (.slice (some ⟨b, 0, none⟩) 1 1)) w') :
    OW P n k ⟨some t, .buildSlice T 1 #[(0, x)], ty, pos, af, g⟩ ds ρ w next := by
  have hfill : Instr.fill (fun i => some (i * sz, sz)) ((Array.range (1 * sz)).map (z.cells[· % sz]!)) [(0, v)] = some v.cells := by
    have hfold : ∀ (l : List Value) (pre : List Value) (cur : List Value), cur.length = pre.length + l.length → cur.take pre.length = pre →
        (l.zipIdx pre.length).foldl (fun (cs : Array Value) (x : Value × Nat) => cs.setIfInBounds x.2 x.1) cur.toArray = (pre ++ l).toArray := by
      intro l
      induction l with
      | nil =>
        intro pre cur hl ht
        have : cur = pre := by rw [← ht]; exact (List.take_of_length_le (by simp at hl; omega)).symm
        simp [this]
      | cons c l ih =>
        intro pre cur hl ht
        have hlt : pre.length < cur.length := by simp at hl; omega
        have := ih (pre ++ [c]) (cur.set pre.length c) (by simp at hl ⊢; omega) (by
          apply List.ext_getElem?
          intro q
          have hq : (cur.take pre.length)[q]? = pre[q]? := by rw [ht]
          simp only [List.getElem?_take, List.getElem?_set, List.getElem?_append, List.length_append, List.length_singleton] at hq ⊢
          by_cases h1 : q < pre.length
          · have h2 : q < pre.length + 1 := by omega
            have h3 : ¬ pre.length = q := by omega
            simp [h1] at hq
            simp [h1, h2, h3, hq]
          · by_cases h2 : q = pre.length
            · subst h2; simp [hlt]
            · have h3 : ¬ q < pre.length + 1 := by omega
              have h4 : q - pre.length ≠ 0 := by omega
              simp [h1, h3, h4])
        simp only [List.length_append, List.length_singleton] at this
        simp only [List.zipIdx_cons, List.foldl_cons]
        rw [List.setIfInBounds_toArray, this]
        simp
    have := hfold v.cells.toList [] ((Array.range (1 * sz)).map (z.cells[· % sz]!)).toList (by simp [hv]) (by simp)
    simp only [List.length_nil, List.nil_append, Array.toArray_toList] at this
    simp only [Instr.fill, Nat.zero_mul, Nat.zero_add]
    rw [if_neg (by simp [hv])]
    have e2 : v.cells.zipIdx = (v.cells.toList.zipIdx).toArray := by
      apply Array.ext'; simp
    rw [e2]
    simp only [List.size_toArray, List.foldl_toArray']
    exact congrArg some this
  refine ow_value (w' := w.alloc (.cells v.cells e)) (v := .slice (some ⟨w.heap.size, 0, none⟩) 1 1) ?_ rfl hdn (h _ _ (Bx.new _ _ _) (Fr.alloc1 _ _ _) rfl (by simp))
  have hne : ¬ sz = 0 := by omega
  have hnl : ¬ 16777216 < sz := by omega
  simp only [execOp, Instr.buildSlice, underlying, hu, Sem.run_bind, run_program, Result.andThen_ok, Sem.run_pure, sizeOf, typeInfo, hi, hs, zeroValue]
  simp only [Nat.one_mul] at hfill
  simp [hne, hnl, hz, hx, hzs, hfill, newRow, hi]

/-! ### append onto what the call owns -/

def ownB (v : Value) (b : Nat) : Prop := v.ownBlock = some b

theorem append_fresh {T ty e : TypeId} {ti : TypeInfo} {z : Value} (ht : P.underlying T = some (.slice e)) (hi : P.info? e = some ti) (hz : ti.zero = some z)
    {v : Value} {m : Nat} {xs : List Value} (hown : w.ownsRow 0 e ti.size v m xs) {ad : Addr} {c j : Nat} {news : List Value} (hl : news.length = j * ti.size) (hnews : Cs w ad news) (h1 : ∀ u ∈ news, u.oneCell' = true)
    (h63 : m + j ≤ 1000000000) (hbytes : ti.bytes ≤ 100000) {v' : Value} {w' : World} (hr : (Builtin.append_ #[T, T] ty #[v, .slice (some ad) j c]).run P w = .ok v' w')
    (hnil : v' = .slice none 0 0 ↔ v = .slice none 0 0 ∧ j = 0) : v'.ownBlock = v.ownBlock ∨ ∀ b, ownB v' b → w.heap.size ≤ b := by
  have hb2 : (m + j) * ti.bytes ≤ 140737488355328 := Nat.le_trans (Nat.mul_le_mul h63 hbytes) (by decide)
  rcases hown.2 with ⟨rfl, rfl⟩ | ⟨b, cap, cur, rfl, hbg, hg, hnc, hcm, hcs, htake⟩
  · by_cases hj : j = 0
    · left; rw [hnil.2 ⟨rfl, hj⟩]
    · right
      rw [run_append_nil (P := P) w T ty e ti z ht hi hz ad j c news hl hnews (by omega) (by omega) (by simp only [Nat.zero_add] at hb2; omega)] at hr
      simp only [Result.ok.injEq] at hr
      intro q hq
      rw [← hr.1] at hq
      simp [ownB, Value.ownBlock] at hq
      omega
  · by_cases hroom : m + j ≤ cap
    · left
      have hfit : m * ti.size + news.length ≤ cur.size := by rw [hl, hcs, ← Nat.add_mul]; exact Nat.mul_le_mul_right _ hroom
      rw [run_append_room (P := P) w T ty e ti ht hi b m cap cur hg ad j c news hl hnews h1 hroom hfit] at hr
      simp only [Result.ok.injEq] at hr
      rw [← hr.1]; rfl
    · right
      have holds : ∀ j u, xs[j]? = some u → w.cell? ((⟨b, 0, none⟩ : Addr).add j) = some u := hown.cells (g := b) rfl
      rw [run_append_grow (P := P) w T ty e ti z ht hi hz ⟨b, 0, none⟩ m cap xs hown.1 holds ad j c news hl hnews (by omega) (by omega) (growslice_fits (by omega) hb2)] at hr
      simp only [Result.ok.injEq] at hr
      intro q hq
      rw [← hr.1] at hq
      simp [ownB, Value.ownBlock] at hq
      omega

theorem ow_append {t : Tmp} {s x : Operand} {T : TypeId} {e : TypeId} {ti : TypeInfo} {z : Value} {size : Nat} (ht : P.underlying T = some (.slice e)) (hi : P.info? e = some ti) (hz : ti.zero = some z)
    (hsize : ti.size = size) (hzs : z.cells.size = size) (hsz : 0 < size) (hbytes : ti.bytes ≤ 100000) {v : Value} {m : Nat} {xs : List Value} (hs : ev n ρ s = v) (hown : w.ownsRow 0 e size v m xs)
    {ad : Addr} {c j : Nat} {news : List Value} (hx : ev n ρ x = .slice (some ad) j c) (hl : news.length = j * size) (hnews : Cs w ad news) (h1 : ∀ u ∈ news, u.oneCell' = true)
    (h63 : m + j ≤ 1000000000) (hdn : Nat.blt t n = true)
    (h : ∀ v' w', w'.ownsRow 0 e size v' (m + j) (xs ++ news) → Fr (ownB v) w w' → (v'.ownBlock = v.ownBlock ∨ ∀ b, ownB v' b → w.heap.size ≤ b) → (v' = .slice none 0 0 ↔ v = .slice none 0 0 ∧ j = 0) → next ds (upd ρ t v') w') :
    OW P n k ⟨some t, .call { callee := .builtin .append, args := #[s, x], argTypes := #[T, T] }, ty, pos, af, g⟩ ds ρ w next := by
  subst hsize
  have hb2 : (m + j) * ti.bytes ≤ 140737488355328 := Nat.le_trans (Nat.mul_le_mul h63 hbytes) (by decide)
  obtain ⟨v', w', hr, h2, h3, h4⟩ := run_append_own (P := P) w 0 T ty e ti z ti.size ti.bytes ht hi hz rfl rfl hzs hsz v m xs hown ad j c news hl hnews h1 (by unfold maxLen; omega) hb2 (Nat.zero_le _)
  have hrun : (execOp (ev n ρ) ⟨some t, .call { callee := .builtin .append, args := #[s, x], argTypes := #[T, T] }, ty, pos, af, g⟩).run P w = .ok (.value v') w' := by
    simp only [execOp, resolve, invoke, builtin, Sem.run_bind, Sem.run_pure, Result.andThen_ok, List.map_toArray, List.map_cons, List.map_nil, hs, hx, hr]
  exact ow_value hrun rfl hdn (h v' w' h2 (Fr.grown h3 fun _ hb => hb) (append_fresh ht hi hz hown hl hnews h1 h63 hbytes hr h4) h4)

theorem append_fresh_string {T U ty e : TypeId} {ti : TypeInfo} (ht : P.underlying T = some (.slice e)) (hu : P.underlying U = some .string) (hi : P.info? e = some ti) (hz : ti.zero = some (.int .u8 0))
    (hs1 : ti.size = 1) (hby : ti.bytes = 1) {v : Value} {m : Nat} {xs : List Value} (hown : w.ownsRow 0 e 1 v m xs) {s : ByteArray} (h63 : m + s.size ≤ 1000000000) {v' : Value} {w' : World}
    (hr : (Builtin.append_ #[T, U] ty #[v, .string s]).run P w = .ok v' w') (hnil : v' = .slice none 0 0 ↔ v = .slice none 0 0 ∧ s.size = 0) : v'.ownBlock = v.ownBlock ∨ ∀ b, ownB v' b → w.heap.size ≤ b := by
  rcases hown.2 with ⟨rfl, rfl⟩ | ⟨b, cap, cur, rfl, hbg, hg, hnc, hcm, hcs, htake⟩
  · by_cases hj : s.size = 0
    · left; rw [hnil.2 ⟨rfl, hj⟩]
    · right
      rw [run_append_nil_string (P := P) w T U ty e ti (.int .u8 0) ht hu hi hz s (by omega) (by omega) (by rw [hby]; omega)] at hr
      simp only [Result.ok.injEq] at hr
      intro q hq
      rw [← hr.1] at hq
      simp [ownB, Value.ownBlock] at hq
      omega
  · by_cases hroom : m + s.size ≤ cap
    · left
      rw [Go.Lib.run_append_room_string (P := P) w T U ty e ti ht hu hi hs1 b m cap cur hg s hroom (by omega)] at hr
      simp only [Result.ok.injEq] at hr
      rw [← hr.1]; rfl
    · right
      have holds : ∀ j u, xs[j]? = some u → w.cell? ((⟨b, 0, none⟩ : Addr).add j) = some u := hown.cells (g := b) rfl
      rw [Go.Lib.run_append_grow_string (P := P) w T U ty e ti (.int .u8 0) ht hu hi hz ⟨b, 0, none⟩ m cap xs (by rw [hs1]; exact hown.1) holds s (by omega) (by omega) (by rw [hby]; exact growslice_fits (by omega) (by omega))] at hr
      simp only [Result.ok.injEq] at hr
      intro q hq
      rw [← hr.1] at hq
      simp [ownB, Value.ownBlock] at hq
      omega

theorem ow_appendS {t : Tmp} {sl x : Operand} {T U : TypeId} {e : TypeId} {ti : TypeInfo} (ht : P.underlying T = some (.slice e)) (hu : P.underlying U = some .string) (hi : P.info? e = some ti) (hz : ti.zero = some (.int .u8 0))
    (hs1 : ti.size = 1) (hby : ti.bytes = 1) {v : Value} {m : Nat} {xs : List Value} (hs : ev n ρ sl = v) (hown : w.ownsRow 0 e 1 v m xs) {s : ByteArray} (hx : ev n ρ x = .string s)
    (h63 : m + s.size ≤ 1000000000) (hdn : Nat.blt t n = true)
    (h : ∀ v' w', w'.ownsRow 0 e 1 v' (m + s.size) (xs ++ Go.Lib.strCells s) → Fr (ownB v) w w' → (v'.ownBlock = v.ownBlock ∨ ∀ b, ownB v' b → w.heap.size ≤ b) → (v' = .slice none 0 0 ↔ v = .slice none 0 0 ∧ s.size = 0) → next ds (upd ρ t v') w') :
    OW P n k ⟨some t, .call { callee := .builtin .append, args := #[sl, x], argTypes := #[T, U] }, ty, pos, af, g⟩ ds ρ w next := by
  obtain ⟨v', w', hr, h2, h3, h4⟩ := Go.Lib.run_append_own_string (P := P) w 0 T U ty e ti ht hu hi hz hs1 hby v m xs hown s (by unfold maxLen; omega) (by omega) (Nat.zero_le _)
  have hrun : (execOp (ev n ρ) ⟨some t, .call { callee := .builtin .append, args := #[sl, x], argTypes := #[T, U] }, ty, pos, af, g⟩).run P w = .ok (.value v') w' := by
    simp only [execOp, resolve, invoke, builtin, Sem.run_bind, Sem.run_pure, Result.andThen_ok, List.map_toArray, List.map_cons, List.map_nil, hs, hx, hr]
  exact ow_value hrun rfl hdn (h v' w' h2 (Fr.grown h3 fun _ hb => hb) (append_fresh_string ht hu hi hz hs1 hby hown h63 hr h4) h4)
end
end Go.Proofs.Ytlklapledogdcaa.K
