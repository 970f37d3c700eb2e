/- Parts of rows moved within and between rows: capacity, parts, copies, clearing, overlapping. No condition. -/
import Derived.Test.YtlklapledogdcaaM6
import Derived.Lib.AppendZerosOnto
import Derived.Lib.Overlaps
namespace Go.Proofs.Ytlklapledogdcaa.K
open Go

section
variable {P : Program} {n : Nat} {ρ : Env} {k : Ks} {ds : List Deferred} {w : World} {d : Option Tmp} {ty : TypeId} {pos : String} {af : Array Edge} {g : Option (Nat × Bool)} {next : List Deferred → Env → World → Prop}

theorem y_capS {x : Operand} {t e : TypeId} {a : Option Addr} {l c : Nat} (hu : P.underlying t = some (.slice e)) (hx : ev n ρ x = .slice a l c) : Y P n ρ ⟨d, .call { callee := .builtin .cap, args := #[x], argTypes := #[t] }, ty, pos, af, g⟩ w (.int .i64 c) := by
  refine ⟨?_⟩
  simp [execOp, resolve, invoke, builtin, Builtin.cap_, underlying, hu, hx, goInt]
/-- s[l:h] -/
theorem y_slice2 {t : TypeId} {x lo hi : Operand} {a : Option Addr} {len cap sz : Nat} {kl kh : IntKind} {i j : Int} {e : TypeId} {ti : TypeInfo} (hu : P.underlying t = some (.slice e)) (hti : P.info? e = some ti) (hs : ti.size = sz) (hx : ev n ρ x = .slice a len cap)
    (hl : ev n ρ lo = .int kl i) (hh : ev n ρ hi = .int kh j) (h0 : 0 ≤ i) (h1 : i ≤ j) (h2 : j ≤ cap) :
    Y P n ρ ⟨d, .slice t x (some lo) (some hi) none, ty, pos, af, g⟩ w (.slice (if cap = i.toNat then a else a.map (·.add (i.toNat * sz))) (j.toNat - i.toNat) (cap - i.toNat)) := by
  refine ⟨?_⟩
  simp only [execOp, Instr.sliceAt, Instr.slice, Instr.sliceBounds, underlying, hu, hx, hl, hh, Sem.run_bind, run_program, Result.andThen_ok, Sem.run_pure, sizeOf, typeInfo, Option.map_some, Option.map_none]
  rw [run_sliceBound (by omega) h2]
  simp only [Result.andThen_ok]
  rw [run_sliceBound h0 (by omega)]
  simp [hti, hs]
/-- s[l:h:m] -/
theorem y_slice3 {t : TypeId} {x lo hi mx : Operand} {a : Option Addr} {len cap sz : Nat} {kl kh km : IntKind} {i j m : Int} {e : TypeId} {ti : TypeInfo} (hu : P.underlying t = some (.slice e)) (hti : P.info? e = some ti) (hs : ti.size = sz) (hx : ev n ρ x = .slice a len cap)
    (hl : ev n ρ lo = .int kl i) (hh : ev n ρ hi = .int kh j) (hm : ev n ρ mx = .int km m) (h0 : 0 ≤ i) (h1 : i ≤ j) (h2 : j ≤ m) (h3 : m ≤ cap) :
    Y P n ρ ⟨d, .slice t x (some lo) (some hi) (some mx), ty, pos, af, g⟩ w (.slice (if m.toNat = i.toNat then a else a.map (·.add (i.toNat * sz))) (j.toNat - i.toNat) (m.toNat - i.toNat)) := by
  refine ⟨?_⟩
  simp only [execOp, Instr.sliceAt, Instr.slice, Instr.sliceBounds, underlying, hu, hx, hl, hh, hm, Sem.run_bind, run_program, Result.andThen_ok, Sem.run_pure, sizeOf, typeInfo, Option.map_some]
  rw [run_sliceBound (by omega) h3]
  simp only [Result.andThen_ok]
  rw [run_sliceBound (by omega) (by omega)]
  simp only [Result.andThen_ok]
  rw [run_sliceBound h0 (by omega)]
  simp [hti, hs]

theorem ow_copyG {t : Tmp} {dT sT e : TypeId} {ti : TypeInfo} {sz : Nat} {x y : Operand} {b o dl dc sl sc : Nat} {T : TypeId} {cs news : List Value} {a : Addr} (hu : P.underlying dT = some (.slice e)) (hi : P.info? e = some ti) (hs : ti.size = sz)
    (hx : ev n ρ x = .slice (some ⟨b, o, none⟩) dl dc) (hy : ev n ρ y = .slice (some a) sl sc) (hb : Bx w b T cs) (hcs : Cs w a news) (hn : news.length = Nat.min sl dl * sz) (hfit : o + news.length ≤ cs.length) (h1 : ∀ u ∈ news, u.oneCell' = true)
    (hdn : Nat.blt t n = true) (h : ∀ w' v, Bx w' b T (splice cs o news) → Fr (· = b) w w' → w'.heap.size = w.heap.size → next ds (upd ρ t v) w') :
    OW P n k ⟨some t, .call { callee := .builtin .copy, args := #[x, y], argTypes := #[dT, sT] }, ty, pos, af, g⟩ ds ρ w next := by
  obtain ⟨w', hr, h2, h3, h4⟩ := storeCells_bx (P := P) hb hfit h1
  have hl := run_loadCells (P := P) hcs
  rw [hn] at hl
  have hrun : (execOp (ev n ρ) ⟨some t, .call { callee := .builtin .copy, args := #[x, y], argTypes := #[dT, sT] }, ty, pos, af, g⟩).run P w = .ok (.value (goInt (Nat.min sl dl))) w' := by
    simp only [execOp, resolve, invoke, builtin, Sem.run_bind, Sem.run_pure, Result.andThen_ok, List.map_toArray, List.map_cons, List.map_nil, hx, hy]
    simp [Builtin.copy_, underlying, hu, sizeOf, typeInfo, hi, hs, Builtin.lenOf, Builtin.firstCells, hl, hr]
  exact ow_value hrun rfl hdn (h w' _ h2 h3 h4)

theorem ow_clear {t e : TypeId} {ti : TypeInfo} {z : Value} {x : Operand} {b o l c : Nat} {T : TypeId} {cs : List Value} (hu : P.underlying t = some (.slice e)) (hi : P.info? e = some ti) (hz : ti.zero = some z) (hx : ev n ρ x = .slice (some ⟨b, o, none⟩) l c) (hb : Bx w b T cs)
    (hfit : o + (Builtin.zeroCells z.cells l).toList.length ≤ cs.length) (h1 : ∀ u ∈ (Builtin.zeroCells z.cells l).toList, u.oneCell' = true) (hd : d = none) (h : ∀ w', Bx w' b T (splice cs o (Builtin.zeroCells z.cells l).toList) → Fr (· = b) w w' → w'.heap.size = w.heap.size → next ds ρ w') :
    OW P n k ⟨d, .call { callee := .builtin .clear, args := #[x], argTypes := #[t] }, ty, pos, af, g⟩ ds ρ w next := by
  subst hd
  obtain ⟨w', hr, h2, h3, h4⟩ := storeCells_bx (P := P) hb hfit h1
  have hrun : (execOp (ev n ρ) ⟨none, .call { callee := .builtin .clear, args := #[x], argTypes := #[t] }, ty, pos, af, g⟩).run P w = .ok (.value (.tuple #[])) w' ∨ ((execOp (ev n ρ) ⟨none, .call { callee := .builtin .clear, args := #[x], argTypes := #[t] }, ty, pos, af, g⟩).run P w = .ok (.value (.tuple #[])) w ∧ l = 0) := by
    cases l with
    | zero => right; refine ⟨?_, rfl⟩; simp [execOp, resolve, invoke, builtin, hx, Builtin.clear_, underlying, hu]
    | succ l =>
      left
      simp only [execOp, resolve, invoke, builtin, Sem.run_bind, Sem.run_pure, Result.andThen_ok, List.map_toArray, List.map_cons, List.map_nil, hx]
      simp [Builtin.clear_, underlying, hu, zeroValue, typeInfo, hi, hz, hr]
  rcases hrun with hrun | ⟨hrun, hl⟩
  · refine ⟨?_⟩
    unfold Oper.wp
    rw [ac_eval, hrun]
    exact ⟨ds, ρ, rfl, h w' h2 h3 h4⟩
  · refine ⟨?_⟩
    unfold Oper.wp
    rw [ac_eval, hrun]
    subst hl
    refine ⟨ds, ρ, rfl, h w ?_ (.refl _ _) rfl⟩
    simpa [splice, Builtin.zeroCells] using hb

theorem splice_len {cs xs : List Value} {o : Nat} (h : o + xs.length ≤ cs.length) : (splice cs o xs).length = cs.length := by
  unfold splice; simp; omega
theorem splice_at (A X B Y : List Value) (h : X.length = Y.length) : splice (A ++ (X ++ B)) A.length Y = A ++ (Y ++ B) := splice_mid A X B Y h.symm
end

/-- slices.overlaps of rows in two blocks. -/
theorem ow_overlaps {n : Nat} {ρ : Env} {k : Ks} {ds : List Deferred} {w : World} {ty : TypeId} {pos : String} {af : Array Edge} {g : Option (Nat × Bool)} {next : List Deferred → Env → World → Prop} {t : Tmp} {x y f : Operand} {tys : Array TypeId} {a b : Addr} {la ca lb cb : Nat} {A' B' : Array Value} {tA tB : TypeId}
    (hf : ev n ρ f = .func (.func 37) #[] #[]) (hx : ev n ρ x = .slice (some a) la ca) (hy : ev n ρ y = .slice (some b) lb cb) (hne : a.block ≠ b.block) (ha : w.heap[a.block]? = some (.cells A' tA (0, 0))) (hb : w.heap[b.block]? = some (.cells B' tB (0, 0)))
    (hB : B'.size ≠ 0) (hdn : Nat.blt t n = true) (h : next ds (upd ρ t (.bool false)) w) : OW Try.prog n k ⟨some t, .call { callee := .value f, args := #[x, y], argTypes := tys }, ty, pos, af, g⟩ ds ρ w next := by
  have hc : (callFunc 37 #[.slice (some a) la ca, .slice (some b) lb cb]).run Try.prog w = .ok (.value (.bool false)) w := by
    rw [run_callFunc_extern Try.func37 (by kernel_rfl) (by kernel_rfl) (by kernel_rfl) (e := Extern.SlicesOverlaps.overlaps #[38, 38] #[4]) (by kernel_rfl),
      Lib.run_overlaps_apart w 38 4 41 Try.underlying38 3 (fun _ => by kernel_rfl) a b la ca lb cb hne tA tB A'.size B'.size (by unfold World.shape?; rw [ha]) (by unfold World.shape?; rw [hb]) hB (by unfold World.frozen?; rw [ha]; simp) (by unfold World.frozen?; simp only; rw [ha]; simp)]
    rfl
  have hrun : (execOp (ev n ρ) ⟨some t, .call { callee := .value f, args := #[x, y], argTypes := tys }, ty, pos, af, g⟩).run Try.prog w = .ok (.value (.bool false)) w := by
    simp only [execOp, resolve, hf, Deferred.ofValue, invoke, Sem.run_bind, Sem.run_pure, Result.andThen_ok, List.map_toArray, List.map_cons, List.map_nil, hx, hy]
    exact hc
  exact ow_value hrun rfl hdn h
theorem ev_func {n : Nat} {ρ : Env} {f : FuncId} : ev n ρ (.func f) = .func (.func f) #[] #[] := rfl
end Go.Proofs.Ytlklapledogdcaa.K
