/- Abstract states of a walk: results that lie in boxes. No condition. -/
import Derived.Test.YtlklapledogdcaaMT
namespace Go.Proofs.Ytlklapledogdcaa.K
open Go

def rvRun (tmps : Array Value) : ResultVar → Sem Value
  | .tmp t => pure (tmps.getD t undef)
  | .cell a t => do loadVar t (← asAddr (tmps.getD a undef))
theorem results_eq (fn : Func) (tmps : Array Value) : results fn tmps = (do let vs ← fn.results.mapM (rvRun tmps); pure (if h : vs.size = 1 then vs[0] else .tuple vs)) := by
  unfold results
  have e : (fun x : ResultVar => (match x with | .tmp t => pure (tmps.getD t undef) | .cell a t => do loadVar t (← asAddr (tmps.getD a undef)) : Sem Value)) = rvRun tmps := by funext x; cases x <;> rfl
  exact congrArg (fun f => (do let vs ← fn.results.mapM f; pure (if h : vs.size = 1 then vs[0] else .tuple vs) : Sem Value)) e
structure MRv (P : Program) (n : Nat) (Hs : List En) (α : Nat → A) (rv : ResultVar) (a : A) : Prop where
  of ::
  out : ∀ w0 S0 g ρ w, HR w0 S0 g Hs w → ER g α ρ → ∃ v, RV g a v ∧ (rvRun (ac n ρ []).tmps rv).run P w = .ok v w
section
variable {P : Program} {n : Nat} {Hs : List En} {α : Nat → A} {fn : Func}
theorem mrv_tmp {t : Tmp} {a : A} (ha : ea n α (.tmp t) = a) : MRv P n Hs α (.tmp t) a := .of fun w0 S0 g ρ w hH hE =>
  ⟨ev n ρ (.tmp t), ha ▸ hE.ev n (.tmp t) rfl, by
    simp only [rvRun, Sem.run_pure]
    exact congrArg (fun x => Result.ok x w) (ac_get n ρ t)⟩
theorem mrv_cell {t : TypeId} {ad : Tmp} {k off : Nat} {p : List Nat} {a : A} (hx : ea n α (.tmp ad) = .ptr k p off) (hy : MY P n Hs allR α ⟨some 0, .load t (.tmp ad), 0, "", #[], none⟩ a) : MRv P n Hs α (.cell ad t) a := .of fun w0 S0 g ρ w hH hE => by
  obtain ⟨v, hv, hY⟩ := hy.out w0 S0 g ρ w hH hE
  have hrun := (hY w (hH.stab _)).run
  have h := hE.ev n (.tmp ad) rfl
  rw [hx] at h
  obtain ⟨b, o, he, _⟩ := ptr_at h
  refine ⟨v, hv, ?_⟩
  have hg : (ac n ρ []).tmps.getD ad undef = .pointer (some ⟨b, o + off, none⟩) := (ac_get n ρ ad).trans he
  simp only [execOp, Instr.loadAt, he, Instr.sureAddr, Sem.run_bind, Sem.run_pure, Result.andThen_ok] at hrun
  simp only [rvRun, hg, asAddr, Sem.run_bind, Sem.run_pure, Result.andThen_ok]
  cases hl : (loadVar t ⟨b, o + off, none⟩).run P w with
  | ok v' w' =>
    rw [hl] at hrun
    simp only [Result.andThen_ok, Result.ok.injEq, Next.value.injEq] at hrun
    obtain ⟨rfl, rfl⟩ := hrun
    rfl
  | halt x w' => rw [hl] at hrun; simp [Result.andThen] at hrun
theorem mresv1 {r1 : ResultVar} {a : A} (hr : fn.results = #[r1]) (h1 : MRv P n Hs α r1 a) : MRes P fn n Hs α a := .of fun w0 S0 g ρ w hH hE => by
  obtain ⟨v1, e1, f1⟩ := h1.out w0 S0 g ρ w hH hE
  exact ⟨_, by unfold Res; rw [results_eq, hr]; simp [f1], e1⟩
theorem mresv2 {r1 r2 : ResultVar} {a b : A} (hr : fn.results = #[r1, r2]) (h1 : MRv P n Hs α r1 a) (h2 : MRv P n Hs α r2 b) : MRes P fn n Hs α (.tup [a, b]) := .of fun w0 S0 g ρ w hH hE => by
  obtain ⟨v1, e1, f1⟩ := h1.out w0 S0 g ρ w hH hE
  obtain ⟨v2, e2, f2⟩ := h2.out w0 S0 g ρ w hH hE
  exact ⟨_, by unfold Res; rw [results_eq, hr]; simp [Sem.run_bind, f1, f2], .tup (vs := [_, _]) (.cons e1 (.cons e2 .nil))⟩
theorem mresv3 {r1 r2 r3 : ResultVar} {a b c : A} (hr : fn.results = #[r1, r2, r3]) (h1 : MRv P n Hs α r1 a) (h2 : MRv P n Hs α r2 b) (h3 : MRv P n Hs α r3 c) : MRes P fn n Hs α (.tup [a, b, c]) := .of fun w0 S0 g ρ w hH hE => by
  obtain ⟨v1, e1, f1⟩ := h1.out w0 S0 g ρ w hH hE
  obtain ⟨v2, e2, f2⟩ := h2.out w0 S0 g ρ w hH hE
  obtain ⟨v3, e3, f3⟩ := h3.out w0 S0 g ρ w hH hE
  exact ⟨_, by unfold Res; rw [results_eq, hr]; simp [Sem.run_bind, f1, f2, f3], .tup (vs := [_, _, _]) (.cons e1 (.cons e2 (.cons e3 .nil)))⟩
end
end Go.Proofs.Ytlklapledogdcaa.K
