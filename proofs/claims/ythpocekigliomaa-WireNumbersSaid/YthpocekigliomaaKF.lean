/- The frame of a law's row: a call that answers true and makes at most new blocks. No condition. -/
import Derived.Test.YthpocekigliomaaK2
import Derived.Test.YthpocekigliomaaRows
import Derived.WalkKit
import Derived.ProofKit
import Derived.OpenShut
namespace Go.Proofs.Ythpocekigliomaa.K
open Go Go.ChangeShapes Go.WideShapes Go.ChangeAt Go.RowKit

theorem kept_of_ext {w w' : World} (h : Ext w w') (may : MemPlace → Prop) : w.keptBut w' may := by
  refine ⟨h.os, h.output, fun i hi => ?_⟩
  rw [h.block i hi (fun h => h)]
  rcases ho : w.heap[i]? with _ | o
  · trivial
  · cases o <;> simp
theorem post_ext {H : Type} {enc : TypeId × Value → H} {P : Program} {f : Func} {s : ChangeSpec} {W W' : World} {args : Array Value} {v : Value} {ds gs : List (DataW H)} {before pa pv : List MemPlace}
    (hW : DataW.Whole enc P f.params.toList s.vars false W args.toList ds gs before)
    (hres : DataW.TrodAll enc P W' W.heap.size (fun _ => false) false f.resultTypes.toList (v.resultList f.resultTypes.size) (s.fn H (ds ++ gs)).results [])
    (hargs : DataW.TrodAll enc P W' 0 (fun b => decide (b < W.heap.size)) true f.params.toList args.toList (s.fn H (ds ++ gs)).args pa)
    (hvars : DataW.TrodVars enc P W' (fun b => decide (b < W.heap.size)) s.vars (s.fn H (ds ++ gs)).vars pv)
    (hps : before = pa ++ pv) (hk : Ext W W') :
    s.post enc P f false true false false W args v W' :=
  ⟨ds, gs, before, [], pa, pv, hW, hres, hargs, hvars, World.keptBut_mono (fun p hp => ⟨hp, by rw [hps, List.mem_append] at hp; exact .inr hp⟩) (kept_of_ext hk _), fun h => absurd h (by decide)⟩
end Go.Proofs.Ythpocekigliomaa.K
