/- The frame of a law's row: a call that answers true and makes at most new blocks. No condition. -/
import Derived.Test.YthpocekigliomaaKD
import Derived.Test.YthpocekigliomaaRows
import Derived.WalkKit
import Derived.ProofKit
import Derived.OpenShut
import Derived.ChangeSlices
namespace Go.Proofs.Ythpocekigliomaa.K
open Go Go.ChangeShapes Go.WideShapes Go.ChangeAt Go.RowKit

theorem kept_of_ext {w w' : World} (h : Ext w w') (may : MemPlace → Prop) : w.keptBut w' may := by
  refine ⟨h.os, h.output, fun i hi => ?_⟩
  rw [h.block i hi (fun h => h)]
  rcases ho : w.heap[i]? with _ | o
  · trivial
  · cases o <;> simp
theorem post_ext {H : Type} {enc : TypeId × Value → H} {P : Program} {f : Func} {s : ChangeSpec} {W W' : World} {args : Array Value} {v : Value} {ds gs : List (DataW H)} {before pa pv : List MemPlace}
    (hW : DataW.Whole enc P f.params.toList s.vars false W args.toList ds gs before)
    (hres : DataW.TrodAll enc P W' W.heap.size (fun _ => false) false f.resultTypes.toList (v.resultList f.resultTypes.size) (s.fn H (ds ++ gs)).results [])
    (hargs : DataW.TrodAll enc P W' 0 (fun b => decide (b < W.heap.size)) true f.params.toList args.toList (s.fn H (ds ++ gs)).args pa)
    (hvars : DataW.TrodVars enc P W' (fun b => decide (b < W.heap.size)) s.vars (s.fn H (ds ++ gs)).vars pv)
    (hps : before = pa ++ pv) (hk : Ext W W') :
    s.post enc P f false true false false W args v W' :=
  ⟨ds, gs, before, [], pa, pv, hW, hres, hargs, hvars, World.keptBut_mono (fun p hp => ⟨hp, by rw [hps, List.mem_append] at hp; exact .inr hp⟩) (kept_of_ext hk _), fun h => absurd h (by decide)⟩
theorem slice_lt {P : Program} {W : World} {base : Nat} {r : Reach} {t e : TypeId} {a : Addr} {len cap : Nat} (ht : P.underlying t = some (.slice e)) (hv : Value.okWide P W r base t (.slice (some a) len cap)) : a.block < W.heap.size := by
  simp only [Value.okWide, ht, Cell.okWide, Cell.ok, World.has] at hv
  obtain ⟨_, _, _, _, row, cells, hs, _⟩ := hv
  cases ho : W.heap[a.block]? with
  | none => simp [World.shape?, ho] at hs
  | some o => exact (Array.getElem?_eq_some_iff.1 ho).1
/-- A slice of bytes that is handed in: what it holds, and that it reads so behind the call. -/
theorem open_by {H : Type} {enc : TypeId × Value → H} {P : Program} {W : World} {base : Nat} {r : Reach} {t e : TypeId} {v : Value} {d : DataW H} {p : List MemPlace} (ht : P.underlying t = some (.slice e)) (he : P.underlying e = some (.int .u8)) (hc : P.cellsOf e = 1)
    (hv : Value.okWide P W r base t v) (h : DataW.Trod enc P W 0 (fun _ => true) true t v d p) :
    ∃ c : List UInt8, SlR W (fun b => b < W.heap.size) v 1 c.length (bvs c) ∧ ∀ W', Ext W W' → DataW.Trod enc P W' 0 (fun b => decide (b < W.heap.size)) true t v d p := by
  obtain ⟨ao, len, cap, rfl⟩ := okWide_slice ht hv
  obtain ⟨fuel, hf⟩ := h
  rcases open_ints ht he hc hf with ⟨hcs, hx⟩ | ⟨a, len', cap', zs, hcs, _, hl, hm, hz, hx, hcell, hw⟩
  · simp [Value.cells] at hcs
    obtain ⟨rfl, rfl, rfl⟩ := hcs
    simp only [Prod.mk.injEq] at hx
    obtain ⟨rfl, rfl⟩ := hx
    exact ⟨[], SlR.nil _ _ _, fun W' _ => shut_slice_nil ht⟩
  · simp [Value.cells] at hcs
    obtain ⟨rfl, rfl, rfl⟩ := hcs
    simp only [Prod.mk.injEq] at hx
    obtain ⟨rfl, rfl⟩ := hx
    simp only [if_true] at hz
    have hb := slice_lt ht hv
    have hwz : ∀ z ∈ zs, 0 ≤ z ∧ z ≤ 255 := fun z hz => bounds_u8 (hw z hz)
    have hbv : bvs ((zs.take len).map fun z => UInt8.ofNat z.toNat) = (zs.take len).map (.int .u8) := by
      simp only [bvs, List.map_map]
      refine List.map_congr_left fun z hz' => ?_
      have := hwz z (List.mem_of_mem_take hz')
      show Value.int .u8 _ = _
      congr 1
      rw [UInt8.toNat_ofNat']; omega
    have hlen : ((zs.take len).map fun z => UInt8.ofNat z.toNat).length = len := by simp; omega
    refine ⟨(zs.take len).map fun z => UInt8.ofNat z.toNat, ?_, fun W' hW => ?_⟩
    · rw [hbv, hlen]
      refine ⟨by simp; omega, .inr ⟨a, cap, rfl, hl, hb, fun j u hj => ?_⟩⟩
      rw [List.getElem?_map] at hj
      obtain ⟨z, hz', rfl⟩ := Option.map_eq_some_iff.1 hj
      have hj' : j < zs.length := by have := (List.getElem?_eq_some_iff.1 hz').1; simp at this; omega
      rw [hcell j hj']
      rw [List.getElem?_take] at hz'
      split at hz'
      · simp [List.getD, hz']
      · cases hz'
    · refine ⟨_, shut_ints 0 ht he hc (Nat.zero_le _) hl hm (by simp [hb, hz]) (fun i hi => ?_) hw⟩
      exact hW.cell (hcell i hi) (fun h => h)
end Go.Proofs.Ythpocekigliomaa.K
