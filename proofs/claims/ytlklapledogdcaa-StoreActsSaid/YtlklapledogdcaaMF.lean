/- The frame of a law's row, over abstract states: a call that answers true and makes at most new blocks. No condition. -/
import Derived.Test.YtlklapledogdcaaM5
import Derived.Test.YtlklapledogdcaaRows
import Derived.WalkKit
import Derived.ProofKit
import Derived.OpenShut
import Derived.ChangeSlices
import Derived.ChangeMaps5
namespace Go.Proofs.Ytlklapledogdcaa.K
open Go Go.ChangeShapes Go.WideShapes Go.ChangeAt Go.RowKit

theorem kept_of_ext {w w' : World} (h : Ext w w') (may : MemPlace → Prop) : w.keptBut w' may := by
  refine ⟨h.os, h.output, fun i hi => ?_⟩
  rw [h.block i hi (fun h => h)]
  rcases ho : w.heap[i]? with _ | o
  · trivial
  · cases o <;> simp
theorem post_ext {H : Type} {enc : TypeId × Value → H} {P : Program} {f : Func} {s : ChangeSpec} {W W' : World} {args : Array Value} {v : Value} {ds gs : List (DataW H)} {before pa pv : List MemPlace}
    (hW : DataW.Whole enc P f.params.toList s.vars false W args.toList ds gs before)
    (hres : DataW.TrodAll enc P W' W.heap.size (fun _ => false) false f.resultTypes.toList (v.resultList f.resultTypes.size) (s.fn H (ds ++ gs)).results [])
    (hargs : DataW.TrodAll enc P W' 0 (fun b => decide (b < W.heap.size)) true f.params.toList args.toList (s.fn H (ds ++ gs)).args pa)
    (hvars : DataW.TrodVars enc P W' (fun b => decide (b < W.heap.size)) s.vars (s.fn H (ds ++ gs)).vars pv)
    (hps : before = pa ++ pv) (hk : Ext W W') :
    s.post enc P f false true false false W args v W' :=
  ⟨ds, gs, before, [], pa, pv, hW, hres, hargs, hvars, World.keptBut_mono (fun p hp => ⟨hp, by rw [hps, List.mem_append] at hp; exact .inr hp⟩) (kept_of_ext hk _), fun h => absurd h (by decide)⟩
theorem slice_lt {P : Program} {W : World} {base : Nat} {r : Reach} {t e : TypeId} {a : Addr} {len cap : Nat} (ht : P.underlying t = some (.slice e)) (hv : Value.okWide P W r base t (.slice (some a) len cap)) : a.block < W.heap.size := by
  simp only [Value.okWide, ht, Cell.okWide, Cell.ok, World.has] at hv
  obtain ⟨_, _, _, _, row, cells, hs, _⟩ := hv
  cases ho : W.heap[a.block]? with
  | none => simp [World.shape?, ho] at hs
  | some o => exact (Array.getElem?_eq_some_iff.1 ho).1

/-- All memory that was there is written no more. -/
def G0 (W : World) : G := ⟨fun b => W.heap[b]?, fun _ => none, 0, fun _ _ => rfl⟩
theorem HR0 (W : World) : HR W none' (G0 W) [] W := ⟨.refl _ _, fun _ _ h => h, fun i e h => by simp at h, fun i e b h => by simp at h, fun i j e f b h => by simp at h⟩
theorem G0.cell (W : World) {a : Addr} {v : Value} (h : W.cell? a = some v) : (G0 W).cell? a = some v := by
  unfold World.cell? at h
  unfold G.cell? G0
  simp only
  exact h
theorem run_of_MF {P : Program} {f : FuncId} {args : List A} {W : World} {vs : List Value} {post : List En → A → Prop} (h : MF P f args [] post) (hp : ∀ Hs a, post Hs a → a = tv true) (hr : RVs (G0 W) args vs) :
    Calls P f vs.toArray W fun e W' => e = .returned (.bool true) ∧ Ext W W' :=
  Calls.mono (h.out (G0 W) W vs none' (HR0 W) hr) fun e W' ⟨v, he, g', Hs', a, _, hH, hv, hpost⟩ => by
    rw [hp _ _ hpost] at hv
    cases hv
    exact ⟨he, hH.fr⟩

/-- A slice of bytes that is handed in: what it holds, and that it reads so behind the call. -/
theorem open_by {H : Type} {enc : TypeId × Value → H} {P : Program} {W : World} {base : Nat} {r : Reach} {t e : TypeId} {v : Value} {d : DataW H} {p : List MemPlace} (ht : P.underlying t = some (.slice e)) (he : P.underlying e = some (.int .u8)) (hc : P.cellsOf e = 1)
    (hv : Value.okWide P W r base t v) (h : DataW.Trod enc P W 0 (fun _ => true) true t v d p) :
    ∃ c : List UInt8, RV (G0 W) (.sl (c.map u8A)) v ∧ ∀ W', Ext W W' → DataW.Trod enc P W' 0 (fun b => decide (b < W.heap.size)) true t v d p := by
  obtain ⟨ao, len, cap, rfl⟩ := okWide_slice ht hv
  obtain ⟨fuel, hf⟩ := h
  rcases open_ints ht he hc hf with ⟨hcs, hx⟩ | ⟨a, len', cap', zs, hcs, _, hl, hm, hz, hx, hcell, hw⟩
  · simp [Value.cells] at hcs
    obtain ⟨rfl, rfl, rfl⟩ := hcs
    simp only [Prod.mk.injEq] at hx
    obtain ⟨rfl, rfl⟩ := hx
    exact ⟨[], .nil, fun W' _ => shut_slice_nil ht⟩
  · simp [Value.cells] at hcs
    obtain ⟨rfl, rfl, rfl⟩ := hcs
    simp only [Prod.mk.injEq] at hx
    obtain ⟨rfl, rfl⟩ := hx
    simp only [if_true] at hz
    have hb := slice_lt ht hv
    have hwz : ∀ z ∈ zs, 0 ≤ z ∧ z ≤ 255 := fun z hz => bounds_u8 (hw z hz)
    have hlen : ((zs.take len).map fun z => UInt8.ofNat z.toNat).length = len := by simp; omega
    have hRL : ∀ l : List Int, (∀ z ∈ l, 0 ≤ z ∧ z ≤ 255) → RL (G0 W) ((l.map fun z => UInt8.ofNat z.toNat).map u8A) (l.map (.int .u8)) := by
      intro l
      induction l with
      | nil => intro _; exact .nil
      | cons z l ih =>
        intro hl
        have h1 := hl z (by simp)
        refine .cons (c := [.int .u8 z]) ?_ (ih fun y hy => hl y (by simp [hy]))
        have e : ((UInt8.ofNat z.toNat).toNat : Int) = z := by rw [UInt8.toNat_ofNat']; omega
        rw [u8A, e]; exact .v _ rfl
    refine ⟨(zs.take len).map fun z => UInt8.ofNat z.toNat, ?_, fun W' hW => ?_⟩
    · have := RV.sl (g := G0 W) (xs := ((zs.take len).map fun z => UInt8.ofNat z.toNat).map u8A) 1 a cap (by rw [List.length_map, hlen]; omega) (fun x hx => by obtain ⟨b, _, rfl⟩ := List.mem_map.1 hx; rfl) (fun j u hj => ?_) (hRL (zs.take len) fun z hz => hwz z (List.mem_of_mem_take hz))
      · rw [List.length_map, hlen] at this; exact this
      · rw [List.getElem?_map] at hj
        obtain ⟨z, hz', rfl⟩ := Option.map_eq_some_iff.1 hj
        have hj' : j < zs.length := by have := (List.getElem?_eq_some_iff.1 hz').1; simp at this; omega
        refine G0.cell W ?_
        rw [hcell j hj']
        rw [List.getElem?_take] at hz'
        split at hz'
        · simp [List.getD, hz']
        · cases hz'
    · refine ⟨_, shut_ints 0 ht he hc (Nat.zero_le _) hl hm (by simp [hb, hz]) (fun i hi => ?_) hw⟩
      exact hW.cell (hcell i hi) (fun h => h)
theorem open_string {H : Type} {enc : TypeId × Value → H} {P : Program} {w : World} {base : Nat} {spare : Nat → Bool} {held : Bool} {r : Reach} {b0 : Nat} {t : TypeId} {v : Value} {d : DataW H} {ps : List MemPlace} (ht : P.underlying t = some .string) (hval : Value.okWide P w r b0 t v) (hd : DataW.Trod enc P w base spare held t v d ps) :
    ∃ s : ByteArray, v = .string s ∧ d = .lit (.string s.data.toList) ∧ ps = [] ∧ s.size ≤ maxLen := by
  obtain ⟨n, rfl⟩ := okWide_string ht hval
  obtain ⟨fuel, hf⟩ := hd
  obtain ⟨n', h, hx, hw⟩ := DataW.trod_string ht hf
  simp [Value.cells] at h
  subst h
  simp only [Prod.mk.injEq] at hx
  exact ⟨n, rfl, hx.1, hx.2, hw⟩
theorem shut_string {H : Type} {enc : TypeId × Value → H} {P : Program} {w : World} {base : Nat} {spare : Nat → Bool} {held : Bool} {t : TypeId} {s : ByteArray} (ht : P.underlying t = some .string) (hs : s.size ≤ maxLen) : DataW.Trod enc P w base spare held t (.string s) (.lit (.string s.data.toList)) [] :=
  ⟨1, by simp [DataW.trod, Value.cells, ht, hs]⟩
end Go.Proofs.Ytlklapledogdcaa.K
