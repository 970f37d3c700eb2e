/- Regions that draw their order, of which two steps may both be next; a cut behind a piece of code. No condition. -/
import Derived.Test.YthpocekigliomaaK2
namespace Go.Proofs.Ythpocekigliomaa.K
open Go

inductive Sch where
  | done (l : List (Nat × Bool)) : Sch
  | val (i : Nat) (r : Sch) : Sch
  | two (i : Nat) (r : Sch) (j : Nat) (s : Sch) : Sch
def Sch.size : Sch → Nat
  | .done l => l.length
  | .val _ r => r.size + 1
  | .two _ r _ _ => r.size + 1

variable {P : Program} {n : Nat} {ops : Array Oper} {k : Ks} {ds : List Deferred} {ρ : Env} {w : World} {S : World → Prop} {wv : List Nat} {i j : Nat} {o : Oper}

def okT (md : Region.Mode) (ops : Array Oper) (wv : List Nat) : Sch → Array Bool → Bool
  | .done l, listed => okS md ops wv l listed
  | .val i r, listed => (Region.ready md ops listed).contains i && Region.free md ops listed i && waits md ops wv i && okT md ops wv r (listed.setIfInBounds i true)
  | .two i r j s, listed => (decide (Region.ready md ops listed = [i, j]) || decide (Region.ready md ops listed = [j, i])) && (r.size == s.size) && okT md ops wv r (listed.setIfInBounds i true) && okT md ops wv s (listed.setIfInBounds j true)

def KTd (P : Program) (n : Nat) (ops : Array Oper) (k : Ks) (S : World → Prop) (wv : List Nat) : Sch → List Deferred → Env → World → Prop
  | .done l, ds, ρ, w => KRd P n ops k wv l S ds ρ w
  | .val i r, ds, ρ, w => S w ∧ ∃ o v ρ', ops[i]? = some o ∧ YieldsIf P ops S o v (ac n ρ ds) ∧ (ac n ρ ds).put o.dst v = ac n ρ' ds ∧ KTd P n ops k S wv r ds ρ' w
  | .two i r j s, ds, ρ, w =>
      (∃ o, ops[i]? = some o ∧ Region.wanted o (yielded ops (ac n ρ ds).tmps) = true ∧ OW P n k o ds ρ w (fun ds ρ w => (wv.contains i = false → S w) ∧ KTd P n ops k S wv r ds ρ w)) ∧
      (∃ o, ops[j]? = some o ∧ Region.wanted o (yielded ops (ac n ρ ds).tmps) = true ∧ OW P n k o ds ρ w (fun ds ρ w => (wv.contains j = false → S w) ∧ KTd P n ops k S wv s ds ρ w))

structure KT (P : Program) (n : Nat) (ops : Array Oper) (k : Ks) (S : World → Prop) (wv : List Nat) (r : Sch) (ds : List Deferred) (ρ : Env) (w : World) : Prop where
  of ::
  out : KTd P n ops k S wv r ds ρ w

theorem kt_sound (hs : Region.noSelect ops = true) (hE : ∀ ds ρ ρ' c w, k.E ds ρ c w → k.E ds ρ' c w) : ∀ (r : Sch) (listed : Array Bool) (ds : List Deferred) (ρ : Env) (w : World),
    Shut .any ops listed → okT .any ops wv r listed = true → KTd P n ops k S wv r ds ρ w → wpAnyG P .any ops (qof n k) S wv r.size listed (ac n ρ ds) w
  | .done l, listed, ds, ρ, w, hsh, hB, h => kr_sound hs hE l S listed ds ρ w hsh hB h
  | .val i r, listed, ds, ρ, w, hsh, hB, h => by
    simp only [okT, Bool.and_eq_true] at hB
    obtain ⟨hS, o, v, ρ', ho, hy, hp, hk⟩ := h
    refine wpAnyG_first ho (Region.noSelect_spec hs) (fun c a w hq => ?_) hB.1.2 _ _ _ _ hsh (Region.free_spec ho hB.1.1.2) (by simpa using hB.1.1.1) hy hS ?_
    · simp only [qof, put_defers] at hq ⊢; exact hE _ _ _ _ _ hq
    · rw [hp]; exact kt_sound hs hE r _ ds ρ' w (hsh.set (by simpa using hB.1.1.1)) hB.2 hk
  | .two i r j s, listed, ds, ρ, w, hsh, hB, h => by
    simp only [okT, Bool.and_eq_true, Bool.or_eq_true, decide_eq_true_eq, beq_iff_eq] at hB
    obtain ⟨⟨⟨hr, hsz⟩, h1⟩, h2⟩ := hB
    have hmem : ∀ q, q ∈ Region.ready .any ops listed ↔ q = i ∨ q = j := fun q => by
      rcases hr with e | e <;> rw [e] <;> simp [or_comm]
    refine ⟨fun h0 => (by have := (hmem i).2 (.inl rfl); rw [h0] at this; cases this), fun q hq => ?_⟩
    rcases (hmem q).1 hq with rfl | rfl
    · obtain ⟨o, ho, hw, h⟩ := h.1
      unfold wpOp
      simp only [ho]
      rw [if_pos hw]
      refine .inl (Oper.wp_mono ?_ h.wp)
      rintro a w ⟨ds, ρ, rfl, hS, hk⟩
      exact ⟨hS, kt_sound hs hE r _ ds ρ w (hsh.set hq) h1 hk⟩
    · obtain ⟨o, ho, hw, h⟩ := h.2
      unfold wpOp
      simp only [ho]
      rw [if_pos hw]
      refine .inl (Oper.wp_mono ?_ h.wp)
      rintro a w ⟨ds, ρ, rfl, hS, hk⟩
      have := kt_sound hs hE s _ ds ρ w (hsh.set hq) h2 hk
      rw [← hsz] at this
      exact ⟨hS, this⟩

theorem k_regionT {id : Nat} {l : List Oper} (S : World → Prop) (wv : List Nat) (r : Sch) (hm : P.follows .mixedOrders = true) (hE : ∀ ds ρ ρ' c w, k.E ds ρ c w → k.E ds ρ' c w)
    (hB : (Region.noSelect l.toArray && r.size == l.toArray.size && okT .any l.toArray wv r (Array.replicate l.toArray.size false)) = true)
    (h : KT P n l.toArray k S wv r ds ρ w.drew) : KC P n (.region id l.toArray true) k ds ρ w := by
  simp only [Bool.and_eq_true, beq_iff_eq] at hB
  refine ⟨wp_region_any hm (wpAny_of_G (S := S) (wv := wv) _ _ _ _ ?_)⟩
  have := kt_sound hB.1.1 hE r _ ds ρ _ (fun j oj _ hl => by rw [show (Array.replicate l.toArray.size false).getD j false = false by simp [Array.getD]] at hl; cases hl) hB.2 h.out
  rw [hB.1.2] at this
  exact this

theorem kt_done {l : List (Nat × Bool)} (h : KR P n ops k S wv l ds ρ w) : KT P n ops k S wv (.done l) ds ρ w := ⟨h.out⟩
theorem kt_val {r : Sch} {d : Nat} {v : Value} (ho : ops[i]? = some o) (hS : S w) (hy : ∀ w, S w → Y P n ρ o w v) (hg : o.guard = none) (hd : o.dst = some d) (hdn : Nat.blt d n = true)
    (h : KT P n ops k S wv r ds (upd ρ d v) w) : KT P n ops k S wv (.val i r) ds ρ w :=
  .of ⟨hS, o, v, upd ρ d v, ho, .inl ⟨wanted_none hg _, fun w hw => by rw [ac_eval]; exact (hy w hw).run⟩, by rw [hd, ac_put _ _ _ hdn], h.out⟩
theorem kt_two {r s : Sch} {o' : Oper} (ho : ops[i]? = some o) (hg : o.guard = none) (ho' : ops[j]? = some o') (hg' : o'.guard = none)
    (h : OW P n k o ds ρ w (fun ds ρ w => (wv.contains i = false → S w) ∧ KT P n ops k S wv r ds ρ w)) (h' : OW P n k o' ds ρ w (fun ds ρ w => (wv.contains j = false → S w) ∧ KT P n ops k S wv s ds ρ w)) :
    KT P n ops k S wv (.two i r j s) ds ρ w :=
  .of ⟨⟨o, ho, wanted_none hg _, .of (Oper.wp_mono (fun _ _ ⟨ds, ρ, ha, hS, hk⟩ => ⟨ds, ρ, ha, hS, hk.out⟩) h.wp)⟩, ⟨o', ho', wanted_none hg' _, .of (Oper.wp_mono (fun _ _ ⟨ds, ρ, ha, hS, hk⟩ => ⟨ds, ρ, ha, hS, hk.out⟩) h'.wp)⟩⟩

theorem k_cutN {c : Code} (I : Env → World → Prop) (h2 : KC P n c { k with N := fun ds' ρ' w' => ds' = ds ∧ I ρ' w' } ds ρ w) (h1 : ∀ ρ' w', I ρ' w' → k.N ds ρ' w') : KC P n c k ds ρ w :=
  k_mono h2 (fun _ _ _ ⟨e, h⟩ => e ▸ h1 _ _ h) (fun _ _ _ _ h => h) (fun _ _ _ h => h) (fun _ _ _ _ h => h)
end Go.Proofs.Ythpocekigliomaa.K
