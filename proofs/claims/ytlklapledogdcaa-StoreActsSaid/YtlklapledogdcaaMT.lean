/- Abstract states of a walk: regions of which two steps may both be next. No condition. -/
import Derived.Test.YtlklapledogdcaaMR
namespace Go.Proofs.Ytlklapledogdcaa.K
open Go

inductive Sch where
  | done (l : List (Nat × Bool)) : Sch
  | val (i : Nat) (r : Sch) : Sch
  | two (i : Nat) (r : Sch) (j : Nat) (s : Sch) : Sch
def Sch.size : Sch → Nat
  | .done l => l.length
  | .val _ r => r.size + 1
  | .two _ r _ _ => r.size + 1
def okT (md : Region.Mode) (ops : Array Oper) (wv : List Nat) : Sch → Array Bool → Bool
  | .done l, listed => okS md ops wv l listed
  | .val i r, listed => (Region.ready md ops listed).contains i && Region.free md ops listed i && waits md ops wv i && okT md ops wv r (listed.setIfInBounds i true)
  | .two i r j s, listed => (decide (Region.ready md ops listed = [i, j]) || decide (Region.ready md ops listed = [j, i])) && (r.size == s.size) && okT md ops wv r (listed.setIfInBounds i true) && okT md ops wv s (listed.setIfInBounds j true)

section
variable {P : Program} {n : Nat} {ops : Array Oper} {k : Ks} {wv : List Nat}
def KUd (P : Program) (n : Nat) (ops : Array Oper) (k : Ks) (wv : List Nat) : Sch → (World → Prop) → List Deferred → Env → World → Prop
  | .done l, S, ds, ρ, w => KRd P n ops k wv l S ds ρ w
  | .val i r, S, ds, ρ, w => S w ∧ ∃ o v ρ', ops[i]? = some o ∧ YieldsIf P ops S o v (ac n ρ ds) ∧ (ac n ρ ds).put o.dst v = ac n ρ' ds ∧ KUd P n ops k wv r S ds ρ' w
  | .two i r j s, S, ds, ρ, w =>
      (∃ o, ops[i]? = some o ∧ Region.wanted o (yielded ops (ac n ρ ds).tmps) = true ∧ OW P n k o ds ρ w (fun ds ρ w => (wv.contains i = false → S w) ∧ ∃ S' : World → Prop, (∀ w, S' w → S w) ∧ KUd P n ops k wv r S' ds ρ w)) ∧
      (∃ o, ops[j]? = some o ∧ Region.wanted o (yielded ops (ac n ρ ds).tmps) = true ∧ OW P n k o ds ρ w (fun ds ρ w => (wv.contains j = false → S w) ∧ ∃ S' : World → Prop, (∀ w, S' w → S w) ∧ KUd P n ops k wv s S' ds ρ w))
structure KU (P : Program) (n : Nat) (ops : Array Oper) (k : Ks) (S : World → Prop) (wv : List Nat) (r : Sch) (ds : List Deferred) (ρ : Env) (w : World) : Prop where
  of ::
  out : KUd P n ops k wv r S ds ρ w
theorem ku_sound (hs : Region.noSelect ops = true) (hE : ∀ ds ρ ρ' c w, k.E ds ρ c w → k.E ds ρ' c w) : ∀ (r : Sch) (S : World → Prop) (listed : Array Bool) (ds : List Deferred) (ρ : Env) (w : World),
    Shut .any ops listed → okT .any ops wv r listed = true → KUd P n ops k wv r S ds ρ w → wpAnyG P .any ops (qof n k) S wv r.size listed (ac n ρ ds) w
  | .done l, S, listed, ds, ρ, w, hsh, hB, h => kr_sound hs hE l S listed ds ρ w hsh hB h
  | .val i r, S, listed, ds, ρ, w, hsh, hB, h => by
    simp only [okT, Bool.and_eq_true] at hB
    obtain ⟨hS, o, v, ρ', ho, hy, hp, hk⟩ := h
    refine wpAnyG_first ho (Region.noSelect_spec hs) (fun c a w hq => ?_) hB.1.2 _ _ _ _ hsh (Region.free_spec ho hB.1.1.2) (by simpa using hB.1.1.1) hy hS ?_
    · simp only [qof, put_defers] at hq ⊢; exact hE _ _ _ _ _ hq
    · rw [hp]; exact ku_sound hs hE r S _ ds ρ' w (hsh.set (by simpa using hB.1.1.1)) hB.2 hk
  | .two i r j s, S, listed, ds, ρ, w, hsh, hB, h => by
    simp only [okT, Bool.and_eq_true, Bool.or_eq_true, decide_eq_true_eq, beq_iff_eq] at hB
    obtain ⟨⟨⟨hr, hsz⟩, h1⟩, h2⟩ := hB
    have hmem : ∀ q, q ∈ Region.ready .any ops listed ↔ q = i ∨ q = j := fun q => by
      rcases hr with e | e <;> rw [e] <;> simp [or_comm]
    refine ⟨fun h0 => (by have := (hmem i).2 (.inl rfl); rw [h0] at this; cases this), fun q hq => ?_⟩
    rcases (hmem q).1 hq with rfl | rfl
    · obtain ⟨o, ho, hw, h⟩ := h.1
      unfold wpOp
      simp only [ho]
      rw [if_pos hw]
      refine .inl (Oper.wp_mono ?_ h.wp)
      rintro a w ⟨ds, ρ, rfl, hS, S', hi, hk⟩
      exact ⟨hS, wpAnyG_weak hi _ _ _ _ (ku_sound hs hE r S' _ ds ρ w (hsh.set hq) h1 hk)⟩
    · obtain ⟨o, ho, hw, h⟩ := h.2
      unfold wpOp
      simp only [ho]
      rw [if_pos hw]
      refine .inl (Oper.wp_mono ?_ h.wp)
      rintro a w ⟨ds, ρ, rfl, hS, S', hi, hk⟩
      have := ku_sound hs hE s S' _ ds ρ w (hsh.set hq) h2 hk
      rw [← hsz] at this
      exact ⟨hS, wpAnyG_weak hi _ _ _ _ this⟩
end
structure MT (P : Program) (n : Nat) (ops : Array Oper) (k : MK) (Rs : Nat → Bool) (wv : List Nat) (r : Sch) (Hs : List En) (α : Nat → A) : Prop where
  of ::
  out : ∀ w0 S0 g0 g ρ w, GL w0 S0 g0 g → HR w0 S0 g Hs w → ER g α ρ → KU P n ops (lftK w0 S0 g0 k) (Stab g Hs Rs w) wv r [] ρ w
section
variable {P : Program} {n : Nat} {k : MK} {Hs : List En} {α : Nat → A} {ops : Array Oper} {o : Oper} {Rs : Nat → Bool} {wv : List Nat} {i j : Nat}
theorem m_regionT {id : Nat} {l : List Oper} (Rs : Nat → Bool) (wv : List Nat) (r : Sch) (hm : P.follows .mixedOrders = true)
    (hB : (Region.noSelect l.toArray && r.size == l.toArray.size && okT .any l.toArray wv r (Array.replicate l.toArray.size false)) = true)
    (h : MT P n l.toArray k Rs wv r Hs α) : MC P n (.region id l.toArray true) k Hs α := .of fun w0 S0 g ρ w hH hE => by
  simp only [Bool.and_eq_true, beq_iff_eq] at hB
  refine ⟨wp_region_any hm (wpAny_of_G (S := Stab g Hs Rs w.drew) (wv := wv) _ _ _ _ ?_)⟩
  have := ku_sound hB.1.1 (k := lftK w0 S0 g k) (fun _ _ _ _ _ h => h) r _ _ [] ρ _ (fun j oj _ hl => by rw [show (Array.replicate l.toArray.size false).getD j false = false by simp [Array.getD]] at hl; cases hl) hB.2 (h.out w0 S0 g g ρ w.drew (.refl _ _ g) hH.drew hE).out
  rw [hB.1.2] at this
  exact this
theorem mt_done {l : List (Nat × Bool)} (h : MR P n ops k Rs wv l Hs α) : MT P n ops k Rs wv (.done l) Hs α := .of fun w0 S0 g0 g ρ w l hH hE => ⟨(h.out w0 S0 g0 g ρ w l hH hE).out⟩
theorem mt_val {r : Sch} {d : Nat} {a : A} (ho : ops[i]? = some o) (hy : MY P n Hs Rs α o a) (hg : o.guard = none) (hd : o.dst = some d) (hdn : Nat.blt d n = true) (h : MT P n ops k Rs wv r Hs (ua α d a)) : MT P n ops k Rs wv (.val i r) Hs α := .of fun w0 S0 g0 g ρ w l hH hE => by
  obtain ⟨v, hv, hY⟩ := hy.out w0 S0 g ρ w hH hE
  exact ⟨hH.stab _, o, v, upd ρ d v, ho, .inl ⟨wanted_none hg _, fun w' hw => by rw [ac_eval]; exact (hY w' hw).run⟩, by rw [hd, ac_put _ _ _ hdn], (h.out w0 S0 g0 g _ w l hH (hE.put d hv)).out⟩
theorem mt_two {r s : Sch} {W W' : List Nat} {o' : Oper} (ho : ops[i]? = some o) (hg : o.guard = none) (ho' : ops[j]? = some o') (hg' : o'.guard = none) (hW : W.all (fun q => !Rs q) = true) (hW' : W'.all (fun q => !Rs q) = true)
    (h : MO P n W o Hs α (MT P n ops k Rs wv r)) (h' : MO P n W' o' Hs α (MT P n ops k Rs wv s)) : MT P n ops k Rs wv (.two i r j s) Hs α := .of fun w0 S0 g0 g ρ w l hH hE => by
  refine ⟨⟨o, ho, wanted_none hg _, (h.out w0 S0 g ρ w _ hH hE).mono ?_⟩, ⟨o', ho', wanted_none hg' _, (h'.out w0 S0 g ρ w _ hH hE).mono ?_⟩⟩
  · rintro ds ρ w' ⟨rfl, g', Hs', α', l', hH', hE', hq, hf, hk⟩
    have hs := stab_step hW hH l'.le hH' hf hk
    exact ⟨fun _ => hs.1, _, hs.2, (hq.out w0 S0 g0 g' ρ w' (l.trans l') hH' hE').out⟩
  · rintro ds ρ w' ⟨rfl, g', Hs', α', l', hH', hE', hq, hf, hk⟩
    have hs := stab_step hW' hH l'.le hH' hf hk
    exact ⟨fun _ => hs.1, _, hs.2, (hq.out w0 S0 g0 g' ρ w' (l.trans l') hH' hE').out⟩
theorem mt_norm {r : Sch} (f : List Nat) (Hs' : List En) (hf : f.Nodup) (hin : f.all (fun q => Nat.blt q Hs.length) = true) (he : pick Hs f = Hs') (hr : ∀ i, Rs i = true → Hs'[i]? = Hs[i]?) (h : MT P n ops k Rs wv r Hs' α) : MT P n ops k Rs wv r Hs α := .of fun w0 S0 g0 g ρ w l hH hE => by
  have hp := hH.pick f hf (fun q hq => by have := List.all_eq_true.1 hin q hq; exact Nat.le_of_ble_eq_true this)
  rw [he] at hp
  have e : Stab g Hs' Rs w = Stab g Hs Rs w := by
    funext w'
    refine propext ⟨fun h => ⟨h.fro, fun i e b hR he hd hb => h.ob i e b hR ((hr i hR).trans he) hd hb⟩, fun h => ⟨h.fro, fun i e b hR he hd hb => h.ob i e b hR ((hr i hR).symm.trans he) hd hb⟩⟩
  have := h.out w0 S0 g0 g ρ w l hp hE
  rwa [e] at this
end
end Go.Proofs.Ytlklapledogdcaa.K
