/- Abstract states of a walk: regions, operations that leave a value. No condition. -/
import Derived.Test.YtlklapledogdcaaM1
namespace Go.Proofs.Ytlklapledogdcaa.K
open Go

/-! ### Regions -/
def allR : Nat → Bool := fun _ => true
/-- w' reads as w where a step may look: memory written no more, the objects of Rs. -/
structure Stab (g : G) (Hs : List En) (Rs : Nat → Bool) (w w' : World) : Prop where
  fro : g.fro w'
  ob : ∀ (i : Nat) (e : En) (b : Nat), Rs i = true → Hs[i]? = some e → e.ob.live → g.blk e.k = some b → w'.heap[b]? = w.heap[b]?
theorem HR.stab {w0 : World} {S0 : Nat → Prop} {g : G} {Hs : List En} {w : World} (h : HR w0 S0 g Hs w) (Rs : Nat → Bool) : Stab g Hs Rs w w := ⟨h.fro, fun _ _ _ _ _ _ _ => rfl⟩

/-- An operation leaves a, and the world as it is. -/
structure MY (P : Program) (n : Nat) (Hs : List En) (Rs : Nat → Bool) (α : Nat → A) (o : Oper) (a : A) : Prop where
  of ::
  out : ∀ w0 S0 g ρ w, HR w0 S0 g Hs w → ER g α ρ → ∃ v, RV g a v ∧ ∀ w', Stab g Hs Rs w w' → Y P n ρ o w' v

/-- What a step may have done: W are the places of the objects that it may have written. -/
def lftW (w0 : World) (S0 : Nat → Prop) (g : G) (Hs : List En) (W : List Nat) (w : World) (q : List En → (Nat → A) → Prop) (ds : List Deferred) (ρ : Env) (w' : World) : Prop :=
  ds = [] ∧ ∃ g' Hs' α, GL w0 S0 g g' ∧ HR w0 S0 g' Hs' w' ∧ ER g' α ρ ∧ q Hs' α ∧
    Fr (fun b => ∃ i e, W.contains i = true ∧ Hs[i]? = some e ∧ e.ob.live ∧ g.blk e.k = some b) w w' ∧ ∀ (i : Nat) (e : En), Hs[i]? = some e → W.contains i = false → Hs'[i]? = some e
structure MO (P : Program) (n : Nat) (W : List Nat) (o : Oper) (Hs : List En) (α : Nat → A) (next : List En → (Nat → A) → Prop) : Prop where
  of ::
  out : ∀ w0 S0 g ρ w (k : Ks), HR w0 S0 g Hs w → ER g α ρ → OW P n k o [] ρ w (lftW w0 S0 g Hs W w next)

structure ML (P : Program) (n : Nat) (ops : Array Oper) (k : MK) (l : List Oper) (Hs : List En) (α : Nat → A) : Prop where
  of ::
  out : ∀ w0 S0 g0 g ρ w, GL w0 S0 g0 g → HR w0 S0 g Hs w → ER g α ρ → KL P n ops (lftK w0 S0 g0 k) l [] ρ w

theorem OW.mono {P : Program} {n : Nat} {k : Ks} {o : Oper} {ds : List Deferred} {ρ : Env} {w : World} {q q' : List Deferred → Env → World → Prop} (h : OW P n k o ds ρ w q) (hq : ∀ ds ρ w, q ds ρ w → q' ds ρ w) : OW P n k o ds ρ w q' :=
  ⟨Oper.wp_mono (fun _ _ ⟨ds, ρ, ha, h⟩ => ⟨ds, ρ, ha, hq _ _ _ h⟩) h.wp⟩

section
variable {P : Program} {n : Nat} {k : MK} {Hs : List En} {α : Nat → A} {ops : Array Oper} {o : Oper} {rest : List Oper}

theorem m_region {id : Nat} {l : List Oper} (h : ML P n l.toArray k l Hs α) : MC P n (.region id l.toArray false) k Hs α := .of fun w0 S0 g ρ w hH hE =>
  k_region (h.out w0 S0 g g ρ w (.refl _ _ g) hH hE)
theorem ml_nil (h : k.N Hs α) : ML P n ops k [] Hs α := .of fun _ _ _ _ _ _ l hH hE => kl_nil (lft_le (lft_mk hH hE h) l)
theorem ml_pre {l : List Oper} {Hs' : List En} {α' : Nat → A} (hs : Shift Hs α Hs' α') (h : ML P n ops k l Hs' α') : ML P n ops k l Hs α := .of fun w0 S0 g0 g ρ w l hH hE => by
  obtain ⟨g', l', h3, h4⟩ := hs w0 S0 g w ρ hH hE
  exact h.out w0 S0 g0 g' ρ w (l.trans l') h3 h4
theorem ml_val {d : Nat} {a : A} (hy : MY P n Hs allR α o a) (hg : o.guard = none) (hd : o.dst = some d) (hdn : Nat.blt d n = true) (h : ML P n ops k rest Hs (ua α d a)) : ML P n ops k (o :: rest) Hs α := .of fun w0 S0 g0 g ρ w l hH hE => by
  obtain ⟨v, hv, hY⟩ := hy.out w0 S0 g ρ w hH hE
  exact kl_val (hY w (hH.stab _)) hg hd hdn (h.out w0 S0 g0 g _ w l hH (hE.put d hv))
theorem ml_valG {d : Nat} {a : A} (hy : MY P n Hs allR α o a) {j t : Nat} {b : Bool} (hg : o.guard = some (j, b)) (hj : (ops[j]?).bind (·.dst) = some t) (hv : ea n α (.tmp t) = .v (.bool b)) (hd : o.dst = some d) (hdn : Nat.blt d n = true)
    (h : ML P n ops k rest Hs (ua α d a)) : ML P n ops k (o :: rest) Hs α := .of fun w0 S0 g0 g ρ w l hH hE => by
  obtain ⟨v, hv', hY⟩ := hy.out w0 S0 g ρ w hH hE
  exact kl_valG (hY w (hH.stab _)) hg hj (ea_v hE hv) hd hdn (h.out w0 S0 g0 g _ w l hH (hE.put d hv'))
theorem ml_skipG {j t d : Nat} {b b' : Bool} (hg : o.guard = some (j, b)) (hj : (ops[j]?).bind (·.dst) = some t) (hv : ea n α (.tmp t) = .v (.bool b')) (hb : (b' == b) = false) (hd : o.dst = some d) (hdn : Nat.blt d n = true)
    (h : ML P n ops k rest Hs (ua α d .dead)) : ML P n ops k (o :: rest) Hs α := .of fun w0 S0 g0 g ρ w l hH hE =>
  kl_skipG hg hj (ea_v hE hv) hb hd hdn (h.out w0 S0 g0 g _ w l hH (hE.put d (.dead _)))
theorem ml_ow {W : List Nat} (hg : o.guard = none) (h : MO P n W o Hs α (ML P n ops k rest)) : ML P n ops k (o :: rest) Hs α := .of fun w0 S0 g0 g ρ w l hH hE =>
  kl_ow hg ((h.out w0 S0 g ρ w _ hH hE).mono (by
    rintro ds ρ w ⟨rfl, g', Hs', α', l', hH', hE', hq, _⟩
    exact hq.out w0 S0 g0 g' ρ w (l.trans l') hH' hE'))
theorem ml_owG {W : List Nat} {j t : Nat} {b : Bool} (hg : o.guard = some (j, b)) (hj : (ops[j]?).bind (·.dst) = some t) (hv : ea n α (.tmp t) = .v (.bool b)) (h : MO P n W o Hs α (ML P n ops k rest)) : ML P n ops k (o :: rest) Hs α := .of fun w0 S0 g0 g ρ w l hH hE =>
  kl_owG hg hj (ea_v hE hv) ((h.out w0 S0 g ρ w _ hH hE).mono (by
    rintro ds ρ w ⟨rfl, g', Hs', α', l', hH', hE', hq, _⟩
    exact hq.out w0 S0 g0 g' ρ w (l.trans l') hH' hE'))

/-- A region that draws its order. -/
structure MR (P : Program) (n : Nat) (ops : Array Oper) (k : MK) (Rs : Nat → Bool) (wv : List Nat) (r : List (Nat × Bool)) (Hs : List En) (α : Nat → A) : Prop where
  of ::
  out : ∀ w0 S0 g0 g ρ w, GL w0 S0 g0 g → HR w0 S0 g Hs w → ER g α ρ → KR P n ops (lftK w0 S0 g0 k) (Stab g Hs Rs w) wv r [] ρ w
/-- Of which only what writes is left. -/
structure MZ (P : Program) (n : Nat) (ops : Array Oper) (k : MK) (wv : List Nat) (r : List (Nat × Bool)) (Hs : List En) (α : Nat → A) : Prop where
  of ::
  out : ∀ w0 S0 g0 g ρ w S, GL w0 S0 g0 g → HR w0 S0 g Hs w → ER g α ρ → KR P n ops (lftK w0 S0 g0 k) S wv r [] ρ w
theorem m_regionD {id : Nat} {l : List Oper} (Rs : Nat → Bool) (wv : List Nat) (sched : List (Nat × Bool)) (hm : P.follows .mixedOrders = true)
    (hB : (Region.noSelect l.toArray && sched.length == l.toArray.size && okS .any l.toArray wv sched (Array.replicate l.toArray.size false)) = true)
    (h : MR P n l.toArray k Rs wv sched Hs α) : MC P n (.region id l.toArray true) k Hs α := .of fun w0 S0 g ρ w hH hE =>
  k_regionD (Stab g Hs Rs w.drew) wv sched hm (fun _ _ _ _ _ h => h) hB (h.out w0 S0 g g ρ w.drew (.refl _ _ g) hH.drew hE)

variable {Rs : Nat → Bool} {wv : List Nat} {r : List (Nat × Bool)} {i : Nat}
theorem mr_nil (h : k.N Hs α) : MR P n ops k Rs wv [] Hs α := .of fun _ _ _ _ _ _ l hH hE => kr_nil (lft_le (lft_mk hH hE h) l)
theorem mz_nil (h : k.N Hs α) : MZ P n ops k wv [] Hs α := .of fun _ _ _ _ _ _ _ l hH hE => kr_nil (lft_le (lft_mk hH hE h) l)
theorem mr_val {d : Nat} {a : A} (ho : ops[i]? = some o) (hy : MY P n Hs Rs α o a) (hg : o.guard = none) (hd : o.dst = some d) (hdn : Nat.blt d n = true) (h : MR P n ops k Rs wv r Hs (ua α d a)) : MR P n ops k Rs wv ((i, true) :: r) Hs α := .of fun w0 S0 g0 g ρ w l hH hE => by
  obtain ⟨v, hv, hY⟩ := hy.out w0 S0 g ρ w hH hE
  exact kr_val ho (hH.stab _) (fun w' hw => hY w' hw) hg hd hdn (h.out w0 S0 g0 g _ w l hH (hE.put d hv))
theorem mr_valG {d : Nat} {a : A} (ho : ops[i]? = some o) (hy : MY P n Hs Rs α o a) {j t : Nat} {b : Bool} (hg : o.guard = some (j, b)) (hj : (ops[j]?).bind (·.dst) = some t) (hv : ea n α (.tmp t) = .v (.bool b)) (hd : o.dst = some d) (hdn : Nat.blt d n = true)
    (h : MR P n ops k Rs wv r Hs (ua α d a)) : MR P n ops k Rs wv ((i, true) :: r) Hs α := .of fun w0 S0 g0 g ρ w l hH hE => by
  obtain ⟨v, hv', hY⟩ := hy.out w0 S0 g ρ w hH hE
  exact kr_valG ho (hH.stab _) (fun w' hw => hY w' hw) hg hj (ea_v hE hv) hd hdn (h.out w0 S0 g0 g _ w l hH (hE.put d hv'))
theorem mr_skipG {d : Nat} (ho : ops[i]? = some o) {j t : Nat} {b b' : Bool} (hg : o.guard = some (j, b)) (hj : (ops[j]?).bind (·.dst) = some t) (hv : ea n α (.tmp t) = .v (.bool b')) (hb : (b' == b) = false) (hd : o.dst = some d) (hdn : Nat.blt d n = true)
    (h : MR P n ops k Rs wv r Hs (ua α d .dead)) : MR P n ops k Rs wv ((i, true) :: r) Hs α := .of fun w0 S0 g0 g ρ w l hH hE =>
  kr_skipG ho (hH.stab _) hg hj (ea_v hE hv) hb hd hdn (h.out w0 S0 g0 g _ w l hH (hE.put d (.dead _)))
theorem mr_skipS {d : Nat} (ho : ops[i]? = some o) {j t : Nat} {b b' : Bool} (hg : o.guard = some (j, b)) (hj : (ops[j]?).bind (·.dst) = some t) (hv : ea n α (.tmp t) = .v (.bool b')) (hb : (b' == b) = false) (hd : o.dst = some d) (hdn : Nat.blt d n = true)
    (h : MR P n ops k Rs wv r Hs (ua α d .dead)) : MR P n ops k Rs wv ((i, false) :: r) Hs α := .of fun w0 S0 g0 g ρ w l hH hE =>
  kr_skipS ho (fun _ => hH.stab _) hg hj (ea_v hE hv) hb hd hdn (h.out w0 S0 g0 g _ w l hH (hE.put d (.dead _)))

theorem stab_step {w0 : World} {S0 : Nat → Prop} {g g' : G} {Hs' : List En} {W : List Nat} {w w' : World} (hW : W.all (fun j => !Rs j) = true) (hH : HR w0 S0 g Hs w) (l : g.le g') (hH' : HR w0 S0 g' Hs' w')
    (hf : Fr (fun b => ∃ i e, W.contains i = true ∧ Hs[i]? = some e ∧ e.ob.live ∧ g.blk e.k = some b) w w') (hk : ∀ (i : Nat) (e : En), Hs[i]? = some e → W.contains i = false → Hs'[i]? = some e) :
    Stab g Hs Rs w w' ∧ ∀ w'', Stab g' Hs' Rs w' w'' → Stab g Hs Rs w w'' := by
  have hno : ∀ j, W.contains j = true → Rs j = false := fun j hj => by
    have := List.all_eq_true.1 hW j (by simpa using hj)
    simpa using this
  have hold : ∀ (i : Nat) (e : En) (b : Nat), Rs i = true → Hs[i]? = some e → e.ob.live → g.blk e.k = some b → w'.heap[b]? = w.heap[b]? := fun i e b hR he hd hb =>
    hf.block b (hH.own i e b he hd hb).2.1 (by
      rintro ⟨j, e', hj, he', hd', hb'⟩
      by_cases hij : i = j
      · subst hij; rw [hno i hj] at hR; cases hR
      · exact hH.sep i j e e' b he he' hij hd hd' hb hb')
  refine ⟨⟨fun b o h => hH'.fro b o (l.F b o h), hold⟩, fun w'' h => ⟨fun b o hb => h.fro b o (l.F b o hb), fun i e b hR he hd hb => ?_⟩⟩
  have hWi : W.contains i = false := by
    cases hc : W.contains i with
    | false => rfl
    | true => rw [hno i hc] at hR; cases hR
  rw [h.ob i e b hR (hk i e he hWi) hd (by rw [(hH.ob i e he).blkUp hd l]; exact hb), hold i e b hR he hd hb]

theorem mr_ow {W : List Nat} (ho : ops[i]? = some o) (hg : o.guard = none) (hW : W.all (fun j => !Rs j) = true) (h : MO P n W o Hs α (MR P n ops k Rs wv r)) : MR P n ops k Rs wv ((i, false) :: r) Hs α := .of fun w0 S0 g0 g ρ w l hH hE =>
  kr_owS ho hg ((h.out w0 S0 g ρ w _ hH hE).mono (by
    rintro ds ρ w' ⟨rfl, g', Hs', α', l', hH', hE', hq, hf, hk⟩
    have hs := stab_step hW hH l'.le hH' hf hk
    exact ⟨fun _ => hs.1, _, hs.2, hq.out w0 S0 g0 g' ρ w' (l.trans l') hH' hE'⟩))
theorem mr_owG {W : List Nat} (ho : ops[i]? = some o) {j t : Nat} {b : Bool} (hg : o.guard = some (j, b)) (hj : (ops[j]?).bind (·.dst) = some t) (hv : ea n α (.tmp t) = .v (.bool b)) (hW : W.all (fun j => !Rs j) = true) (h : MO P n W o Hs α (MR P n ops k Rs wv r)) :
    MR P n ops k Rs wv ((i, false) :: r) Hs α := .of fun w0 S0 g0 g ρ w l hH hE =>
  kr_owGS ho hg hj (ea_v hE hv) ((h.out w0 S0 g ρ w _ hH hE).mono (by
    rintro ds ρ w' ⟨rfl, g', Hs', α', l', hH', hE', hq, hf, hk⟩
    have hs := stab_step hW hH l'.le hH' hf hk
    exact ⟨fun _ => hs.1, _, hs.2, hq.out w0 S0 g0 g' ρ w' (l.trans l') hH' hE'⟩))
theorem mr_owz {W : List Nat} (ho : ops[i]? = some o) (hg : o.guard = none) (hwv : wv.contains i = true) (h : MO P n W o Hs α (MZ P n ops k wv r)) : MR P n ops k Rs wv ((i, false) :: r) Hs α := .of fun w0 S0 g0 g ρ w l hH hE =>
  kr_owS ho hg ((h.out w0 S0 g ρ w _ hH hE).mono (by
    rintro ds ρ w' ⟨rfl, g', Hs', α', l', hH', hE', hq, hf, hk⟩
    exact ⟨fun h0 => absurd h0 (by rw [hwv]; decide), _, fun _ h => h, hq.out w0 S0 g0 g' ρ w' _ (l.trans l') hH' hE'⟩))
theorem mz_ow {W : List Nat} (ho : ops[i]? = some o) (hg : o.guard = none) (hwv : wv.contains i = true) (h : MO P n W o Hs α (MZ P n ops k wv r)) : MZ P n ops k wv ((i, false) :: r) Hs α := .of fun w0 S0 g0 g ρ w S l hH hE =>
  kr_owS ho hg ((h.out w0 S0 g ρ w _ hH hE).mono (by
    rintro ds ρ w' ⟨rfl, g', Hs', α', l', hH', hE', hq, hf, hk⟩
    exact ⟨fun h0 => absurd h0 (by rw [hwv]; decide), _, fun _ h => h, hq.out w0 S0 g0 g' ρ w' _ (l.trans l') hH' hE'⟩))
theorem mr_pre {Hs' : List En} {α' : Nat → A} (hs : Shift Hs α Hs' α') (hz : MZ P n ops k wv r Hs' α') : MZ P n ops k wv r Hs α := .of fun w0 S0 g0 g ρ w S l hH hE => by
  obtain ⟨g', l', h3, h4⟩ := hs w0 S0 g w ρ hH hE
  exact hz.out w0 S0 g0 g' ρ w S (l.trans l') h3 h4

/-- A value, as a step. -/
theorem mo_val {W : List Nat} {d : Nat} {a : A} {next : List En → (Nat → A) → Prop} (hy : MY P n Hs allR α o a) (hd : o.dst = some d) (hdn : Nat.blt d n = true) (h : next Hs (ua α d a)) : MO P n W o Hs α next := .of fun w0 S0 g ρ w k hH hE => by
  obtain ⟨v, hv, hY⟩ := hy.out w0 S0 g ρ w hH hE
  exact ow_val (hY w (hH.stab _)) hd hdn ⟨rfl, g, Hs, _, .refl _ _ g, hH, hE.put d hv, h, .refl _ _, fun _ _ h _ => h⟩
end

/-! ### Values -/
def wholeA : A → Bool
  | .dead | .tup _ => false
  | _ => true
def aggA : A → Bool
  | .agg _ | .arr .. => true
  | _ => false
theorem one_cells {x : Value} (h : x.oneCell' = true) : x.cells = #[x] := by cases x <;> first | rfl | simp [Value.oneCell'] at h
theorem RV.cells {g : G} {a : A} {v : Value} (h : RV g a v) (ha : wholeA a = true) : RC g a v.cells.toList := by
  cases h with
  | dead => simp [wholeA] at ha
  | v x h => rw [one_cells h]; exact .v _ h
  | agg h => exact .agg h
  | arr hn hs h => exact .arr hn hs h
  | nl => exact .nl
  | nil => exact .nil
  | sl s a c hc hs hcs h => exact .sl s a c hc hs hcs h
  | ptr p off h => exact .ptr p off h
  | pte p off h => exact .pte p off h
  | osl h h1 => rw [one_cells h1]; exact .osl h h1
  | fp h h' => exact .fp h h'
  | seg off n hc ho h => exact .seg off n hc ho h
  | sgs off n hc ho h => exact .sgs off n hc ho h
  | sgn off => exact .sgn off
  | tup => simp [wholeA] at ha
  | fn h h' => exact .fn h h'
theorem RC.vala {g : G} {a : A} {cs : List Value} (h : RC g a cs) (ha : aggA a = true) : RV g a (.agg cs.toArray) := by
  cases h <;> first | (simp [aggA] at ha; done) | (rename_i h; exact .agg h) | (rename_i hn hs h; exact .arr hn hs h)
theorem RC.val {g : G} {a : A} {cs : List Value} (h : RC g a cs) (ha : aggA a = false) : ∃ x, cs = [x] ∧ RV g a x ∧ x.oneCell' = true := by
  cases h with
  | dead x h => exact ⟨x, rfl, .dead _, h⟩
  | v x h => exact ⟨x, rfl, .v x h, h⟩
  | agg => simp [aggA] at ha
  | arr => simp [aggA] at ha
  | nl => exact ⟨_, rfl, .nl, rfl⟩
  | nil => exact ⟨_, rfl, .nil, rfl⟩
  | sl s a c hc hs hcs h => exact ⟨_, rfl, .sl s a c hc hs hcs h, rfl⟩
  | ptr p off h => exact ⟨_, rfl, .ptr p off h, rfl⟩
  | pte p off h => exact ⟨_, rfl, .pte p off h, rfl⟩
  | osl h h1 => exact ⟨_, rfl, .osl h h1, h1⟩
  | fp h h' => exact ⟨_, rfl, .fp h h', rfl⟩
  | seg off n hc ho h => exact ⟨_, rfl, .seg off n hc ho h, rfl⟩
  | sgs off n hc ho h => exact ⟨_, rfl, .sgs off n hc ho h, rfl⟩
  | sgn off => exact ⟨_, rfl, .sgn off, rfl⟩
  | fn h h' => exact ⟨_, rfl, .fn h h', rfl⟩

def treeOf : Ob → Option A
  | .box _ a => some a
  | .row _ s xs => some (.arr xs.length s xs)
  | .fz _ a => some a
  | .dead => none
  | .gh _ => none
theorem OR.at {g : G} {w : World} {k : Nat} {ob : Ob} (h : OR g w k ob) (hF : g.fro w) {t : A} (ht : treeOf ob = some t) {p : List Nat} {off : Nat} {pv : Value} (hr : RV g (.ptr k p off) pv) :
    ∃ b cs rest T, pv = .pointer (some ⟨b, off, none⟩) ∧ RC g t cs ∧ w.heap[b]? = some (.cells (cs ++ rest).toArray T (0, 0)) ∧ (ob.live → g.blk k = some b) ∧ (¬ ob.live → g.F b = some (.cells (cs ++ rest).toArray T (0, 0))) := by
  cases ob with
  | dead => simp [treeOf] at ht
  | gh p => simp [treeOf] at ht
  | box T a =>
    simp only [treeOf, Option.some.injEq] at ht; subst ht
    obtain ⟨b, cs, hm, hx, hc⟩ := h
    cases hr with
    | ptr p off h => rw [hm] at h; cases h; exact ⟨b, cs, [], T, by simp, hc, by simpa [Bx] using hx, fun _ => by simp [G.blk, hm, blkV], fun hl => absurd trivial hl⟩
    | pte p off h => rw [hm] at h; cases h
  | row E s xs =>
    simp only [treeOf, Option.some.injEq] at ht; subst ht
    obtain ⟨v, cs, hm, ho, hc, hs⟩ := h
    cases hr with
    | ptr p off h => rw [hm] at h; cases h; rcases ho.2 with ⟨h, _⟩ | ⟨_, _, _, h, _⟩ <;> cases h
    | pte p off h =>
      rw [hm] at h; cases h
      rcases ho.2 with ⟨h, _⟩ | ⟨q, cap, cur, h, _, hh, _, _, _, ht⟩
      · cases h
      · cases h
        refine ⟨_, cs, cur.toList.drop (xs.length * s), E, by rw [Nat.zero_add], .arr rfl hs hc, ?_, fun _ => by rw [G.blk, hm]; rfl, fun hl => absurd trivial hl⟩
        rw [← ht, List.take_append_drop]; simpa using hh
  | fz T a =>
    simp only [treeOf, Option.some.injEq] at ht; subst ht
    obtain ⟨b, cs, hm, hx, hc⟩ := h
    cases hr with
    | ptr p off h => rw [hm] at h; cases h; exact ⟨b, cs.toList, [], T, by simp, hc, by simpa using hF _ _ hx, fun h => h.elim, fun _ => by simpa using hx⟩
    | pte p off h => rw [hm] at h; cases h

theorem cs_block {w : World} {b : Nat} {pre c post : List Value} {T : TypeId} (h : w.heap[b]? = some (.cells (pre ++ (c ++ post)).toArray T (0, 0))) : K.Cs w ⟨b, pre.length, none⟩ c := by
  have hb : Bx w b T (pre ++ (c ++ post)) := h
  have := hb.part pre.length c.length (xs := c) (by simp)
  rwa [add_mk, Nat.zero_add] at this

section
variable {P : Program} {n : Nat} {Hs : List En} {Rs : Nat → Bool} {α : Nat → A} {d : Option Tmp} {ty : TypeId} {pos : String} {af : Array Edge} {gd : Option (Nat × Bool)}

theorem my_of {o : Oper} {a : A} (h : ∀ g ρ, ER g α ρ → ∃ v, RV g a v ∧ ∀ w, Y P n ρ o w v) : MY P n Hs Rs α o a := .of fun _ _ g ρ _ _ hE => by
  obtain ⟨v, hv, hY⟩ := h g ρ hE
  exact ⟨v, hv, fun w' _ => hY w'⟩
/-- b is a, its head laid open. -/
def Sm (a b : A) : Prop := a = b
theorem Sm.dead : Sm .dead .dead := rfl
theorem Sm.v (x : Value) : Sm (.v x) (.v x) := rfl
theorem Sm.agg (xs : List A) : Sm (.agg xs) (.agg xs) := rfl
theorem Sm.arr (n s : Nat) (xs : List A) : Sm (.arr n s xs) (.arr n s xs) := rfl
theorem Sm.nl : Sm .nl .nl := rfl
theorem Sm.sl (xs : List A) : Sm (.sl xs) (.sl xs) := rfl
theorem Sm.ptr (k : Nat) (p : List Nat) (off : Nat) : Sm (.ptr k p off) (.ptr k p off) := rfl
theorem Sm.osl (k : Nat) : Sm (.osl k) (.osl k) := rfl
theorem Sm.fp (x : A) : Sm (.fp x) (.fp x) := rfl
theorem Sm.seg (k off n : Nat) : Sm (.seg k off n) (.seg k off n) := rfl
theorem Sm.tup (xs : List A) : Sm (.tup xs) (.tup xs) := rfl
theorem Sm.fn (f : Fn) (first caps : List A) : Sm (.fn f first caps) (.fn f first caps) := rfl
theorem my_move {x : Operand} {a : A} (hx : Sm (ea n α x) a) (ho : okC x = true := by rfl) : MY P n Hs Rs α ⟨d, .move x, ty, pos, af, gd⟩ a := my_of fun _ _ hE => ⟨_, (show ea n α x = a from hx) ▸ hE.ev n x ho, fun _ => y_move⟩
theorem my_assign {x : Operand} {a : A} (hx : Sm (ea n α x) a) (ho : okC x = true := by rfl) : MY P n Hs Rs α ⟨d, .assign x, ty, pos, af, gd⟩ a := my_of fun _ _ hE => ⟨_, (show ea n α x = a from hx) ▸ hE.ev n x ho, fun _ => y_assign⟩
theorem my_pickT {c x y : Operand} {a : A} (hc : ea n α c = .v (.bool true)) (hx : Sm (ea n α x) a) (ho : okC x = true := by rfl) (hoc : okC c = true := by rfl) : MY P n Hs Rs α ⟨d, .pick c x y, ty, pos, af, gd⟩ a := my_of fun _ _ hE =>
  ⟨_, (show ea n α x = a from hx) ▸ hE.ev n x ho, fun _ => y_pickT (ea_v hE hc hoc)⟩
theorem my_pickF {c x y : Operand} {a : A} (hc : ea n α c = .v (.bool false)) (hy : Sm (ea n α y) a) (ho : okC y = true := by rfl) (hoc : okC c = true := by rfl) : MY P n Hs Rs α ⟨d, .pick c x y, ty, pos, af, gd⟩ a := my_of fun _ _ hE =>
  ⟨_, (show ea n α y = a from hy) ▸ hE.ev n y ho, fun _ => y_pickF (ea_v hE hc hoc)⟩
end
end Go.Proofs.Ytlklapledogdcaa.K
