/- A range over a function, at abstract states: code in a round, the call of yield, a round, the statement. No condition. -/
import Derived.Test.YtlklapledogdcaaM5
import Derived.RangeFuncIn
import Derived.RangeFuncRecord
import Derived.RangeFuncLeaves
namespace Go.Proofs.Ytlklapledogdcaa.K
open Go

/-! ### Code in a round -/
/-- A fence that lets all in, in a round or in none. -/
def FR (ro : Option Nat) : Fence := { Fence.wide with round := ro }
def notDefer : Op → Bool
  | .defer _ => false
  | _ => true
theorem notDefer_ne {op : Op} (h : notDefer op = true) : ∀ c, op ≠ .defer c := fun c e => by rw [e] at h; cases h

theorem rows_in {ro : Option Nat} {P : Program} {row : String} {args : Array Value} {w : World} {R : Value → World → Prop} (h : Rows P row args w R) : RowsIn (FR ro) 0 P row args w R := fun c cs _ =>
  let ⟨v, w', r, s⟩ := h c cs
  ⟨v, w', r, (stepsIn_wide (P := P)).2 s⟩
theorem calls_in {ro : Option Nat} {P : Program} {f : FuncId} {args : Array Value} {w : World} {R : Ending → World → Prop} (h : Calls P f args w R) : CallsIn (FR ro) 0 P f args w R :=
  (callsIn_wide (n := 0)).2 h
theorem op_in {ro : Option Nat} {P : Program} {o : Oper} {a : Act} {w : World} {next next' : Act → World → Prop} {Q Q' : Exit → Act → World → Prop} (hQ : ¬ LetsOut Q) (hP : ∀ c a w, Q (.panic c) a w → Q' (.panic c) a w) (hn : ∀ a w, next a w → next' a w) (hd : notDefer o.op = true)
    (h : o.wp P a w next Q) : o.wpIn (FR ro) 0 P a w next' Q' := by
  refine ⟨fun _ _ => trivial, ?_⟩
  rw [Oper.semAt_eq _ _ _ (notDefer_ne hd)]
  unfold Oper.wp at h
  generalize (execOp a.eval o).run P w = r at h ⊢
  unfold Oper.upon at h
  unfold Oper.uponIn
  split at h
  · exact hn _ _ h
  · exact hn _ _ h
  · exact hn _ _ h
  · refine ⟨fun h => (by cases h), (calls_in h).mono fun e w' he => ?_⟩
    cases e with
    | returned v => exact hn _ _ he
    | panicked c => exact hP _ _ _ he
    | outgrown => exact absurd he hQ
  · exact ⟨fun h => (by cases h), (rows_in h).mono fun v w' hv => hn _ _ hv⟩
  · exact hP _ _ _ h
  · exact h.elim
theorem list_app {ro : Option Nat} {P : Program} {ops : Array Oper} {Q Q' : Exit → Act → World → Prop} {l2 : List Oper} (hQ : ¬ LetsOut Q) (hP : ∀ c a w, Q (.panic c) a w → Q' (.panic c) a w) (hN : ∀ a w, Q .normal a w → wpListIn (FR ro) 0 P ops Q' l2 a w) :
    ∀ (l : List Oper) (a : Act) (w : World), l.all (fun o => notDefer o.op) = true → wpList P ops Q l a w → wpListIn (FR ro) 0 P ops Q' (l ++ l2) a w
  | [], a, w, _, h => hN a w h
  | o :: rest, a, w, hd, h => by
    simp only [List.all_cons, Bool.and_eq_true] at hd
    unfold wpList at h
    show wpListIn (FR ro) 0 P ops Q' (o :: (rest ++ l2)) a w
    unfold wpListIn
    split
    · rename_i hw
      rw [if_pos hw] at h
      rcases h with h | ⟨_, h⟩
      · exact op_in hQ hP (fun a w h => list_app hQ hP hN rest a w hd.2 h) hd.1 h
      · exact absurd h hQ
    · rename_i hw
      rw [if_neg hw] at h
      exact ⟨fun _ _ => trivial, list_app hQ hP hN rest _ _ hd.2 h⟩

structure KCI (ro : Option Nat) (P : Program) (n : Nat) (c : Code) (k : Ks) (ds : List Deferred) (ρ : Env) (w : World) : Prop where
  of ::
  wp : c.wpIn (FR ro) 0 P (qof n k) (ac n ρ ds) w
structure KLI (ro : Option Nat) (P : Program) (n : Nat) (ops : Array Oper) (k : Ks) (l : List Oper) (ds : List Deferred) (ρ : Env) (w : World) : Prop where
  of ::
  wp : wpListIn (FR ro) 0 P ops (qof n k) l (ac n ρ ds) w
theorem qof_out {n : Nat} {k : Ks} : ¬ LetsOut (qof n k) := by rintro ⟨a, w, h⟩; exact h

structure MCI (ro : Option Nat) (P : Program) (n : Nat) (c : Code) (k : MK) (Hs : List En) (α : Nat → A) : Prop where
  of ::
  out : ∀ w0 S0 g ρ w, HR w0 S0 g Hs w → ER g α ρ → KCI ro P n c (lftK w0 S0 g k) [] ρ w
structure MLI (ro : Option Nat) (P : Program) (n : Nat) (ops : Array Oper) (k : MK) (l : List Oper) (Hs : List En) (α : Nat → A) : Prop where
  of ::
  out : ∀ w0 S0 g0 g ρ w, GL w0 S0 g0 g → HR w0 S0 g Hs w → ER g α ρ → KLI ro P n ops (lftK w0 S0 g0 k) l [] ρ w
def mSeqI (ro : Option Nat) (P : Program) (n : Nat) (y : Code) (k : MK) : MK := { N := MCI ro P n y k, X := k.X, R := k.R }
def mOpI (ro : Option Nat) (P : Program) (n : Nat) (ops : Array Oper) (l : List Oper) (k : MK) : MK := { N := MLI ro P n ops k l, X := k.X, R := k.R }
def mEnd (q : List En → (Nat → A) → Prop) : MK := { N := q, X := fun _ _ _ => False, R := fun _ _ => False }

section
variable {ro : Option Nat} {P : Program} {n : Nat} {k : MK} {Hs : List En} {α : Nat → A} {ops : Array Oper} {o : Oper} {rest : List Oper}
theorem lftI {w0 : World} {S0 : Nat → Prop} {g g' : G} {c : Code} {ds : List Deferred} {ρ : Env} {w : World} (h : KCI ro P n c (lftK w0 S0 g' k) ds ρ w) (l : GL w0 S0 g g') : KCI ro P n c (lftK w0 S0 g k) ds ρ w :=
  ⟨wpIn_mono h.wp (qof_mono (fun _ _ _ h => lft_le h l) (fun _ _ _ _ h => lft_le h l) (fun _ _ _ h => lft_le h l) (fun _ _ _ _ h => h))⟩
theorem mi_seq {x y : Code} (h : MCI ro P n x (mSeqI ro P n y k) Hs α) : MCI ro P n (.seq x y) k Hs α := .of fun w0 S0 g ρ w hH hE => by
  refine ⟨wpIn_seq (wpIn_mono (h.out w0 S0 g ρ w hH hE).wp fun e a w hq => ?_)⟩
  cases e with
  | normal =>
    obtain ⟨ds, ρ, rfl, rfl, g', Hs', α', l, hH', hE', hq⟩ := hq
    exact (lftI (hq.out w0 S0 g' ρ w hH' hE') l).wp
  | exit i => exact hq
  | ret => exact hq
  | panic c => exact hq
  | goto _ => exact hq
  | outgrown => exact hq
theorem mi_block {id : Nat} {c : Code} (h : MCI ro P n c (mBlk id k) Hs α) : MCI ro P n (.block id c) k Hs α := .of fun w0 S0 g ρ w hH hE => by
  refine ⟨wpIn_block (wpIn_mono (h.out w0 S0 g ρ w hH hE).wp fun e a w hq => ?_)⟩
  cases e with
  | normal => exact hq
  | exit i =>
    obtain ⟨ds, ρ, rfl, hd, g', Hs', α', l, hH', hE', hq⟩ := hq
    simp only [mBlk] at hq
    simp only [Exit.inBlock]
    split
    · rename_i e; rw [if_pos e] at hq; exact ⟨ds, ρ, rfl, hd, g', Hs', α', l, hH', hE', hq⟩
    · rename_i e; rw [if_neg e] at hq; exact ⟨ds, ρ, rfl, hd, g', Hs', α', l, hH', hE', hq⟩
  | ret => exact hq
  | panic c => exact hq
  | goto _ => exact hq
  | outgrown => exact hq
theorem mi_region {id : Nat} {l : List Oper} (hd : l.all (fun o => notDefer o.op) = true) (h : ML P n l.toArray k l Hs α) : MCI ro P n (.region id l.toArray false) k Hs α := .of fun w0 S0 g ρ w hH hE => by
  refine ⟨wpIn_region_lit ?_⟩
  have := list_app (ro := ro) (Q' := qof n (lftK w0 S0 g k)) (l2 := []) qof_out (fun _ _ _ h => h) (fun _ _ h => h) l _ _ hd (h.out w0 S0 g g ρ w (.refl _ _ g) hH hE).wp
  rwa [List.append_nil] at this
/-- A region whose steps call yield. -/
theorem m_regionI {id : Nat} {l : List Oper} (h : MLI none P n l.toArray k l Hs α) : MC P n (.region id l.toArray false) k Hs α := .of fun w0 S0 g ρ w hH hE =>
  ⟨(wpIn_wide (n := 0)).1 (wpIn_region_lit (h.out w0 S0 g g ρ w (.refl _ _ g) hH hE).wp)⟩
theorem mli_one (hd : notDefer o.op = true) (h : ML P n ops (mOpI ro P n ops rest k) [o] Hs α) : MLI ro P n ops k (o :: rest) Hs α := .of fun w0 S0 g0 g ρ w l hH hE => by
  refine ⟨list_app (ro := ro) (ops := ops) (l2 := rest) qof_out (Q := qof n (lftK w0 S0 g0 (mOpI ro P n ops rest k))) (Q' := qof n (lftK w0 S0 g0 k)) (fun _ _ _ h => h) ?_ [o] _ _ (by simp [hd]) (h.out w0 S0 g0 g ρ w l hH hE).wp⟩
  rintro a w ⟨ds, ρ, rfl, rfl, g', Hs', α', l', hH', hE', hq⟩
  exact (hq.out w0 S0 g0 g' ρ w l' hH' hE').wp
theorem zi_seq {y : Code} (h : MCI ro P n y k Hs α) : (mSeqI ro P n y k).N Hs α := h
theorem zi_op (h : MLI ro P n ops k rest Hs α) : (mOpI ro P n ops rest k).N Hs α := h
theorem mli_nil (h : k.N Hs α) : MLI ro P n ops k [] Hs α := .of fun _ _ _ _ _ _ l hH hE => ⟨⟨[], _, rfl, lft_le (lft_mk hH hE h) l⟩⟩
theorem mli_norm {l : List Oper} (f : List Nat) (Hs' : List En) (hf : f.Nodup) (he : pick Hs f = Hs') (h : MLI ro P n ops k l Hs' α) : MLI ro P n ops k l Hs α := .of fun w0 S0 g0 g ρ w l hH hE => by
  obtain ⟨g', l', h3, h4⟩ := sh_pick (Hs := Hs) (α := α) f hf w0 S0 g w ρ hH hE
  rw [he] at h3
  exact h.out w0 S0 g0 g' ρ w (l.trans l') h3 h4
end

/-! ### A round -/
/-- What an iterator knows of the loop: its record lies in block l, ready; g0 was known ahead of it. -/
structure YG (g0 : G) (l : Nat) (r : Loop) (g : G) : Prop where
  le : g0.le g
  n0 : g0.F l = none
  n1 : g0.F r.defers = none
  lp : g.F l = some (.loop r)
  df : g.F r.defers = some (.deferred (some []))
theorem YG.up {g0 g g' : G} {l : Nat} {r : Loop} (h : YG g0 l r g) (k : g.le g') : YG g0 l r g' := ⟨h.le.trans k, h.n0, h.n1, k.F _ _ h.lp, k.F _ _ h.df⟩
/-- yield, at a round of the loop. -/
structure MYd (P : Program) (g0 : G) (l : Nat) (r : Loop) (args : List A) (Hin : List En) (post : List En → A → Prop) : Prop where
  of ::
  out : ∀ g w vs S0, YG g0 l r g → (∀ b, S0 b → g.F b = none) → HR w S0 g Hin w → RVs g args vs →
    RoundIn (FR none) 0 P l r.fn ((r.params.zip vs.toArray).foldl (fun t (p, v) => t.setIfInBounds p v) r.tmps) r.assign r.body w (fun e w' => ∃ v, e = .returned v ∧ ∃ g' Hs' a, GL w S0 g g' ∧ HR w S0 g' Hs' w' ∧ RV g' a v ∧ post Hs' a)

def G.thin (g : G) (l D : Nat) : G := ⟨fun b => if b = l ∨ b = D then none else g.F b, g.m, g.lim, g.fin⟩
def noCells : Option Obj → Bool
  | some (.cells ..) => false
  | _ => true
theorem G.thin_lc (g : G) {l D : Nat} (hl : noCells (g.F l) = true) (hD : noCells (g.F D) = true) : g.lc (g.thin l D) := ⟨fun {a v} h => by
  have e : (g.thin l D).F a.block = g.F a.block := by
    simp only [G.thin]; rw [if_neg]
    intro e
    have hn : noCells (g.F a.block) = true := by rcases e with e | e <;> rw [e] <;> assumption
    unfold G.cell? at h
    cases hF : g.F a.block with
    | none => rw [hF] at h; cases h
    | some o => rw [hF] at h hn; cases o <;> first | (simp [noCells] at hn; done) | (simp at h; done)
  unfold G.cell? at h ⊢
  rw [e]; exact h, fun _ _ h => h⟩
def isGh : Ob → Bool
  | .gh _ => true
  | _ => false
section
variable {w0 : World} {S0 : Nat → Prop} {g : G} {Hs : List En} {w w' : World}
theorem OR.thin {l D k : Nat} {ob : Ob} (h : OR g w k ob) (hl : noCells (g.F l) = true) (hD : noCells (g.F D) = true) (hg : isGh ob = false) : OR (g.thin l D) w k ob := by
  have lc := g.thin_lc hl hD
  cases ob with
  | dead => trivial
  | box T a => obtain ⟨b, cs, hm, hx, hr⟩ := h; exact ⟨b, cs, hm, hx, hr.upc lc⟩
  | row E s xs => obtain ⟨v, cs, hm, ho, hr, hs⟩ := h; exact ⟨v, cs, hm, ho, hr.upc lc, hs⟩
  | fz T a =>
    obtain ⟨b, cs, hm, hx, hr⟩ := h
    refine ⟨b, cs, hm, ?_, hr.upc lc⟩
    simp only [G.thin]
    rw [if_neg, hx]
    rintro (rfl | rfl)
    · rw [hx] at hl; cases hl
    · rw [hx] at hD; cases hD
  | gh p => cases hg
theorem HR.thin (h : HR w0 S0 g Hs w) {l D : Nat} (hl : noCells (g.F l) = true) (hD : noCells (g.F D) = true) (hg : Hs.all (fun e => !isGh e.ob) = true) : HR w0 S0 (g.thin l D) Hs w := by
  refine ⟨h.fr, fun b o hb => h.fro b o ?_, fun i e he => (h.ob i e he).thin hl hD ?_, fun i e b he hd hb => ⟨(h.own i e b he hd hb).1, (h.own i e b he hd hb).2.1, ?_⟩, h.sep⟩
  · simp only [G.thin] at hb
    split at hb
    · cases hb
    · exact hb
  · have := List.all_eq_true.1 hg e (List.mem_of_getElem? he)
    simpa using this
  · simp only [G.thin]
    split
    · rfl
    · exact (h.own i e b he hd hb).2.2
theorem OR.blkEq {k : Nat} {ob : Ob} (h : OR g w k ob) (he : ob.live → ∀ b, g.blk k = some b → w'.heap[b]? = w.heap[b]?) : OR g w' k ob := by
  cases ob with
  | dead => trivial
  | fz T a => exact h
  | gh p => exact h
  | box T a =>
    obtain ⟨b', cs, hm, hx, hr⟩ := h
    exact ⟨b', cs, hm, (he trivial _ (by simp [G.blk, hm, blkV])).trans hx, hr⟩
  | row E s xs =>
    obtain ⟨v, cs, hm, ho, hr⟩ := h
    refine ⟨v, cs, hm, ⟨ho.1, ?_⟩, hr⟩
    rcases ho.2 with h | ⟨q, cap, cur, rfl, h1, h2, h3⟩
    · exact .inl h
    · exact .inr ⟨q, cap, cur, rfl, h1, by rw [he trivial q (by simp [G.blk, hm, blkV, Value.ownBlock])]; exact h2, h3⟩
/-- What is no object of ours may be turned; the frame is laid anew. -/
theorem HR.turn (h : HR w0 S0 g Hs w) {S1 : Nat → Prop} {w1 w2 : World} {g2 : G} (hl : g.le g2) (hfr : Fr S1 w1 w2) (hfro : g2.fro w2) (hsz : w.heap.size ≤ w2.heap.size) (he : ∀ (b : Nat) (c : Array Value) (T : TypeId), w.heap[b]? = some (.cells c T (0, 0)) → w2.heap[b]? = w.heap[b]?)
    (hown : ∀ b : Nat, S0 b ∨ w0.heap.size ≤ b → S1 b ∨ w1.heap.size ≤ b) (hF : ∀ (b : Nat) (c : Array Value) (T : TypeId), w.heap[b]? = some (.cells c T (0, 0)) → g.F b = none → g2.F b = none) : HR w1 S1 g2 Hs w2 := by
  have hc : ∀ (i : Nat) (e : En) (b : Nat), Hs[i]? = some e → e.ob.live → g.blk e.k = some b → ∃ c T, w.heap[b]? = some (.cells c T (0, 0)) := fun i e b hi hd hb => (h.ob i e hi).block hd hb
  refine ⟨hfr, hfro, fun i e hi => (((h.ob i e hi).blkEq (w' := w2) fun hd b hb => ?_)).up hl, fun i e b hi hd hb => ?_, fun i j e f b hi hj hne hd hd' hb => ?_⟩
  · obtain ⟨c, T, hh⟩ := hc i e b hi hd hb
    exact he b c T hh
  · rw [(h.ob i e hi).blkUp hd hl] at hb
    obtain ⟨h1, h2, h3⟩ := h.own i e b hi hd hb
    obtain ⟨c, T, hh⟩ := hc i e b hi hd hb
    exact ⟨hown b h1, Nat.lt_of_lt_of_le h2 hsz, hF b c T hh h3⟩
  · rw [(h.ob i e hi).blkUp hd hl] at hb
    rw [(h.ob j f hj).blkUp hd' hl]
    exact h.sep i j e f b hi hj hne hd hd' hb
end
theorem putObj_at {w : World} {l : Nat} {o o' : Obj} (h : w.heap[l]? = some o) : (w.putObj l o').heap[l]? = some o' := by
  have := (Array.getElem?_eq_some_iff.1 h).1
  simp [World.putObj, this]
theorem putObj_ne {w : World} {l b : Nat} {o : Obj} (h : b ≠ l) : (w.putObj l o).heap[b]? = w.heap[b]? := World.putObj_heap_other h
theorem putObj_size {w : World} {l : Nat} {o : Obj} : (w.putObj l o).heap.size = w.heap.size := by simp [World.putObj]

section
variable {P : Program} {n : Nat} {α : Nat → A}
/-- A round, out of the walks of what is assigned and of the body. -/
theorem myd_of {g0 : G} {l tp : Nat} {r : Loop} {a : A} {Hin : List En} {post : List En → A → Prop} {ρ0 : Env} (hps : r.params = #[tp]) (htp : Nat.blt tp n = true) (htm : r.tmps = (ac n ρ0 []).tmps) (hE0 : ER g0 α ρ0) (hst : r.state = .ready) (hpe : r.pending = none)
    (hg : Hin.all (fun e => !isGh e.ob) = true) (h : MCI (some l) P n r.assign (mEnd (MCI (some l) P n r.body (mEnd (fun Hs _ => post Hs (.v (.bool true)))))) Hin (ua α tp a)) : MYd P g0 l r [a] Hin post := .of fun g w vs S0 hY hS hH hr => by
  obtain ⟨v, rfl, hv⟩ : ∃ v, vs = [v] ∧ RV g a v := by
    cases hr with | cons hv h' => cases h'; exact ⟨_, rfl, hv⟩
  have hcl : noCells (g.F l) = true := by rw [hY.lp]; rfl
  have hcD : noCells (g.F r.defers) = true := by rw [hY.df]; rfl
  have hDl : r.defers ≠ l := fun e => by have := hY.df; rw [e, hY.lp] at this; cases this
  obtain ⟨gb, hgbe⟩ : ∃ gb, gb = g.thin l r.defers := ⟨_, rfl⟩
  have hgb : HR w S0 gb Hin w := hgbe ▸ hH.thin hcl hcD hg
  have h0b : g0.le gb := ⟨fun b o hb => by
    rw [hgbe]; simp only [G.thin]
    rw [if_neg (fun h => h.elim (fun h => by rw [h, hY.n0] at hb; cases hb) (fun h => by rw [h, hY.n1] at hb; cases hb))]
    exact hY.le.F b o hb, fun k x hk => by rw [hgbe]; exact hY.le.m k x hk⟩
  have hgbF : ∀ b, b ≠ l → b ≠ r.defers → gb.F b = g.F b := fun b h1 h2 => by rw [hgbe]; simp only [G.thin]; rw [if_neg (fun h => h.elim (fun h => h1 h) (fun h => h2 h))]
  have hgbl : gb.F l = none := by rw [hgbe]; simp [G.thin]
  have hgbD : gb.F r.defers = none := by rw [hgbe]; simp [G.thin]
  have hE : ER gb (ua α tp a) (upd ρ0 tp v) := (hE0.up h0b).put tp (by rw [hgbe]; exact hv.upc (g.thin_lc hcl hcD))
  have hlw : w.heap[l]? = some (.loop r) := hH.fro _ _ hY.lp
  have hDw : w.heap[r.defers]? = some (.deferred (some [])) := hH.fro _ _ hY.df
  have hlt := (Array.getElem?_eq_some_iff.1 hlw).1
  have hDt := (Array.getElem?_eq_some_iff.1 hDw).1
  have hnl : ¬ S0 l := fun hs => by have := hS l hs; rw [hY.lp] at this; cases this
  have hnD : ¬ S0 r.defers := fun hs => by have := hS _ hs; rw [hY.df] at this; cases this
  refine roundIn_of_wpIn trivial ?_
  have e0 : ({ tmps := (r.params.zip [v].toArray).foldl (fun t (p, v) => t.setIfInBounds p v) r.tmps, defers := [] } : Act) = ac n (upd ρ0 tp v) [] := by
    rw [hps, htm]
    refine Eq.trans ?_ (ac_put ρ0 [] v htp)
    first | (simp [Act.put]; done) | (simp [Act.put]; rfl)
  rw [e0]
  refine wpIn_mono (h.out w S0 gb _ w hgb hE).wp fun e a1 w1 hq => ?_
  cases e with
  | exit i => obtain ⟨_, _, _, _, _, _, _, _, _, _, hq⟩ := hq; exact hq.elim
  | ret => obtain ⟨_, _, _, _, _, _, _, _, _, _, hq⟩ := hq; exact hq.elim
  | panic c => exact hq.elim
  | goto _ => exact hq.elim
  | outgrown => exact hq.elim
  | normal =>
    obtain ⟨ds, ρ1, rfl, rfl, g1, Hs1, α1, l1, hH1, hE1, hB⟩ := hq
    have hl1 : w1.heap[l]? = some (.loop r) := (hH1.fr.block l hlt hnl).trans hlw
    have hD1 : w1.heap[r.defers]? = some (.deferred (some [])) := (hH1.fr.block _ hDt hnD).trans hDw
    have hg1l : g1.F l = none := l1.new l hlt hnl hgbl
    have hg1D : g1.F r.defers = none := l1.new _ hDt hnD hgbD
    refine ⟨_, run_beginRound hl1 hst, ?_⟩
    obtain ⟨w2, hw2⟩ : ∃ w2, w2 = w1.putObj l (.loop { r with state := .busy }) := ⟨_, rfl⟩
    rw [← hw2]
    have hsz2 : w2.heap.size = w1.heap.size := by rw [hw2, putObj_size]
    have hne2 : ∀ b, b ≠ l → w2.heap[b]? = w1.heap[b]? := fun b hb => by rw [hw2]; exact putObj_ne hb
    have hl2 : w2.heap[l]? = some (.loop { r with state := .busy }) := by rw [hw2]; exact putObj_at hl1
    have hH2 : HR w2 (fun b => S0 b ∨ w.heap.size ≤ b) g1 Hs1 w2 := hH1.turn (.refl _) (.refl _ _) (fun b o hb => by
        have hbl : b ≠ l := fun e => by rw [e, hg1l] at hb; cases hb
        rw [hne2 b hbl]; exact hH1.fro b o hb) (by omega) (fun b c T hb => hne2 b fun e => by rw [e, hl1] at hb; cases hb) (fun b hb => .inl hb) (fun _ _ _ _ h => h)
    refine wpIn_mono (hB.out w2 _ g1 ρ1 w2 hH2 hE1).wp fun e a2 w3 hq => ?_
    cases e with
    | exit i => obtain ⟨_, _, _, _, _, _, _, _, _, _, hq⟩ := hq; exact hq.elim
    | ret => obtain ⟨_, _, _, _, _, _, _, _, _, _, hq⟩ := hq; exact hq.elim
    | panic c => exact hq.elim
    | goto _ => exact hq.elim
    | outgrown => exact hq.elim
    | normal =>
      obtain ⟨ds, ρ2, rfl, rfl, g2, Hs2, α2, l2, hH3, hE2, hp⟩ := hq
      have hlt2 : l < w2.heap.size := by have := hH1.fr.size; omega
      have hDt2 : r.defers < w2.heap.size := by have := hH1.fr.size; omega
      have hnl2 : ¬ (S0 l ∨ w.heap.size ≤ l) := fun h => h.elim (fun h => hnl h) (fun h => by omega)
      have hnD2 : ¬ (S0 r.defers ∨ w.heap.size ≤ r.defers) := fun h => h.elim (fun h => hnD h) (fun h => by omega)
      have hl3 : w3.heap[l]? = some (.loop { r with state := .busy }) := (hH3.fr.block l hlt2 hnl2).trans hl2
      have hD3 : w3.heap[r.defers]? = some (.deferred (some [])) := ((hH3.fr.block _ hDt2 hnD2).trans (hne2 _ hDl)).trans hD1
      have hg2l : g2.F l = none := l2.new l hlt2 hnl2 hg1l
      have hg2D : g2.F r.defers = none := l2.new _ hDt2 hnD2 hg1D
      refine ⟨_, _, run_endRound none hl3, .bool true, rfl, ?_⟩
      have er : ({ ({ r with state := .busy } : Loop) with state := if (none : Option Code).isNone then .ready else .done, pending := none } : Loop) = r := by
        cases r; simp only at hst hpe; subst hst hpe; rfl
      rw [er]
      obtain ⟨w4, hw4⟩ : ∃ w4, w4 = w3.putObj l (.loop r) := ⟨_, rfl⟩
      rw [← hw4]
      have hsz4 : w4.heap.size = w3.heap.size := by rw [hw4, putObj_size]
      have hne4 : ∀ b, b ≠ l → w4.heap[b]? = w3.heap[b]? := fun b hb => by rw [hw4]; exact putObj_ne hb
      have hl4 : w4.heap[l]? = some (.loop r) := by rw [hw4]; exact putObj_at hl3
      obtain ⟨g3, hg3⟩ : ∃ g3 : G, g3 = ⟨fun b => if b = l then some (.loop r) else if b = r.defers then some (.deferred (some [])) else g2.F b, g2.m, g2.lim, g2.fin⟩ := ⟨_, rfl⟩
      have hF3 : ∀ b, b ≠ l → b ≠ r.defers → g3.F b = g2.F b := fun b h1 h2 => by rw [hg3]; simp only; rw [if_neg h1, if_neg h2]
      have hF3l : g3.F l = some (.loop r) := by rw [hg3]; simp
      have hF3D : g3.F r.defers = some (.deferred (some [])) := by rw [hg3]; simp [hDl]
      have l23 : g2.le g3 := ⟨fun b o hb => by
        rw [hF3 b (fun e => by rw [e, hg2l] at hb; cases hb) (fun e => by rw [e, hg2D] at hb; cases hb)]; exact hb, fun k x hk => by rw [hg3]; exact hk⟩
      have hfr : Fr S0 w w4 := by
        refine ⟨?_, ?_, ?_, ?_, fun b hb hs => ?_⟩
        · rw [hw4]; exact hH3.fr.os.trans (by rw [hw2]; exact hH1.fr.os)
        · rw [hw4]; exact hH3.fr.tape.trans (by rw [hw2]; exact hH1.fr.tape)
        · rw [hw4]; exact hH3.fr.output.trans (by rw [hw2]; exact hH1.fr.output)
        · have := hH1.fr.size; have := hH3.fr.size; omega
        · by_cases e : b = l
          · rw [e, hl4, hlw]
          · have := hH1.fr.size
            rw [hne4 b e, hH3.fr.block b (by omega) (fun h => h.elim (fun h => hs h) (fun h => by omega)), hne2 b e, hH1.fr.block b hb hs]
      refine ⟨g3, Hs2, .v (.bool true), ⟨⟨fun b o hb => ?_, fun k x hk => ?_⟩, fun b hb hs hn => ?_⟩, ?_, .v _ rfl, hp⟩
      · by_cases e : b = l
        · rw [e, hY.lp] at hb; rw [e, hF3l]; exact hb
        · by_cases e2 : b = r.defers
          · rw [e2, hY.df] at hb; rw [e2, hF3D]; exact hb
          · rw [hF3 b e e2]; rw [← hgbF b e e2] at hb; exact l2.le.F _ _ (l1.le.F _ _ hb)
      · rw [hg3]; exact l2.le.m _ _ (l1.le.m _ _ (by rw [hgbe]; exact hk))
      · have e : b ≠ l := fun e => by rw [e, hY.lp] at hn; cases hn
        have e2 : b ≠ r.defers := fun e => by rw [e, hY.df] at hn; cases hn
        have := hH1.fr.size
        rw [hF3 b e e2]
        exact l2.new b (by omega) (fun h => h.elim (fun h => hs h) (fun h => by omega)) (l1.new b hb hs (by rw [hgbF b e e2]; exact hn))
      · refine hH3.turn l23 hfr (fun b o hb => ?_) (by omega) (fun b c T hb => hne4 b fun e => by rw [e, hl3] at hb; cases hb) (fun b hb => ?_) (fun b c T hb hn => ?_)
        · by_cases e : b = l
          · rw [e, hF3l] at hb; rw [e, hl4]; exact hb
          · by_cases e2 : b = r.defers
            · rw [e2, hF3D] at hb; rw [e2, hne4 _ hDl, hD3]; exact hb
            · rw [hF3 b e e2] at hb; rw [hne4 b e]; exact hH3.fro b o hb
        · rcases hb with hb | hb
          · exact hb
          · right; have := hH1.fr.size; omega
        · rw [hF3 b (fun e => by rw [e, hl3] at hb; cases hb) (fun e => by rw [e, hD3] at hb; cases hb)]; exact hn

variable {k : MK} {Hs : List En} {ops : Array Oper} {rest : List Oper} {ty : TypeId} {pos : String} {af : Array Edge}
/-- The call of yield. -/
theorem mli_yieldG {g0 : G} {l kq q : Nat} {r : Loop} {j t t' : Nat} {b : Bool} {x : Operand} {xs : List Operand} {ls : List A} {tys : Array TypeId} {post : List En → A → Prop} (ps : List Nat) (hq : Hs[q]? = some ⟨kq, .gh (YG g0 l r)⟩) (hj : (ops[j]?).bind (·.dst) = some t') (hv : ea n α (.tmp t') = .v (.bool b))
    (hx : ea n α x = .fn (.yield l) [] []) (hxs : xs.map (ea n α) = ls) (hlen : ls.length = r.params.size) (hc : MYd P g0 l r ls (pick Hs ps) post) (hps : okP ps Hs.length = true) (hdn : Nat.blt t n = true)
    (h : ∀ Hs' a, post Hs' a → MLI none P n ops k rest (killAt ps Hs 0 ++ Hs') (ua α t a)) {args : Array Operand} (ha : args = xs.toArray := by rfl) (ho : okC x = true := by rfl) (ho' : xs.all okC = true := by rfl) :
    MLI none P n ops k (⟨some t, .call { callee := .value x, args := args, argTypes := tys }, ty, pos, af, some (j, b)⟩ :: rest) Hs α := .of fun w0 S0 g1 g ρ w hl hH hE => by
  subst ha
  have hr := hE.ev n x ho
  rw [hx] at hr
  generalize hxv : ev n ρ x = xv at hr
  obtain rfl : xv = .func (.yield l) #[] #[] := by
    cases hr with
    | fn h1 h2 => cases h1; cases h2; rfl
  have hY : YG g0 l r g := hH.ob q _ hq g (.refl g)
  have hlw : w.heap[l]? = some (.loop r) := hH.fro _ _ hY.lp
  have hev := hE.evs n xs ho'
  rw [hxs] at hev
  have hlv : (xs.map (ev n ρ)).length = ls.length := hev.length
  have hrun : (execOp (ev n ρ) ⟨some t, .call { callee := .value x, args := xs.toArray, argTypes := tys }, ty, pos, af, some (j, b)⟩).run P w = .ok (.round l r.fn ((r.params.zip (xs.map (ev n ρ)).toArray).foldl (fun t (p, v) => t.setIfInBounds p v) r.tmps) r.assign r.body) w := by
    have e : (#[] ++ (xs.toArray.map (ev n ρ)) : Array Value) = (xs.map (ev n ρ)).toArray := by simp
    simp only [execOp, resolve, hxv, Deferred.ofValue, invoke, Sem.run_bind, Sem.run_pure, Result.andThen_ok, e]
    exact run_yield hlw (by simpa [hlv] using hlen)
  refine ⟨?_⟩
  unfold wpListIn
  rw [if_pos (by simp [Region.wanted, yielded_ac hj (ea_v hE hv)])]
  refine ⟨fun _ _ => trivial, ?_⟩
  have e2 : Oper.semAt (FR none).round (ac n ρ []).eval ⟨some t, .call { callee := .value x, args := xs.toArray, argTypes := tys }, ty, pos, af, some (j, b)⟩ = execOp (ev n ρ) ⟨some t, .call { callee := .value x, args := xs.toArray, argTypes := tys }, ty, pos, af, some (j, b)⟩ := by
    rw [ac_eval]; exact Oper.semAt_none _ _
  rw [e2, hrun, Oper.uponIn_round]
  refine ⟨fun h => (by cases h), (hc.out g w _ (blks g Hs ps) hY (fun b hb => ?_) (hH.part ps (okP_spec hps).1 (okP_spec hps).2) hev).mono ?_⟩
  · obtain ⟨i, e, _, he, hd, hb⟩ := hb
    exact (hH.own i e b he hd hb).2.2
  · rintro e w' ⟨v, rfl, g', Hs', a, l', hH', hv', hp⟩
    obtain ⟨hj', hl'⟩ := hH.join ps l' hH'
    show wpListIn _ _ _ _ _ rest ((ac n ρ []).put (some t) v) w'
    rw [ac_put _ _ _ hdn]
    exact ((h Hs' a hp).out w0 S0 g1 g' _ w' (hl.trans hl') hj' ((hE.up l'.le).put t hv')).wp
end

/-! ### The statement -/
theorem enter_fn {P : Program} {gf : FuncId} (hf : FnOk P gf) {w : World} (args : Array Value) : (callFunc gf args).run P w = .ok (.enter gf args) w := run_callFunc hf args
/-- The mark of a loop. -/
def markD (D : Nat) : Deferred := { target := .collected D, args := #[] }
/-- 'for x := range g': behind it the mark is on the list of what is deferred. -/
theorem k_rangeF {P : Program} {n : Nat} {w0 : World} {S0 : Nat → Prop} {g : G} {Hs : List En} {w : World} {α : Nat → A} {ρ : Env} {x : Operand} {ps : Array Tmp} {assign body : Code} {caps : List A} {gf : FuncId} {post : List En → A → Prop} {kS : Ks}
    (hH : HR w0 S0 g Hs w) (hE : ER g α ρ) (hx : ea n α x = .fn (.func gf) [] caps) (ho : okC x = true) (hf : FnOk P gf)
    (hc : ∀ l r, r.state = .ready → r.pending = none → r.tmps = (ac n ρ []).tmps → r.params = ps → r.assign = assign → r.body = body → MF P gf (.fn (.yield l) [] [] :: caps) (Hs ++ [⟨0, .gh (YG g l r)⟩]) post)
    (hpg : ∀ Hs' a, post Hs' a → Hs'.all (fun e => !isGh e.ob) = true) (hk : ∀ D w' g' Hs' a, HR w0 S0 g' Hs' w' → GL w0 S0 g g' → ER g' α ρ → w'.heap[D]? = some (.deferred (some [])) → w0.heap.size ≤ D → g'.F D = none → post Hs' a → kS.N [markD D] ρ w') :
    KC P n (.rangeFunc x ps assign body) kS [] ρ w := by
  refine ⟨(wpIn_wide (n := 0)).1 (wpIn_rangeFunc fun fn _ => ?_)⟩
  obtain ⟨r, hr⟩ : ∃ r : Loop, r = { state := .ready, pending := none, fn, tmps := (ac n ρ []).tmps, params := ps, assign, body, defers := w.heap.size } := ⟨_, rfl⟩
  obtain ⟨w1, hw1⟩ : ∃ w1, w1 = (w.alloc (.deferred (some []))).alloc (.loop r) := ⟨_, rfl⟩
  have hrd : r.defers = w.heap.size := by rw [hr]
  have hsz1 : w1.heap.size = w.heap.size + 2 := by rw [hw1]; simp
  have hl1 : w1.heap[w.heap.size + 1]? = some (.loop r) := by
    rw [hw1]; have := heap_alloc_new (w.alloc (.deferred (some []))) (.loop r); rwa [World.size_alloc] at this
  have hext : Ext w w1 := by rw [hw1]; exact (Fr.alloc1 _ _ _).alloc _
  have hD1 : w1.heap[w.heap.size]? = some (.deferred (some [])) := by
    have h1 := heap_alloc_new w (.deferred (some []))
    have h2 : Ext (w.alloc (.deferred (some []))) w1 := by rw [hw1]; exact Fr.alloc1 _ _ _
    rw [h2.block _ (by simp) (fun h => h)]; exact h1
  have hFn : ∀ b, w.heap.size ≤ b → g.F b = none := fun b hb => by
    cases h : g.F b with
    | none => rfl
    | some o => have := (Array.getElem?_eq_some_iff.1 (hH.fro b o h)).1; omega
  obtain ⟨g1, hg1⟩ : ∃ g1 : G, g1 = ⟨fun b => if b = w.heap.size + 1 then some (.loop r) else if b = w.heap.size then some (.deferred (some [])) else g.F b, g.m, g.lim, g.fin⟩ := ⟨_, rfl⟩
  have hF1 : ∀ b, b ≠ w.heap.size + 1 → b ≠ w.heap.size → g1.F b = g.F b := fun b h1 h2 => by rw [hg1]; simp only; rw [if_neg h1, if_neg h2]
  have hF1l : g1.F (w.heap.size + 1) = some (.loop r) := by rw [hg1]; simp
  have hF1D : g1.F w.heap.size = some (.deferred (some [])) := by rw [hg1]; simp
  have l01 : g.le g1 := ⟨fun b o hb => by
    rw [hF1 b (fun e => by rw [e, hFn _ (by omega)] at hb; cases hb) (fun e => by rw [e, hFn _ (by omega)] at hb; cases hb)]; exact hb, fun k x hk => by rw [hg1]; exact hk⟩
  have hY : YG g (w.heap.size + 1) r g1 := ⟨l01, hFn _ (by omega), by rw [hrd]; exact hFn _ (by omega), hF1l, by rw [hrd]; exact hF1D⟩
  have hH1 : HR w1 (fun b => S0 b ∨ w0.heap.size ≤ b) g1 Hs w1 := hH.turn l01 (.refl _ _) (fun b o hb => by
      by_cases e : b = w.heap.size + 1
      · rw [e, hF1l] at hb; rw [e, hl1]; exact hb
      · by_cases e2 : b = w.heap.size
        · rw [e2, hF1D] at hb; rw [e2, hD1]; exact hb
        · rw [hF1 b e e2] at hb
          rw [hext.block b (Array.getElem?_eq_some_iff.1 (hH.fro b o hb)).1 (fun h => h)]; exact hH.fro b o hb) (by omega)
    (fun b c T hb => hext.block b (Array.getElem?_eq_some_iff.1 hb).1 (fun h => h)) (fun b hb => .inl hb) (fun b c T hb hn => by
      have := (Array.getElem?_eq_some_iff.1 hb).1
      rw [hF1 b (by omega) (by omega)]; exact hn)
  have hH1' : HR w1 (fun b => S0 b ∨ w0.heap.size ≤ b) g1 (Hs ++ [⟨0, .gh (YG g (w.heap.size + 1) r)⟩]) w1 := by
    refine ⟨hH1.fr, hH1.fro, fun i e he => ?_, fun i e b he hd hb => ?_, fun i j e f b he hf hne hd hd' hb => ?_⟩
    · rcases get_snoc he with he | ⟨_, rfl⟩
      · exact hH1.ob i e he
      · exact fun g' l' => hY.up l'
    · rcases get_snoc he with he | ⟨_, rfl⟩
      · exact hH1.own i e b he hd hb
      · exact hd.elim
    · rcases get_snoc he with he | ⟨_, rfl⟩
      · rcases get_snoc hf with hf | ⟨_, rfl⟩
        · exact hH1.sep i j e f b he hf hne hd hd' hb
        · exact hd'.elim
      · exact hd.elim
  have hrv := hE.ev n x ho
  rw [hx] at hrv
  generalize hxv : ev n ρ x = xv at hrv
  obtain ⟨us, rfl, hus⟩ : ∃ us : List Value, xv = .func (.func gf) #[] us.toArray ∧ RVs g caps us := by
    cases hrv with
    | fn h1 h2 => cases h1; exact ⟨_, rfl, h2⟩
  have hcall := (hc (w.heap.size + 1) r (by rw [hr]) (by rw [hr]) (by rw [hr]) (by rw [hr]) (by rw [hr]) (by rw [hr])).out g1 w1 (.func (.yield (w.heap.size + 1)) #[] #[] :: us) _ hH1' (.cons (.fn (vs := []) (us := []) .nil .nil) (hus.up l01))
  refine ⟨w.heap.size + 1, [markD w.heap.size], w1, { target := .fn (.func gf) us.toArray, args := #[.func (.yield (w.heap.size + 1)) #[] #[]] }, w1, gf, (.func (.yield (w.heap.size + 1)) #[] #[] :: us : List Value).toArray, w1, ?_, ?_, fun _ _ => trivial, ?_, fun h => (by cases h), ?_⟩
  · rw [hw1, hr]; exact run_enterLoop_outer _ _ _ _ _
  · have e : (ac n ρ []).eval x = .func (.func gf) #[] us.toArray := by rw [ac_eval]; exact hxv
    simp only [resolve, e, Deferred.ofValue, Sem.run_pure]
    simp [Act.eval]
  · simp only [invoke]
    have := enter_fn hf (w := w1) (#[.func (.yield (w.heap.size + 1)) #[] #[]] ++ us.toArray)
    have e : (#[.func (.yield (w.heap.size + 1)) #[] #[]] ++ us.toArray : Array Value) = (.func (.yield (w.heap.size + 1)) #[] #[] :: us : List Value).toArray := by simp
    rw [e] at this ⊢; exact this
  · refine (calls_in hcall).mono ?_
    rintro e w3 ⟨v, rfl, g3, Hs3, a, l3, hH3, _, hp⟩
    have hl3 : w3.heap[w.heap.size + 1]? = some (.loop r) := hH3.fro _ _ (l3.le.F _ _ hF1l)
    have hD3 : w3.heap[w.heap.size]? = some (.deferred (some [])) := hH3.fro _ _ (l3.le.F _ _ hF1D)
    refine ⟨_, _, run_endLoop hl3 (by rw [hr]; simp), ?_⟩
    have hpe : r.pending = none := by rw [hr]
    rw [hpe]
    obtain ⟨w4, hw4⟩ : ∃ w4, w4 = w3.putObj (w.heap.size + 1) (.loop { r with state := .exhausted, pending := none }) := ⟨_, rfl⟩
    rw [← hw4]
    have hne4 : ∀ b, b ≠ w.heap.size + 1 → w4.heap[b]? = w3.heap[b]? := fun b hb => by rw [hw4]; exact putObj_ne hb
    have hsz4 : w4.heap.size = w3.heap.size := by rw [hw4, putObj_size]
    have hcl : noCells (g3.F (w.heap.size + 1)) = true := by rw [l3.le.F _ _ hF1l]; rfl
    have hcD : noCells (g3.F w.heap.size) = true := by rw [l3.le.F _ _ hF1D]; rfl
    have hfr3 := hH3.fr
    have hlc : ∀ b, b < w.heap.size → (g3.thin (w.heap.size + 1) w.heap.size).F b = g3.F b := fun b hb => by
      simp only [G.thin]; rw [if_neg (fun h => h.elim (fun h => by omega) (fun h => by omega))]
    have hl : g.le (g3.thin (w.heap.size + 1) w.heap.size) := ⟨fun b o hb => by
      have := (Array.getElem?_eq_some_iff.1 (hH.fro b o hb)).1
      rw [hlc b this]; exact l3.le.F _ _ (l01.F _ _ hb), fun k x hk => l3.le.m _ _ (l01.m _ _ hk)⟩
    refine ⟨_, ρ, rfl, hk w.heap.size w4 (g3.thin (w.heap.size + 1) w.heap.size) Hs3 a ?_ ⟨hl, fun b hb hs hn => ?_⟩ (hE.up hl) ?_ hH.fr.size (by simp [G.thin]) hp⟩
    · refine (hH3.thin hcl hcD (hpg _ _ hp)).turn (.refl _) ?_ (fun b o hb => ?_) (by omega) (fun b c T hb => hne4 b fun e => by rw [e, hl3] at hb; cases hb) (fun b hb => ?_) (fun _ _ _ _ h => h)
      · have hfr4 : Fr (fun b => b = w.heap.size + 1) w3 w4 := ⟨by rw [hw4]; rfl, by rw [hw4]; rfl, by rw [hw4]; rfl, by omega, fun b _ hb => hne4 b hb⟩
        have := hext.size
        have := hH.fr.size
        exact ((hH.fr.trans hext.fr).trans' hfr3 (fun b hb hs => hs.elim (fun h => h) (fun h => by omega))).trans' hfr4 (fun b hb hs => by omega)
      · have hb' : g3.F b = some o := by
          simp only [G.thin] at hb
          split at hb
          · cases hb
          · exact hb
        rw [hne4 b (fun e => by rw [e] at hb; simp [G.thin] at hb)]; exact hH3.fro b o hb'
      · have := hext.size
        have := hH.fr.size
        rcases hb with hb | hb
        · exact hb
        · right; omega
    · have := hH.fr.size
      rw [hlc b (by omega)]
      exact l3.new b (by omega) (fun h => h.elim hs (fun h => by omega)) (by rw [hF1 b (by omega) (by omega)]; exact hn)
    · rw [hne4 _ (by omega)]; exact hD3
/-! ### A function that has such a loop -/
theorem zi_end {ro : Option Nat} {P : Program} {n : Nat} {c : Code} {k : MK} {Hs : List En} {α : Nat → A} (h : MCI ro P n c k Hs α) : (mEnd (MCI ro P n c k)).N Hs α := h
theorem k_of_mc {P : Program} {n : Nat} {c : Code} {w0 : World} {S0 : Nat → Prop} {g : G} {Hs : List En} {α : Nat → A} {ρ : Env} {w : World} {kS : Ks} {q : List En → (Nat → A) → Prop} (h : MC P n c (mEnd q) Hs α) (hH : HR w0 S0 g Hs w) (hE : ER g α ρ)
    (hk : ∀ g' Hs' α' ρ' w', GL w0 S0 g g' → HR w0 S0 g' Hs' w' → ER g' α' ρ' → q Hs' α' → kS.N [] ρ' w') : KC P n c kS [] ρ w := by
  refine k_mono (h.out w0 S0 g ρ w hH hE) ?_ ?_ ?_ (fun _ _ _ _ h => h.elim)
  · rintro ds ρ' w' ⟨rfl, g', Hs', α', l, hH', hE', hq⟩
    exact hk g' Hs' α' ρ' w' l hH' hE' hq
  · rintro i ds ρ' w' ⟨rfl, g', Hs', α', l, hH', hE', hq⟩; exact hq.elim
  · rintro ds ρ' w' ⟨rfl, g', Hs', α', l, hH', hE', hq⟩; exact hq.elim
def kFnM (P : Program) (fn : Func) (n : Nat) (R' : Ending → World → Prop) : Ks where
  N := fun ds ρ w => LeavesInM (FR none) 0 P fn (ac n ρ ds).tmps R' ds .returning w
  X := fun _ _ _ _ => False
  R := fun ds ρ w => LeavesInM (FR none) 0 P fn (ac n ρ ds).tmps R' ds .returning w
  E := fun _ _ _ _ => False
theorem k_enterM {P : Program} {n : Nat} {w : World} {f : FuncId} {fn : Func} {c : Code} {args : Array Value} {R' : Ending → World → Prop} (hf : P.funcs[f]? = some fn) (hb : fn.body = some c) (hn : fn.ntmps = n)
    (ha : Nat.ble args.size n = true) (h : KC P n c (kFnM P fn n R') [] (fun t => args.getD t undef) w) : Calls P f args w R' := by
  refine (callsIn_wide (n := 0)).1 (callsIn_of_wp_marks hf hb trivial ?_ rfl)
  rw [hn, entry_eq n args (Nat.le_of_ble_eq_true ha)]
  refine wpIn_mono ((wpIn_wide (n := 0)).2 h.wp) fun e a w hq => ?_
  cases e with
  | normal => obtain ⟨ds, ρ, rfl, h⟩ := hq; exact h
  | exit i => obtain ⟨_, _, _, h⟩ := hq; exact h.elim
  | ret => obtain ⟨ds, ρ, rfl, h⟩ := hq; exact h
  | panic c => exact hq.elim
  | goto _ => exact hq.elim
  | outgrown => exact hq.elim
theorem RVs.env {g : G} {args : List A} {vs : List Value} (hr : RVs g args vs) : ER g (fun t => args.getD t .dead) (fun t => vs.toArray.getD t undef) := fun t => by
  have e : vs.toArray.getD t undef = vs.getD t undef := by
    simp only [Array.getD, List.getD, List.size_toArray]
    split
    · rename_i h; simp [h]
    · rename_i h; simp [List.getElem?_eq_none (Nat.le_of_not_lt h)]
  show RV g (args.getD t .dead) (vs.toArray.getD t undef)
  rw [e]; exact hr.getD t
/-- The end of such a function: the mark is taken off, the block is shut. -/
theorem leave_mark {P : Program} {fn : Func} {n D : Nat} {ρ : Env} {w' w0 : World} {S0 : Nat → Prop} {g g' : G} {Hs' : List En} {v : Value} {a : A} {post : List En → A → Prop} (hH : HR w0 S0 g' Hs' w') (l : GL w0 S0 g g') (hD : w'.heap[D]? = some (.deferred (some []))) (hle : w0.heap.size ≤ D) (hF : g'.F D = none)
    (hv : (results fn (ac n ρ [markD D]).tmps).run P (w'.putObj D (.deferred none)) = .ok v (w'.putObj D (.deferred none))) (hr : RV g' a v) (hp : post Hs' a) :
    LeavesInM (FR none) 0 P fn (ac n ρ [markD D]).tmps (fun e w' => ∃ v, e = .returned v ∧ ∃ g' Hs' a, GL w0 S0 g g' ∧ HR w0 S0 g' Hs' w' ∧ RV g' a v ∧ post Hs' a) [markD D] .returning w' := by
  refine ⟨by simp, .inl ⟨D, _, rfl, run_takeDeferred hD, v, hv, v, rfl, g', Hs', a, l, ?_, hr, hp⟩⟩
  have hne : ∀ b, b ≠ D → (w'.putObj D (.deferred none)).heap[b]? = w'.heap[b]? := fun b hb => putObj_ne hb
  have hfr4 : Fr (fun b => b = D) w' (w'.putObj D (.deferred none)) := ⟨rfl, rfl, rfl, by rw [putObj_size]; exact Nat.le_refl _, fun b _ hb => hne b hb⟩
  exact hH.turn (.refl _) (hH.fr.trans' hfr4 (fun b hb hs => by omega)) (fun b o hb => by
    rw [hne b (fun e => by rw [e, hF] at hb; cases hb)]; exact hH.fro b o hb) (by rw [putObj_size]; exact Nat.le_refl _) (fun b c T hb => hne b fun e => by rw [e, hD] at hb; cases hb) (fun b hb => hb) (fun _ _ _ _ h => h)
/-- Some of the objects. -/
theorem HR.pick {w0 : World} {S0 : Nat → Prop} {g : G} {Hs : List En} {w : World} (hH : HR w0 S0 g Hs w) (f : List Nat) (h1 : f.Nodup) (h2 : ∀ q ∈ f, q < Hs.length) : HR w0 S0 g (K.pick Hs f) w := by
  have hp := hH.part f h1 h2
  refine ⟨hH.fr, hp.fro, hp.ob, fun i e b he hd hb => ?_, hp.sep⟩
  have := hp.own i e b he hd hb
  refine ⟨?_, this.2⟩
  rcases this.1 with ⟨j, e', _, hj, hd', hb'⟩ | h4
  · exact (hH.own j e' b hj hd' hb').1
  · have := this.2; exact absurd h4 (by omega)
theorem setOb_last : ∀ (l : List En) (e : En) (ob : Ob), (setOb (l ++ [e]) l.length ob).take l.length = l
  | [], _, _ => rfl
  | x :: l, e, ob => by simp only [List.cons_append, List.length_cons, setOb, List.take_succ_cons, setOb_last l e ob]
/-- A new row that is written no more from here on. -/
theorem mo_frz {P : Program} {n : Nat} {W : List Nat} {o : Oper} {Hs : List En} {α : Nat → A} {next : List En → (Nat → A) → Prop} (t : Nat) {E : TypeId} {s : Nat} (h : MO P n W o Hs α (fun Hs' α' => ∃ k xs, Hs' = Hs ++ [⟨k, .row E s xs⟩] ∧ α' t = .osl k ∧ next Hs (ua α' t (.sl xs)))) : MO P n W o Hs α next := .of fun w0 S0 g ρ w k hH hE =>
  (h.out w0 S0 g ρ w k hH hE).mono (by
    rintro ds ρ' w' ⟨rfl, g', _, α', l, hH', hE', ⟨k, xs, rfl, ht, hq⟩, hf, _⟩
    obtain ⟨g2, l2, h2, e2⟩ := sh_frz t (q := Hs.length) (k := k) (s := s) (E := E) (xs := xs) (by simp) ht w0 S0 g' w' ρ' hH' hE'
    have h3 := h2.take Hs.length
    rw [setOb_last] at h3
    exact ⟨rfl, g2, Hs, _, l.trans l2, h3, e2, hq, hf, fun i e h _ => h⟩)
end Go.Proofs.Ytlklapledogdcaa.K
