/- Abstract states of a walk: the relation to frames and worlds, the rules of code. No condition. -/
import Derived.Test.YtlklapledogdcaaM0
namespace Go.Proofs.Ytlklapledogdcaa.K
open Go

/-- What lies at an object. -/
inductive Ob where
  | dead
  | box (T : TypeId) (a : A)
  | row (E : TypeId) (s : Nat) (xs : List A)
  | fz (T : TypeId) (a : A)
  | gh (p : G → Prop)
def Ob.live : Ob → Prop
  | .dead => False
  | .fz .. => False
  | .gh .. => False
  | _ => True
structure En where
  k : Nat
  ob : Ob

def blkV : Value → Option Nat
  | .pointer (some a) => some a.block
  | v => v.ownBlock
def G.blk (g : G) (k : Nat) : Option Nat := (g.m k).bind blkV

/-- Object k lies in w. -/
def OR (g : G) (w : World) (k : Nat) : Ob → Prop
  | .dead => True
  | .box T a => ∃ b cs, g.m k = some (.pointer (some ⟨b, 0, none⟩)) ∧ Bx w b T cs ∧ RC g a cs
  | .row E s xs => ∃ v cs, g.m k = some v ∧ w.ownsRow 0 E s v xs.length cs ∧ RL g xs cs ∧ ∀ x ∈ xs, sz x = s
  | .fz T a => ∃ b cs, g.m k = some (.pointer (some ⟨b, 0, none⟩)) ∧ g.F b = some (.cells cs T (0, 0)) ∧ RC g a cs.toList
  | .gh p => ∀ g', g.le g' → p g'

structure HR (w0 : World) (S0 : Nat → Prop) (g : G) (Hs : List En) (w : World) : Prop where
  fr : Fr S0 w0 w
  fro : g.fro w
  ob : ∀ (i : Nat) (e : En), Hs[i]? = some e → OR g w e.k e.ob
  own : ∀ (i : Nat) (e : En) (b : Nat), Hs[i]? = some e → e.ob.live → g.blk e.k = some b → (S0 b ∨ w0.heap.size ≤ b) ∧ b < w.heap.size ∧ g.F b = none
  sep : ∀ (i j : Nat) (e f : En) (b : Nat), Hs[i]? = some e → Hs[j]? = some f → i ≠ j → e.ob.live → f.ob.live → g.blk e.k = some b → g.blk f.k ≠ some b

def ER (g : G) (α : Nat → A) (ρ : Env) : Prop := ∀ t, RV g (α t) (ρ t)

def ua (α : Nat → A) (d : Nat) (a : A) : Nat → A := fun t => bif Nat.beq t d then a else α t
theorem ua_same (α : Nat → A) (d : Nat) (a : A) : ua α d a d = a := by simp [ua]
theorem ua_ne (α : Nat → A) {d t : Nat} (a : A) (h : t ≠ d) : ua α d a t = α t := by
  have : Nat.beq t d = false := by
    cases e : Nat.beq t d
    · rfl
    · exact absurd (Nat.eq_of_beq_eq_true e) h
  simp [ua, this]
theorem ua_self (α : Nat → A) {d : Nat} {a : A} (h : α d = a) : ua α d a = α := by
  funext t
  by_cases e : t = d
  · subst e; rw [ua_same, h]
  · rw [ua_ne _ _ e]
theorem ER.up {g g' : G} {α : Nat → A} {ρ : Env} (h : ER g α ρ) (l : g.le g') : ER g' α ρ := fun t => (h t).up l
theorem ER.put {g : G} {α : Nat → A} {ρ : Env} (h : ER g α ρ) (d : Nat) {a : A} {v : Value} (hv : RV g a v) : ER g (ua α d a) (upd ρ d v) := fun t => by
  by_cases e : t = d
  · subst e; rw [ua_same, upd_same]; exact hv
  · rw [ua_ne _ _ e, upd_ne _ _ e]; exact h t

/-- What a constant reads as. -/
def cA : Value → A
  | .slice none _ _ => .nl
  | .slice (some _) _ _ => .dead
  | .agg _ => .dead
  | .tuple _ => .dead
  | .func f vs us => if vs.isEmpty && us.isEmpty then .fn f [] [] else .dead
  | v => .v v
def ea (n : Nat) (α : Nat → A) : Operand → A
  | .tmp t => bif Nat.blt t n then α t else .dead
  | .const v => cA v
  | .global _ => .dead
  | .func f => .fn (.func f) [] []
theorem cA_RV (g : G) (v : Value) (h : v ≠ .slice none 0 0 → ∀ l c, v ≠ .slice none l c) : RV g (cA v) v := by
  cases v with
  | slice a l c =>
    cases a with
    | none =>
      by_cases e : Value.slice none l c = .slice none 0 0
      · simp only [cA]; rw [e]; exact .nl
      · exact absurd rfl (h e l c)
    | some a => exact .dead _
  | agg => exact .dead _
  | tuple => exact .dead _
  | func f vs us =>
    simp only [cA]
    split
    · rename_i he
      simp at he
      obtain ⟨rfl, rfl⟩ := he
      exact .fn (vs := []) (us := []) .nil .nil
    · exact .dead _
  | _ => exact .v _ rfl
/-- A nil slice among the constants has no places. -/
def okC : Operand → Bool
  | .const (.slice none l c) => l == 0 && c == 0
  | _ => true
theorem ER.ev {g : G} {α : Nat → A} {ρ : Env} (h : ER g α ρ) (n : Nat) (o : Operand) (ho : okC o = true) : RV g (ea n α o) (ev n ρ o) := by
  cases o with
  | tmp t =>
    simp only [ea, K.ev]
    cases Nat.blt t n
    · exact .dead _
    · exact h t
  | const v =>
    refine cA_RV g v fun hne l c e => ?_
    subst e
    simp only [okC, Bool.and_eq_true, beq_iff_eq] at ho
    exact hne (by rw [ho.1, ho.2])
  | global g => exact .dead _
  | func f => exact .fn (vs := []) (us := []) .nil .nil

theorem En.eta {e : En} {k : Nat} {o : Ob} (h : e = ⟨k, o⟩) : e.k = k ∧ e.ob = o := by subst h; exact ⟨rfl, rfl⟩

/-! ### What worlds and objects do -/
section
variable {w0 : World} {S0 : Nat → Prop} {g : G} {Hs : List En} {w w' : World}

theorem OR.block {k : Nat} {ob : Ob} (h : OR g w k ob) (hd : ob.live) {b : Nat} (hb : g.blk k = some b) : ∃ c T, w.heap[b]? = some (.cells c T (0, 0)) := by
  cases ob with
  | dead => exact absurd hd (fun h => h)
  | fz T a => exact absurd hd (fun h => h)
  | gh p => exact absurd hd (fun h => h)
  | box T a =>
    obtain ⟨b', cs, hm, hx, _⟩ := h
    simp only [G.blk, hm, Option.bind_some, blkV, Option.some.injEq] at hb
    subst hb; exact ⟨_, _, hx⟩
  | row E s xs =>
    obtain ⟨v, cs, hm, ho, _⟩ := h
    simp only [G.blk, hm, Option.bind_some] at hb
    rcases ho.2 with ⟨rfl, _⟩ | ⟨q, cap, cur, rfl, _, hh, _⟩
    · simp [blkV, Value.ownBlock] at hb
    · simp only [blkV, Value.ownBlock, Option.some.injEq] at hb
      subst hb; exact ⟨_, _, hh⟩
/-- An object that is not written stays. -/
theorem OR.keep {S : Nat → Prop} {k : Nat} {ob : Ob} (h : OR g w k ob) (hf : Fr S w w') (hn : ob.live → ∀ b, g.blk k = some b → ¬ S b) : OR g w' k ob := by
  cases ob with
  | dead => trivial
  | fz T a => exact h
  | gh p => exact h
  | box T a =>
    obtain ⟨b', cs, hm, hx, hr⟩ := h
    exact ⟨b', cs, hm, hx.keep hf (hn trivial _ (by simp [G.blk, hm, blkV])), hr⟩
  | row E s xs =>
    obtain ⟨v, cs, hm, ho, hr⟩ := h
    refine ⟨v, cs, hm, ⟨ho.1, ?_⟩, hr⟩
    rcases ho.2 with h | ⟨q, cap, cur, rfl, h1, h2, h3⟩
    · exact .inl h
    · exact .inr ⟨q, cap, cur, rfl, h1, by rw [hf.block q (Array.getElem?_eq_some_iff.1 h2).1 (hn trivial q (by simp [G.blk, hm, blkV, Value.ownBlock]))]; exact h2, h3⟩
theorem OR.up {g' : G} {k : Nat} {ob : Ob} (h : OR g w k ob) (l : g.le g') : OR g' w k ob := by
  cases ob with
  | dead => trivial
  | fz T a => obtain ⟨b', cs, hm, hx, hr⟩ := h; exact ⟨b', cs, l.m _ _ hm, l.F _ _ hx, hr.up l⟩
  | gh p => exact fun g2 l2 => h g2 (l.trans l2)
  | box T a => obtain ⟨b', cs, hm, hx, hr⟩ := h; exact ⟨b', cs, l.m _ _ hm, hx, hr.up l⟩
  | row E s xs => obtain ⟨v, cs, hm, ho, hr, hs⟩ := h; exact ⟨v, cs, l.m _ _ hm, ho, hr.up l, hs⟩
theorem OR.blkUp {g' : G} {k : Nat} {ob : Ob} (h : OR g w k ob) (hd : ob.live) (l : g.le g') : g'.blk k = g.blk k := by
  cases ob with
  | dead => exact absurd hd (fun h => h)
  | fz T a => exact absurd hd (fun h => h)
  | gh p => exact absurd hd (fun h => h)
  | box T a => obtain ⟨b', cs, hm, _⟩ := h; simp [G.blk, hm, l.m _ _ hm]
  | row E s xs => obtain ⟨v, cs, hm, _⟩ := h; simp [G.blk, hm, l.m _ _ hm]

theorem G.fro.keep {S : Nat → Prop} (h : g.fro w) (hf : Fr S w w') (hn : ∀ b, S b → g.F b = none) : g.fro w' := fun b o hb => by
  have h1 := h b o hb
  rw [hf.block b (Array.getElem?_eq_some_iff.1 h1).1 (fun hs => by rw [hn b hs] at hb; cases hb)]
  exact h1

/-- New blocks alone. -/
theorem HR.ext (h : HR w0 S0 g Hs w) (hf : Ext w w') : HR w0 S0 g Hs w' :=
  ⟨h.fr.trans hf.fr, h.fro.keep hf (fun _ h => h.elim), fun i e he => (h.ob i e he).keep hf (fun _ _ _ h => h),
    fun i e b he hd hb => ⟨(h.own i e b he hd hb).1, Nat.lt_of_lt_of_le (h.own i e b he hd hb).2.1 hf.size, (h.own i e b he hd hb).2.2⟩, h.sep⟩
theorem HR.drew (h : HR w0 S0 g Hs w) : HR w0 S0 g Hs w.drew := h.ext (Fr.drew1 _ _)

def setOb : List En → Nat → Ob → List En
  | [], _, _ => []
  | e :: es, 0, ob => ⟨e.k, ob⟩ :: es
  | e :: es, i + 1, ob => e :: setOb es i ob
theorem setOb_get : ∀ (Hs : List En) (i : Nat) (ob : Ob) (j : Nat) (f : En), (setOb Hs i ob)[j]? = some f → (j = i ∧ ∃ e, Hs[i]? = some e ∧ f = ⟨e.k, ob⟩) ∨ (j ≠ i ∧ Hs[j]? = some f)
  | [], _, _, _, _, h => by simp [setOb] at h
  | e :: es, 0, ob, 0, f, h => by simp [setOb] at h; exact .inl ⟨rfl, e, rfl, h.symm⟩
  | e :: es, 0, ob, j + 1, f, h => by simp [setOb] at h; exact .inr ⟨by simp, by simpa using h⟩
  | e :: es, i + 1, ob, 0, f, h => by simp [setOb] at h; exact .inr ⟨by simp, by simpa using h⟩
  | e :: es, i + 1, ob, j + 1, f, h => by
    simp [setOb] at h
    rcases setOb_get es i ob j f h with ⟨h1, h2⟩ | ⟨h1, h2⟩
    · exact .inl ⟨by omega, by simpa using h2⟩
    · exact .inr ⟨by omega, by simpa using h2⟩

/-- One object is written. -/
theorem HR.set (h : HR w0 S0 g Hs w) {i : Nat} {k : Nat} {ob ob' : Ob} (hi : Hs[i]? = some ⟨k, ob⟩) (hd : ob.live) (hf : Fr (fun b => g.blk k = some b) w w') (ho : OR g w' k ob') : HR w0 S0 g (setOb Hs i ob') w' := by
  refine ⟨h.fr.trans' hf (fun b hb hk => ?_), h.fro.keep hf (fun b hb => (h.own i _ b hi hd hb).2.2), fun j f hj => ?_, fun j f b hj hd' hb => ?_, fun j j' f f' b hj hj' hne hd1 hd2 hb => ?_⟩
  · rcases (h.own i _ b hi hd hk).1 with h1 | h1
    · exact h1
    · omega
  · rcases setOb_get _ _ _ _ _ hj with ⟨rfl, e, he, rfl⟩ | ⟨hji, hj⟩
    · rw [hi] at he; cases he; exact ho
    · exact (h.ob j f hj).keep hf (fun hdf b hb hk => h.sep j i f _ b hj hi hji hdf hd hb hk)
  · rcases setOb_get _ _ _ _ _ hj with ⟨rfl, e, he, rfl⟩ | ⟨hji, hj⟩
    · rw [hi] at he; cases he
      have := h.own j _ b hi hd hb
      exact ⟨this.1, Nat.lt_of_lt_of_le this.2.1 hf.size, this.2.2⟩
    · have := h.own j f b hj hd' hb
      exact ⟨this.1, Nat.lt_of_lt_of_le this.2.1 hf.size, this.2.2⟩
  · rcases setOb_get _ _ _ _ _ hj with ⟨e1, e, he, rfl⟩ | ⟨hji, hjx⟩
    · rw [hi] at he; cases he
      rcases setOb_get _ _ _ _ _ hj' with ⟨e2, e, he, rfl⟩ | ⟨hji', hjx'⟩
      · exact absurd (e1.trans e2.symm) hne
      · exact h.sep i j' _ f' b hi hjx' (fun e => hji' e.symm) hd hd2 hb
    · rcases setOb_get _ _ _ _ _ hj' with ⟨e2, e, he, rfl⟩ | ⟨hji', hjx'⟩
      · rw [hi] at he; cases he; exact h.sep j i f ⟨k, ob⟩ b hjx hi hji hd1 hd hb
      · exact h.sep j j' f f' b hjx hjx' hne hd1 hd2 hb
theorem HR.up (h : HR w0 S0 g Hs w) {g' : G} (l : g.le g') (hF : g'.fro w) (hn : ∀ (i : Nat) (e : En) (b : Nat), Hs[i]? = some e → e.ob.live → g.blk e.k = some b → g'.F b = none) : HR w0 S0 g' Hs w :=
  ⟨h.fr, hF, fun i e he => (h.ob i e he).up l,
    fun i e b he hd hb => by rw [(h.ob i e he).blkUp hd l] at hb; exact ⟨(h.own i e b he hd hb).1, (h.own i e b he hd hb).2.1, hn i e b he hd hb⟩,
    fun i j e f b he hf hne hd hd' hb => by rw [(h.ob i e he).blkUp hd l] at hb; rw [(h.ob j f hf).blkUp hd' l]; exact h.sep i j e f b he hf hne hd hd' hb⟩

/-- A key of its own for a new object. -/
def G.push (g : G) (v : Value) : G := ⟨g.F, fun k => if k = g.lim then some v else g.m k, g.lim + 1, fun k hk => by rw [if_neg (by omega)]; exact g.fin k (by omega)⟩
theorem G.push_le (g : G) (v : Value) : g.le (g.push v) := ⟨fun _ _ h => h, fun k x h => by
  simp only [G.push]; rw [if_neg (fun e => by rw [e, g.fin _ (Nat.le_refl _)] at h; cases h)]; exact h⟩
theorem G.push_at (g : G) (v : Value) : (g.push v).m g.lim = some v := by simp [G.push]
theorem G.push_blk (g : G) (v : Value) : (g.push v).blk g.lim = blkV v := by simp [G.blk, G.push_at]
theorem get_snoc {X : Type} {l : List X} {x y : X} {i : Nat} (h : (l ++ [x])[i]? = some y) : l[i]? = some y ∨ (i = l.length ∧ y = x) := by
  rcases Nat.lt_or_ge i l.length with h1 | h1
  · rw [List.getElem?_append_left h1] at h; exact .inl h
  · rw [List.getElem?_append_right h1] at h
    have h2 : i - l.length = 0 := by
      rcases Nat.eq_zero_or_pos (i - l.length) with h3 | h3
      · exact h3
      · rw [List.getElem?_eq_none (by simp; omega)] at h; cases h
    rw [h2] at h; simp at h; exact .inr ⟨by omega, h.symm⟩
/-- A new object behind the others. -/
theorem HR.push (h : HR w0 S0 g Hs w) {v : Value} {ob : Ob} (hf : Ext w w') (ho : OR (g.push v) w' g.lim ob) (hb : ∀ b, blkV v = some b → w.heap.size ≤ b ∧ b < w'.heap.size) : HR w0 S0 (g.push v) (Hs ++ [⟨g.lim, ob⟩]) w' := by
  have h1 : HR w0 S0 (g.push v) Hs w' := (h.ext hf).up (g.push_le v) (h.ext hf).fro (fun i e b he hd hb => (h.own i e b he hd hb).2.2)
  have hold : ∀ (i : Nat) (e : En) (b : Nat), Hs[i]? = some e → e.ob.live → (g.push v).blk e.k = some b → b < w.heap.size := fun i e b he hd hb => by
    rw [(h.ob i e he).blkUp hd (g.push_le v)] at hb; exact (h.own i e b he hd hb).2.1
  refine ⟨h1.fr, h1.fro, fun i e he => ?_, fun i e b he hd hk => ?_, fun i j e f b he hf' hne hd hd' hk => ?_⟩
  · rcases get_snoc he with he | ⟨rfl, rfl⟩
    · exact h1.ob i e he
    · exact ho
  · rcases get_snoc he with he | ⟨rfl, rfl⟩
    · exact h1.own i e b he hd hk
    · rw [G.push_blk] at hk
      have := hb b hk
      refine ⟨.inr (Nat.le_trans h.fr.size this.1), this.2, ?_⟩
      cases hF : (g.push v).F b with
      | none => rfl
      | some o => have := Array.getElem?_eq_some_iff.1 (h.fro b o hF); have := this.1; omega
  · rcases get_snoc he with he | ⟨rfl, rfl⟩
    · rcases get_snoc hf' with hf' | ⟨rfl, rfl⟩
      · exact h1.sep i j e f b he hf' hne hd hd' hk
      · rw [G.push_blk]; intro h2
        have := hb b h2
        have := hold i e b he hd hk
        omega
    · rw [G.push_blk] at hk
      rcases get_snoc hf' with hf' | ⟨rfl, rfl⟩
      · intro h2
        have := hb b hk
        have := hold j f b hf' hd' h2
        omega
      · exact absurd rfl hne
/-- Fewer objects, or dead ones. -/
theorem HR.sub (h : HR w0 S0 g Hs w) {Hs' : List En} (f : Nat → Nat) (hinj : ∀ i j, f i = f j → i = j) (hf : ∀ (i : Nat) (e : En), Hs'[i]? = some e → e.ob = .dead ∨ Hs[f i]? = some e) : HR w0 S0 g Hs' w := by
  refine ⟨h.fr, h.fro, fun i e he => ?_, fun i e b he hd hb => ?_, fun i j e e' b he he' hne hd hd' hb => ?_⟩
  · rcases hf i e he with h1 | h1
    · rw [h1]; trivial
    · exact h.ob _ e h1
  · rcases hf i e he with h1 | h1
    · exact absurd hd (by rw [h1]; exact fun h => h)
    · exact h.own _ e b h1 hd hb
  · rcases hf i e he with h1 | h1
    · exact absurd hd (by rw [h1]; exact fun h => h)
    · rcases hf j e' he' with h2 | h2
      · exact absurd hd' (by rw [h2]; exact fun h => h)
      · exact h.sep _ _ e e' b h1 h2 (fun h3 => hne (hinj _ _ h3)) hd hd' hb
theorem HR.take (h : HR w0 S0 g Hs w) (n : Nat) : HR w0 S0 g (Hs.take n) w := h.sub id (fun _ _ h => h) (fun i e he => .inr (by
  rw [List.getElem?_take] at he
  split at he
  · exact he
  · cases he))
end

/-! ### Rules of code -/
/-- More is known, of new or owned memory alone. -/
structure GL (w0 : World) (S0 : Nat → Prop) (g h : G) : Prop where
  le : g.le h
  new : ∀ b, b < w0.heap.size → ¬ S0 b → g.F b = none → h.F b = none
theorem GL.refl (w0 : World) (S0 : Nat → Prop) (g : G) : GL w0 S0 g g := ⟨.refl g, fun _ _ _ h => h⟩
theorem GL.trans {w0 : World} {S0 : Nat → Prop} {a b c : G} (h : GL w0 S0 a b) (k : GL w0 S0 b c) : GL w0 S0 a c := ⟨h.le.trans k.le, fun x h1 h2 h3 => k.new x h1 h2 (h.new x h1 h2 h3)⟩
structure MK where
  N : List En → (Nat → A) → Prop
  X : Nat → List En → (Nat → A) → Prop
  R : List En → (Nat → A) → Prop

def lft (w0 : World) (S0 : Nat → Prop) (g : G) (q : List En → (Nat → A) → Prop) (ds : List Deferred) (ρ : Env) (w : World) : Prop :=
  ds = [] ∧ ∃ g' Hs α, GL w0 S0 g g' ∧ HR w0 S0 g' Hs w ∧ ER g' α ρ ∧ q Hs α
def lftK (w0 : World) (S0 : Nat → Prop) (g : G) (k : MK) : Ks := { N := lft w0 S0 g k.N, X := fun i => lft w0 S0 g (k.X i), R := lft w0 S0 g k.R, E := fun _ _ _ _ => False }

/-- Whatever frame and world are so, the code leads to k. -/
structure MC (P : Program) (n : Nat) (c : Code) (k : MK) (Hs : List En) (α : Nat → A) : Prop where
  of ::
  out : ∀ w0 S0 g ρ w, HR w0 S0 g Hs w → ER g α ρ → KC P n c (lftK w0 S0 g k) [] ρ w

def mSeq (P : Program) (n : Nat) (y : Code) (k : MK) : MK := { N := MC P n y k, X := k.X, R := k.R }
def mBlk (id : Nat) (k : MK) : MK := { N := k.N, X := fun i Hs α => if i = id then k.N Hs α else k.X i Hs α, R := k.R }
def mLp (J : List En → (Nat → A) → Prop) (k : MK) : MK := { N := J, X := k.X, R := k.R }

theorem lft_le {w0 : World} {S0 : Nat → Prop} {g g' : G} {q : List En → (Nat → A) → Prop} {ds : List Deferred} {ρ : Env} {w : World} (h : lft w0 S0 g' q ds ρ w) (l : GL w0 S0 g g') : lft w0 S0 g q ds ρ w := by
  obtain ⟨hd, g1, Hs, α, l1, h⟩ := h
  exact ⟨hd, g1, Hs, α, l.trans l1, h⟩
theorem lftK_le {P : Program} {n : Nat} {c : Code} {w0 : World} {S0 : Nat → Prop} {g g' : G} {k : MK} {ds : List Deferred} {ρ : Env} {w : World} (h : KC P n c (lftK w0 S0 g' k) ds ρ w) (l : GL w0 S0 g g') : KC P n c (lftK w0 S0 g k) ds ρ w :=
  k_mono h (fun _ _ _ h => lft_le h l) (fun _ _ _ _ h => lft_le h l) (fun _ _ _ h => lft_le h l) (fun _ _ _ _ h => h)

section
variable {P : Program} {n : Nat} {k : MK} {Hs : List En} {α : Nat → A}

theorem m_seq {x y : Code} (h : MC P n x (mSeq P n y k) Hs α) : MC P n (.seq x y) k Hs α := .of fun w0 S0 g ρ w hH hE => by
  refine k_seq (k_mono (h.out w0 S0 g ρ w hH hE) ?_ (fun _ _ _ _ h => h) (fun _ _ _ h => h) (fun _ _ _ _ h => h))
  rintro ds ρ w ⟨rfl, g', Hs', α', l, hH', hE', hq⟩
  exact lftK_le (hq.out w0 S0 g' ρ w hH' hE') l
theorem m_block {id : Nat} {c : Code} (h : MC P n c (mBlk id k) Hs α) : MC P n (.block id c) k Hs α := .of fun w0 S0 g ρ w hH hE => by
  refine k_block (k_mono (h.out w0 S0 g ρ w hH hE) (fun _ _ _ h => h) ?_ (fun _ _ _ h => h) (fun _ _ _ _ h => h))
  rintro i ds ρ w ⟨hd, g', Hs', α', l, hH', hE', hq⟩
  simp only [mBlk] at hq
  simp only [kBlk]
  split
  · rename_i e; rw [if_pos e] at hq; exact ⟨hd, g', Hs', α', l, hH', hE', hq⟩
  · rename_i e; rw [if_neg e] at hq; exact ⟨hd, g', Hs', α', l, hH', hE', hq⟩
theorem lft_mk {w0 : World} {S0 : Nat → Prop} {g : G} {q : List En → (Nat → A) → Prop} {ρ : Env} {w : World} (hH : HR w0 S0 g Hs w) (hE : ER g α ρ) (h : q Hs α) : lft w0 S0 g q [] ρ w := ⟨rfl, g, Hs, α, .refl _ _ g, hH, hE, h⟩
theorem m_skip (h : k.N Hs α) : MC P n .skip k Hs α := .of fun _ _ _ _ _ hH hE => k_skip (lft_mk hH hE h)
theorem m_exit {i : Nat} (h : k.X i Hs α) : MC P n (.exit i) k Hs α := .of fun _ _ _ _ _ hH hE => k_exit (lft_mk hH hE h)
theorem m_ret (h : k.R Hs α) : MC P n .ret k Hs α := .of fun _ _ _ _ _ hH hE => k_ret (lft_mk hH hE h)

theorem ea_v {g : G} {ρ : Env} (hE : ER g α ρ) {c : Operand} {x : Value} (hc : ea n α c = .v x) (ho : okC c = true := by rfl) : ev n ρ c = x := by
  have := hE.ev n c ho
  rw [hc] at this
  cases this; rfl
theorem m_cond {c : Operand} {x y : Code} {b : Bool} (hb : ea n α c = .v (.bool b)) (ht : b = true → MC P n x k Hs α) (hf : b = false → MC P n y k Hs α) (ho : okC c = true := by rfl) : MC P n (.cond c x y) k Hs α := .of fun w0 S0 g ρ w hH hE =>
  k_cond (ea_v hE hb ho) (fun e => (ht e).out w0 S0 g ρ w hH hE) (fun e => (hf e).out w0 S0 g ρ w hH hE)
theorem m_condT {c : Operand} {x y : Code} (hb : ea n α c = .v (.bool true)) (h : MC P n x k Hs α) (ho : okC c = true := by rfl) : MC P n (.cond c x y) k Hs α :=
  m_cond hb (fun _ => h) (fun h => by cases h) ho
theorem m_condF {c : Operand} {x y : Code} (hb : ea n α c = .v (.bool false)) (h : MC P n y k Hs α) (ho : okC c = true := by rfl) : MC P n (.cond c x y) k Hs α :=
  m_cond hb (fun h => by cases h) (fun _ => h) ho
theorem m_condp {c : Operand} {x y : Code} {p : Prop} [Decidable p] (hb : ea n α c = .v (.bool (decide p))) (ht : p → MC P n x k Hs α) (hf : ¬ p → MC P n y k Hs α) (ho : okC c = true := by rfl) : MC P n (.cond c x y) k Hs α :=
  m_cond hb (fun h => ht (of_decide_eq_true h)) (fun h => hf (of_decide_eq_false h)) ho

theorem z_seq {y : Code} (h : MC P n y k Hs α) : (mSeq P n y k).N Hs α := h
theorem z_seqX {y : Code} {i : Nat} (h : k.X i Hs α) : (mSeq P n y k).X i Hs α := h
theorem z_seqR {y : Code} (h : k.R Hs α) : (mSeq P n y k).R Hs α := h
theorem z_blk {id : Nat} (h : k.N Hs α) : (mBlk id k).N Hs α := h
theorem z_blkX {id : Nat} (h : k.N Hs α) : (mBlk id k).X id Hs α := by simp only [mBlk, if_true]; exact h
theorem z_blkXn {id i : Nat} (hn : (i == id) = false) (h : k.X i Hs α) : (mBlk id k).X i Hs α := by
  simp only [mBlk]; rw [if_neg (by simpa using hn)]; exact h
theorem z_blkR {id : Nat} (h : k.R Hs α) : (mBlk id k).R Hs α := h
theorem z_lpX {J : List En → (Nat → A) → Prop} {i : Nat} (h : k.X i Hs α) : (mLp J k).X i Hs α := h
theorem z_lpR {J : List En → (Nat → A) → Prop} (h : k.R Hs α) : (mLp J k).R Hs α := h

/-- A loop: a statement I of what is left (a number) and the state. -/
theorem m_loop {c : Code} (I : Nat → List En → (Nat → A) → Prop) (m0 : Nat) (h0 : I m0 Hs α)
    (round : ∀ m Hs α, I m Hs α → MC P n c (mLp (fun Hs' α' => ∃ m', m' < m ∧ I m' Hs' α') k) Hs α) : MC P n (.loop c) k Hs α := .of fun w0 S0 g ρ w hH hE => by
  refine k_loop (fun m ρ w => ∃ g' Hs α, GL w0 S0 g g' ∧ HR w0 S0 g' Hs w ∧ ER g' α ρ ∧ I m Hs α) m0 ⟨g, Hs, α, .refl _ _ g, hH, hE, h0⟩ ?_
  rintro m ρ w ⟨g', Hs', α', l, hH', hE', hI⟩
  refine k_mono ((round m Hs' α' hI).out w0 S0 g' ρ w hH' hE') ?_ (fun _ _ _ _ h => lft_le h l) (fun _ _ _ h => lft_le h l) (fun _ _ _ _ h => h)
  rintro ds ρ w ⟨rfl, g1, Hs1, α1, l1, hH1, hE1, m', hm, hI1⟩
  exact ⟨rfl, m', hm, g1, Hs1, α1, l.trans l1, hH1, hE1, hI1⟩
theorem z_lpN {I : Nat → List En → (Nat → A) → Prop} {m : Nat} (m' : Nat) (hlt : m' < m) (h : I m' Hs α) : (mLp (fun Hs' α' => ∃ m', m' < m ∧ I m' Hs' α') k).N Hs α := ⟨m', hlt, h⟩

/-- What the frame and the objects are may be said otherwise. -/
def Shift (Hs : List En) (α : Nat → A) (Hs' : List En) (α' : Nat → A) : Prop := ∀ w0 S0 g w ρ, HR w0 S0 g Hs w → ER g α ρ → ∃ g', GL w0 S0 g g' ∧ HR w0 S0 g' Hs' w ∧ ER g' α' ρ
theorem m_pre {c : Code} {Hs' : List En} {α' : Nat → A} (hs : Shift Hs α Hs' α') (h : MC P n c k Hs' α') : MC P n c k Hs α := .of fun w0 S0 g ρ w h1 h2 => by
  obtain ⟨g', l, h3, h4⟩ := hs w0 S0 g w ρ h1 h2
  exact lftK_le (h.out w0 S0 g' ρ w h3 h4) l
theorem sh_drop (m : Nat) : Shift Hs α (Hs.take m) α := fun w0 S0 g _ _ h1 h2 => ⟨g, .refl w0 S0 g, h1.take m, h2⟩
theorem Shift.trans {Hs1 Hs2 : List En} {α1 α2 : Nat → A} (h : Shift Hs α Hs1 α1) (k : Shift Hs1 α1 Hs2 α2) : Shift Hs α Hs2 α2 := fun w0 S0 g w ρ h1 h2 => by
  obtain ⟨g', l, h3, h4⟩ := h w0 S0 g w ρ h1 h2
  obtain ⟨g2, l2, h5, h6⟩ := k w0 S0 g' w ρ h3 h4
  exact ⟨g2, l.trans l2, h5, h6⟩
end
end Go.Proofs.Ytlklapledogdcaa.K
