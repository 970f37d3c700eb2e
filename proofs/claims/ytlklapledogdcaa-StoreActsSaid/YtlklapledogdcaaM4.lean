/- Abstract states of a walk: what makes and writes objects; what may be said otherwise. No condition. -/
import Derived.Test.YtlklapledogdcaaM3
namespace Go.Proofs.Ytlklapledogdcaa.K
open Go

section
variable {w0 : World} {S0 : Nat → Prop} {g : G} {Hs : List En} {w w' : World}

theorem HR.kill (h : HR w0 S0 g Hs w) (q : Nat) : HR w0 S0 g (setOb Hs q .dead) w := h.sub id (fun _ _ h => h) (fun i e he => by
  rcases setOb_get _ _ _ _ _ he with ⟨_, e', _, rfl⟩ | ⟨_, h⟩
  · exact .inl rfl
  · exact .inr h)

def killL (Hs : List En) : List Nat → List En
  | [] => Hs
  | q :: ps => killL (setOb Hs q .dead) ps
def killAt (ps : List Nat) : List En → Nat → List En
  | [], _ => []
  | e :: es, i => (bif ps.contains i then ⟨e.k, .dead⟩ else e) :: killAt ps es (i + 1)
theorem killAt_get (ps : List Nat) : ∀ (Hs : List En) (j i : Nat) (e : En), (killAt ps Hs j)[i]? = some e → ∃ e', Hs[i]? = some e' ∧ ((ps.contains (j + i) = true ∧ e = ⟨e'.k, .dead⟩) ∨ (ps.contains (j + i) = false ∧ e = e'))
  | [], _, _, _, h => by simp [killAt] at h
  | e :: es, j, 0, f, h => by
    simp only [killAt, List.getElem?_cons_zero, Option.some.injEq] at h
    refine ⟨e, rfl, ?_⟩
    cases hc : ps.contains j with
    | true => rw [hc] at h; exact .inl ⟨rfl, h.symm⟩
    | false => rw [hc] at h; exact .inr ⟨rfl, h.symm⟩
  | e :: es, j, i + 1, f, h => by
    simp only [killAt, List.getElem?_cons_succ] at h
    obtain ⟨e', h1, h2⟩ := killAt_get ps es (j + 1) i f h
    exact ⟨e', by simpa using h1, by rw [show j + (i + 1) = j + 1 + i by omega]; exact h2⟩
theorem killAt_of (ps : List Nat) : ∀ (Hs : List En) (j i : Nat) (e : En), Hs[i]? = some e → ps.contains (j + i) = false → (killAt ps Hs j)[i]? = some e
  | [], _, _, _, h, _ => by simp at h
  | e :: es, j, 0, f, h, hc => by
    simp only [List.getElem?_cons_zero, Option.some.injEq] at h
    simp only [killAt, List.getElem?_cons_zero, Nat.add_zero] at hc ⊢
    rw [hc, h]; rfl
  | e :: es, j, i + 1, f, h, hc => by
    simp only [killAt, List.getElem?_cons_succ] at h ⊢
    exact killAt_of ps es (j + 1) i f h (by rw [show j + 1 + i = j + (i + 1) by omega]; exact hc)
theorem killAt_len (ps : List Nat) : ∀ (Hs : List En) (j : Nat), (killAt ps Hs j).length = Hs.length
  | [], _ => rfl
  | e :: es, j => by simp [killAt, killAt_len ps es (j + 1)]
theorem HR.killAt (h : HR w0 S0 g Hs w) (ps : List Nat) : HR w0 S0 g (K.killAt ps Hs 0) w := h.sub id (fun _ _ h => h) (fun i e he => by
  obtain ⟨e', h1, h2⟩ := killAt_get ps Hs 0 i e he
  rcases h2 with ⟨_, rfl⟩ | ⟨_, rfl⟩
  · exact .inl rfl
  · exact .inr h1)

/-- The blocks of the objects at some places. -/
def blks (g : G) (Hs : List En) (ps : List Nat) (b : Nat) : Prop := ∃ i e, ps.contains i = true ∧ Hs[i]? = some e ∧ e.ob.live ∧ g.blk e.k = some b
def pick (Hs : List En) (ps : List Nat) : List En := ps.filterMap (Hs[·]?)

/-- What is apart goes together. -/
theorem HR.join (h : HR w0 S0 g Hs w) (ps : List Nat) {g' : G} {Hs' : List En} (l : GL w (blks g Hs ps) g g') (h' : HR w (blks g Hs ps) g' Hs' w') : HR w0 S0 g' (K.killAt ps Hs 0 ++ Hs') w' ∧ GL w0 S0 g g' := by
  have hfr := h'.fr
  have hl : GL w0 S0 g g' := ⟨l.le, fun b h1 h2 h3 => l.new b (Nat.lt_of_lt_of_le h1 h.fr.size) (by
    rintro ⟨i, e, _, he, hd, hb⟩
    rcases (h.own i e b he hd hb).1 with h4 | h4
    · exact h2 h4
    · omega) h3⟩
  have hk := h.killAt ps
  have hpl : ∀ (i : Nat) (e : En), (K.killAt ps Hs 0)[i]? = some e → e.ob.live → Hs[i]? = some e ∧ ps.contains i = false := fun i e he hd => by
    obtain ⟨e', h1, h2⟩ := killAt_get ps Hs 0 i e he
    rcases h2 with ⟨_, rfl⟩ | ⟨h2, rfl⟩
    · exact absurd hd (fun h => h)
    · exact ⟨h1, by simpa using h2⟩
  have hno : ∀ (i : Nat) (e : En) (b : Nat), (K.killAt ps Hs 0)[i]? = some e → e.ob.live → g.blk e.k = some b → ¬ blks g Hs ps b := fun i e b he hd hb => by
    rintro ⟨j, f, hj, hf, hd', hb'⟩
    obtain ⟨h1, h2⟩ := hpl i e he hd
    by_cases hij : i = j
    · subst hij; rw [h2] at hj; cases hj
    · exact h.sep i j e f b h1 hf hij hd hd' hb hb'
  have hlt : ∀ (i : Nat) (e : En) (b : Nat), (K.killAt ps Hs 0)[i]? = some e → e.ob.live → g'.blk e.k = some b → g.blk e.k = some b ∧ b < w.heap.size := fun i e b he hd hb => by
    rw [(hk.ob i e he).blkUp hd l.le] at hb
    exact ⟨hb, (hk.own i e b he hd hb).2.1⟩
  have hcut : ∀ (i : Nat) (e : En), (K.killAt ps Hs 0 ++ Hs')[i]? = some e → (K.killAt ps Hs 0)[i]? = some e ∨ ((K.killAt ps Hs 0).length ≤ i ∧ Hs'[i - (K.killAt ps Hs 0).length]? = some e) := fun i e he => by
    rcases Nat.lt_or_ge i (K.killAt ps Hs 0).length with h1 | h1
    · rw [List.getElem?_append_left h1] at he; exact .inl he
    · rw [List.getElem?_append_right h1] at he; exact .inr ⟨h1, he⟩
  refine ⟨⟨h.fr.trans' hfr (fun b hb hs => ?_), h'.fro, fun i e he => ?_, fun i e b he hd hb => ?_, fun i j e f b he hf hne hd hd' hb => ?_⟩, hl⟩
  · obtain ⟨i, e, _, he, hd, hb'⟩ := hs
    rcases (h.own i e b he hd hb').1 with h4 | h4
    · exact h4
    · omega
  · rcases hcut i e he with he | ⟨_, he⟩
    · exact ((hk.ob i e he).keep hfr (fun hd b hb => hno i e b he hd hb)).up l.le
    · exact h'.ob _ e he
  · rcases hcut i e he with he | ⟨_, he⟩
    · obtain ⟨hb, hl'⟩ := hlt i e b he hd hb
      have := hk.own i e b he hd hb
      exact ⟨this.1, Nat.lt_of_lt_of_le hl' hfr.size, l.new b hl' (hno i e b he hd hb) this.2.2⟩
    · have := h'.own _ e b he hd hb
      refine ⟨?_, this.2⟩
      rcases this.1 with ⟨j, f, _, hf, hd', hb'⟩ | h4
      · exact (h.own j f b hf hd' hb').1
      · exact .inr (Nat.le_trans h.fr.size h4)
  · rcases hcut i e he with he | ⟨hi, he⟩
    · obtain ⟨hb1, hl1⟩ := hlt i e b he hd hb
      rcases hcut j f hf with hf | ⟨_, hf⟩
      · intro hb2
        exact hk.sep i j e f b he hf hne hd hd' hb1 (hlt j f b hf hd' hb2).1
      · intro hb2
        rcases (h'.own _ f b hf hd' hb2).1 with h4 | h4
        · exact hno i e b he hd hb1 h4
        · omega
    · rcases hcut j f hf with hf | ⟨hj, hf⟩
      · intro hb2
        obtain ⟨hb1, hl1⟩ := hlt j f b hf hd' hb2
        rcases (h'.own _ e b he hd hb).1 with h4 | h4
        · exact hno j f b hf hd' hb1 h4
        · omega
      · exact h'.sep _ _ e f b he hf (by omega) hd hd' hb

/-- The state of some objects alone. -/
theorem HR.part (h : HR w0 S0 g Hs w) (ps : List Nat) (hps : ps.Nodup) (hin : ∀ q ∈ ps, q < Hs.length) : HR w (blks g Hs ps) g (pick Hs ps) w := by
  have hget : ∀ (i : Nat) (e : En), (pick Hs ps)[i]? = some e → ∃ q, ps[i]? = some q ∧ Hs[q]? = some e := by
    clear hps
    intro i e he
    have : pick Hs ps = ps.map (fun q => Hs.getD q ⟨0, .dead⟩) := by
      unfold pick
      clear he
      induction ps with
      | nil => rfl
      | cons q ps ih =>
        have hq := hin q (by simp)
        rw [List.filterMap_cons, List.getElem?_eq_getElem hq]
        simp only [List.map_cons]
        rw [ih (fun x hx => hin x (by simp [hx]))]
        simp [List.getD, hq]
    rw [this, List.getElem?_map] at he
    obtain ⟨q, hq, rfl⟩ := Option.map_eq_some_iff.1 he
    refine ⟨q, hq, ?_⟩
    have hlt := hin q (List.mem_of_getElem? hq)
    simp [List.getD, hlt]
  refine ⟨.refl _ _, h.fro, fun i e he => ?_, fun i e b he hd hb => ?_, fun i j e f b he hf hne hd hd' hb => ?_⟩
  · obtain ⟨q, _, hq⟩ := hget i e he; exact h.ob q e hq
  · obtain ⟨q, hp, hq⟩ := hget i e he
    have := h.own q e b hq hd hb
    exact ⟨.inl ⟨q, e, by simpa using List.mem_of_getElem? hp, hq, hd, hb⟩, this.2⟩
  · obtain ⟨q, hp, hq⟩ := hget i e he
    obtain ⟨r, hp', hr⟩ := hget j f hf
    refine h.sep q r e f b hq hr (fun e => hne ?_) hd hd' hb
    subst e
    exact (List.getElem?_inj (List.getElem?_eq_some_iff.1 hp).1 hps).1 (hp.trans hp'.symm)
end

/-! ### What may be said otherwise -/
section
variable {Hs : List En} {α : Nat → A}
theorem sh_pick (f : List Nat) (hf : f.Nodup) : Shift Hs α (pick Hs f) α := fun w0 S0 g w ρ hH hE => by
  refine ⟨g, .refl _ _ g, ?_, hE⟩
  have : ∃ f' : List Nat, f'.Nodup ∧ (∀ q ∈ f', q < Hs.length) ∧ pick Hs f = pick Hs f' := by
    refine ⟨f.filter (· < Hs.length), hf.filter _, fun q hq => by simpa using (List.mem_filter.1 hq).2, ?_⟩
    unfold pick
    clear hf
    induction f with
    | nil => rfl
    | cons q f ih =>
      by_cases h : q < Hs.length
      · rw [List.filter_cons_of_pos (by simpa using h), List.filterMap_cons, List.filterMap_cons, ih]
      · rw [List.filter_cons_of_neg (by simpa using h), List.filterMap_cons, List.getElem?_eq_none (by omega), ih]
  obtain ⟨f', h1, h2, h3⟩ := this
  rw [h3]
  have hp := hH.part f' h1 h2
  refine ⟨hH.fr, hp.fro, hp.ob, fun i e b he hd hb => ?_, hp.sep⟩
  have := hp.own i e b he hd hb
  refine ⟨?_, this.2⟩
  rcases this.1 with ⟨j, e', _, hj, hd', hb'⟩ | h4
  · exact (hH.own j e' b hj hd' hb').1
  · exact .inr (Nat.le_trans hH.fr.size h4)
theorem sh_env {α' : Nat → A} (h : ∀ g t v, RV g (α t) v → RV g (α' t) v) : Shift Hs α Hs α' := fun w0 S0 g _ _ hH hE => ⟨g, .refl w0 S0 g, hH, fun t => h g t _ (hE t)⟩
theorem sh_nl {t : Nat} (ht : α t = .nl) : Shift Hs α Hs (ua α t (.sl [])) := sh_env fun g u v h => by
  by_cases e : u = t
  · subst e; rw [ua_same]; rw [ht] at h; cases h; exact .nil
  · rw [ua_ne _ _ e]; exact h
theorem sh_dead (t : Nat) : Shift Hs α Hs (ua α t .dead) := sh_env fun g u v h => by
  by_cases e : u = t
  · subst e; rw [ua_same]; exact .dead _
  · rw [ua_ne _ _ e]; exact h

/-- A row of one's own that is written no more. -/
theorem sh_freeze {q k s : Nat} {E : TypeId} {xs : List A} {α' : Nat → A} (hq : Hs[q]? = some ⟨k, .row E s xs⟩) (hα : ∀ t, α' t = α t ∨ (α t = .osl k ∧ α' t = .sl xs)) : Shift Hs α (setOb Hs q .dead) α' := fun w0 S0 g w ρ hH hE => by
  obtain ⟨v, cs, hm, hown, hr, hsz⟩ := hH.ob q _ hq
  have hv : ∀ t, α t = .osl k → ρ t = v := fun t ht => by
    have h := hE t
    rw [ht] at h
    generalize ρ t = x at h
    cases h with
    | osl h => rw [hm] at h; cases h; rfl
  rcases hown.2 with ⟨rfl, h0⟩ | ⟨b, cap, cur, rfl, _, hh, hcap, _, hcs, htake⟩
  · refine ⟨g, .refl _ _ g, hH.kill q, fun t => ?_⟩
    rcases hα t with h | ⟨h1, h2⟩
    · rw [h]; exact hE t
    · rw [h2, hv t h1]
      obtain rfl : xs = [] := List.eq_nil_of_length_eq_zero h0
      exact .nil
  · have hbk : g.blk k = some b := by rw [G.blk, hm]; rfl
    have ho := hH.own q _ b hq trivial hbk
    let g' : G := ⟨fun x => if x = b then some (.cells cur E (0, 0)) else g.F x, g.m, g.lim, g.fin⟩
    have hle : g.le g' := ⟨fun x o hx => by
      show (if x = b then _ else _) = _
      rw [if_neg (fun e => by rw [e, ho.2.2] at hx; cases hx)]; exact hx, fun _ _ h => h⟩
    have hgl : GL w0 S0 g g' := ⟨hle, fun x h1 h2 h3 => by
      show (if x = b then _ else _) = _
      rw [if_neg (fun e => by
        subst e
        rcases ho.1 with h | h
        · exact h2 h
        · omega)]; exact h3⟩
    have hfro : g'.fro w := fun x o hx => by
      have hx' : (if x = b then some (.cells cur E (0, 0)) else g.F x) = some o := hx
      by_cases e : x = b
      · rw [if_pos e] at hx'; cases hx'; rw [e]; exact hh
      · rw [if_neg e] at hx'; exact hH.fro x o hx'
    refine ⟨g', hgl, (hH.kill q).up hle hfro (fun i e c he hd hb => ?_), fun t => ?_⟩
    · show (if c = b then _ else _) = _
      rcases setOb_get _ _ _ _ _ he with ⟨_, e', _, rfl⟩ | ⟨hne, he⟩
      · exact absurd hd (fun h => h)
      · rw [if_neg (fun e2 => by subst e2; exact hH.sep i q e _ c he hq hne hd trivial hb hbk)]
        exact (hH.own i e c he hd hb).2.2
    · rcases hα t with h | ⟨h1, h2⟩
      · rw [h]; exact (hE t).up hle
      · rw [h2, hv t h1]
        refine .sl s _ cap hcap hsz (fun j u hj => ?_) (hr.up hle)
        rw [add_mk, Nat.zero_add]
        have hF : g'.F b = some (.cells cur E (0, 0)) := by show (if b = b then _ else _) = _; rw [if_pos rfl]
        simp only [G.cell?, hF]
        rw [← htake, List.getElem?_take] at hj
        split at hj
        · simpa using hj
        · cases hj
/-- A nil slice, as a row of one's own. -/
theorem sh_own {t : Nat} (E : TypeId) (s : Nat) {P : Program} {n : Nat} {ops : Array Oper} {kk : MK} (ht : α t = .nl) {l : List Oper} (h : ∀ k, ML P n ops kk l (Hs ++ [⟨k, .row E s []⟩]) (ua α t (.osl k))) : ML P n ops kk l Hs α := .of fun w0 S0 g0 g ρ w l0 hH hE => by
  have hρ : ρ t = .slice none 0 0 := by
    have h := hE t
    rw [ht] at h
    generalize ρ t = x at h
    cases h; rfl
  have hp : HR w0 S0 (g.push (.slice none 0 0)) (Hs ++ [⟨g.lim, .row E s []⟩]) w := hH.push (Fr.refl _ _) ⟨_, [], g.push_at _, ⟨by simp, .inl ⟨rfl, rfl⟩⟩, .nil, by simp⟩ (by simp [blkV, Value.ownBlock])
  refine (h g.lim).out w0 S0 g0 _ ρ w (l0.trans ⟨g.push_le _, fun _ _ _ h => h⟩) hp fun u => ?_
  by_cases e : u = t
  · subst e; rw [ua_same, hρ]; exact .osl (g.push_at _) rfl
  · rw [ua_ne _ _ e]; exact (hE u).up (g.push_le _)
theorem m_own {t : Nat} (E : TypeId) (s : Nat) {P : Program} {n : Nat} {kk : MK} (ht : α t = .nl) {c : Code} (h : ∀ k, MC P n c kk (Hs ++ [⟨k, .row E s []⟩]) (ua α t (.osl k))) : MC P n c kk Hs α := .of fun w0 S0 g ρ w hH hE => by
  have hρ : ρ t = .slice none 0 0 := by
    have h := hE t
    rw [ht] at h
    generalize ρ t = x at h
    cases h; rfl
  have hp : HR w0 S0 (g.push (.slice none 0 0)) (Hs ++ [⟨g.lim, .row E s []⟩]) w := hH.push (Fr.refl _ _) ⟨_, [], g.push_at _, ⟨by simp, .inl ⟨rfl, rfl⟩⟩, .nil, by simp⟩ (by simp [blkV, Value.ownBlock])
  refine lftK_le ((h g.lim).out w0 S0 _ ρ w hp fun u => ?_) ⟨g.push_le _, fun _ _ _ h => h⟩
  by_cases e : u = t
  · subst e; rw [ua_same, hρ]; exact .osl (g.push_at _) rfl
  · rw [ua_ne _ _ e]; exact (hE u).up (g.push_le _)
/-- A nil slice in an object, as a row of one's own. -/
theorem m_own_in {q kq : Nat} {T : TypeId} {tr : A} (p : List Nat) (E : TypeId) (s : Nat) {P : Program} {n : Nat} {kk : MK} {c : Code} (hq : Hs[q]? = some ⟨kq, .box T tr⟩) (hg : getA tr p = some .nl) (h : ∀ k, MC P n c kk (setOb Hs q (.box T (setA tr p (.osl k))) ++ [⟨k, .row E s []⟩]) α) : MC P n c kk Hs α := .of fun w0 S0 g ρ w hH hE => by
  have hp : HR w0 S0 (g.push (.slice none 0 0)) (Hs ++ [⟨g.lim, .row E s []⟩]) w := hH.push (Fr.refl _ _) ⟨_, [], g.push_at _, ⟨by simp, .inl ⟨rfl, rfl⟩⟩, .nil, by simp⟩ (by simp [blkV, Value.ownBlock])
  obtain ⟨b, cs, hm, hb, hc⟩ := hp.ob q ⟨kq, .box T tr⟩ (by rw [List.getElem?_append_left (List.getElem?_eq_some_iff.1 hq).1]; exact hq)
  obtain ⟨pre, c', post, rfl, _, hr, hset⟩ := get_RC p hc hg
  have hcn : c' = [.slice none 0 0] := by cases hr; rfl
  subst hcn
  have hnew := hset (.osl g.lim) [.slice none 0 0] (.osl (g.push_at _) rfl) rfl
  have hp2 : HR w0 S0 (g.push (.slice none 0 0)) (setOb (Hs ++ [⟨g.lim, .row E s []⟩]) q (.box T (setA tr p (.osl g.lim)))) w := hp.set (ob := .box T tr) (k := kq) (by rw [List.getElem?_append_left (List.getElem?_eq_some_iff.1 hq).1]; exact hq) trivial (Fr.refl _ _) ⟨b, _, hm, hb, hnew⟩
  have e : ∀ (l : List En) (i : Nat) (o : Ob) (x : En), i < l.length → setOb (l ++ [x]) i o = setOb l i o ++ [x] := by
    intro l
    induction l with
    | nil => intro i o x h; simp at h
    | cons y l ih =>
      intro i o x h
      cases i with
      | zero => rfl
      | succ i => simp only [List.cons_append, setOb]; rw [ih i o x (by simpa using h)]
  rw [e _ _ _ _ (List.getElem?_eq_some_iff.1 hq).1] at hp2
  exact lftK_le ((h g.lim).out w0 S0 _ ρ w hp2 (hE.up (g.push_le _))) ⟨g.push_le _, fun _ _ _ h => h⟩
end

/-! ### Steps -/
section
variable {P : Program} {n : Nat} {Hs : List En} {α : Nat → A} {ty : TypeId} {pos : String} {af : Array Edge} {gd : Option (Nat × Bool)} {next : List En → (Nat → A) → Prop}

theorem get_app {Hs Hs' : List En} {i : Nat} {e : En} (h : Hs[i]? = some e) : (Hs ++ Hs')[i]? = some e := by rw [List.getElem?_append_left (List.getElem?_eq_some_iff.1 h).1]; exact h

/-- A new object. -/
theorem lftW_push {w0 : World} {S0 : Nat → Prop} {g : G} {w w' : World} {ρ : Env} {W : List Nat} {t b : Nat} {ob : Ob} {v : Value} (hH : HR w0 S0 g Hs w) (hE : ER g α ρ) (hf : Ext w w') (hb : b = w.heap.size) (hz : w'.heap.size = w.heap.size + 1) (hbv : blkV v = some b)
    (ho : ∀ g' : G, g.le g' → g'.m g.lim = some v → OR g' w' g.lim ob) {a : A} (hv : RV (g.push v) a v) (h : next (Hs ++ [⟨g.lim, ob⟩]) (ua α t a)) : lftW w0 S0 g Hs W w next [] (upd ρ t v) w' :=
  ⟨rfl, g.push v, _, _, ⟨g.push_le _, fun _ _ _ h => h⟩, hH.push hf (ho _ (g.push_le _) (g.push_at _)) (fun c hc => by rw [hbv] at hc; cases hc; omega), (hE.up (g.push_le _)).put t hv, h, hf.fr, fun i e he _ => get_app he⟩

theorem mo_box {W : List Nat} {t : Tmp} {T : TypeId} {x : Operand} {a : A} (hx : ea n α x = a) (ha : wholeA a = true) (hdn : Nat.blt t n = true) (h : ∀ k, next (Hs ++ [⟨k, .box T a⟩]) (ua α t (.ptr k [] 0))) (ho : okC x = true := by rfl) :
    MO P n W ⟨some t, .box T x, ty, pos, af, gd⟩ Hs α next := .of fun w0 S0 g ρ w k hH hE => by
  have hr := (hx ▸ hE.ev n x ho : RV g a _).cells ha
  exact ow_box rfl hdn (fun w' b hb hf he hz => lftW_push (ob := .box T a) hH hE hf he hz rfl (fun g' l hm => ⟨b, _, hm, hb, hr.up l⟩) (.ptr [] 0 (g.push_at _)) (h g.lim))
theorem mo_alloc {W : List Nat} {t : Tmp} {T : TypeId} {ti : TypeInfo} {z : Value} {a : A} (hi : P.info? T = some ti) (hz : ti.zero = some z) (ha : ∀ g, RC g a z.cells.toList) (hdn : Nat.blt t n = true) (h : ∀ k, next (Hs ++ [⟨k, .box T a⟩]) (ua α t (.ptr k [] 0))) :
    MO P n W ⟨some t, .alloc T, ty, pos, af, gd⟩ Hs α next := .of fun _ _ g _ _ _ hH hE =>
  ow_alloc hi hz hdn (fun _ b hb hf he hz' => lftW_push (ob := .box T a) hH hE hf he hz' rfl (fun g' _ hm => ⟨b, _, hm, hb, ha g'⟩) (.ptr [] 0 (g.push_at _)) (h g.lim))

theorem splice_mid (pre c post d : List Value) (h : d.length = c.length) : splice (pre ++ (c ++ post)) pre.length d = pre ++ (d ++ post) := by
  unfold splice
  rw [List.take_left, h, List.append_assoc]
  congr 2
  rw [← List.append_assoc, List.drop_append, List.drop_of_length_le (by simp)]
  simp
theorem setOb_of {Hs : List En} {q i : Nat} {ob : Ob} {e : En} (h : Hs[i]? = some e) (hne : i ≠ q) : (setOb Hs q ob)[i]? = some e := by
  induction Hs generalizing q i with
  | nil => simp at h
  | cons x xs ih =>
    cases q with
    | zero =>
      cases i with
      | zero => exact absurd rfl hne
      | succ i => simpa [setOb] using h
    | succ q =>
      cases i with
      | zero => simpa [setOb] using h
      | succ i => simp only [setOb, List.getElem?_cons_succ] at h ⊢; exact ih h (by omega)
theorem lftW_set {w0 : World} {S0 : Nat → Prop} {g : G} {w w' : World} {ρ : Env} {q k b : Nat} {ob ob' : Ob} (hH : HR w0 S0 g Hs w) (hE : ER g α ρ) (hq : Hs[q]? = some ⟨k, ob⟩) (hl : ob.live) (hbk : g.blk k = some b) (hf : Fr (· = b) w w') (ho : OR g w' k ob') (h : next (setOb Hs q ob') α) :
    lftW w0 S0 g Hs [q] w next [] ρ w' :=
  ⟨rfl, g, _, α, .refl _ _ g, hH.set hq hl (hf.mono fun i _ hi => by rw [hbk, hi]) ho, hE, h, hf.mono fun i _ hi => ⟨q, _, by simp, hq, hl, by rw [hbk, hi]⟩,
    fun i e he hi => setOb_of he (fun e => by subst e; simp at hi)⟩

theorem ptr_box {g : G} {k b off : Nat} {p : List Nat} {v : Value} (h : RV g (.ptr k p off) v) (hm : g.m k = some (.pointer (some ⟨b, 0, none⟩))) : v = .pointer (some ⟨b, off, none⟩) := by
  cases h with
  | ptr p off h => rw [hm] at h; cases h; rw [Nat.zero_add]
  | pte p off h => rw [hm] at h; cases h
theorem ptr_row {g : G} {k b off l c : Nat} {p : List Nat} {v : Value} (h : RV g (.ptr k p off) v) (hm : g.m k = some (.slice (some ⟨b, 0, none⟩) l c)) : v = .pointer (some ⟨b, off, none⟩) := by
  cases h with
  | ptr p off h => rw [hm] at h; cases h
  | pte p off h => rw [hm] at h; cases h; rw [Nat.zero_add]
theorem ptr_nil {g : G} {k off : Nat} {p : List Nat} {v : Value} (h : RV g (.ptr k p off) v) (hm : g.m k = some (.slice none 0 0)) : False := by
  cases h with
  | ptr p off h => rw [hm] at h; cases h
  | pte p off h => rw [hm] at h; cases h

theorem mo_store {T T0 : TypeId} {x y : Operand} {k off q m : Nat} {p : List Nat} {tr old a : A} {ti : TypeInfo} (hi : P.info? T = some ti) (hsz : ti.size = m) (hx : ea n α x = .ptr k p off) (hy : ea n α y = a) (ha : wholeA a = true) (hq : Hs[q]? = some ⟨k, .box T0 tr⟩)
    (hg : getA tr p = some old) (hoff : offA tr p = off) (hm : sz a = m) (hm' : sz old = m) (h : next (setOb Hs q (.box T0 (setA tr p a))) α) (ho : okC x = true := by rfl) (ho' : okC y = true := by rfl) :
    MO P n [q] ⟨none, .store T x y, ty, pos, af, gd⟩ Hs α next := .of fun w0 S0 g ρ w kk hH hE => by
  have hp := hE.ev n x ho
  rw [hx] at hp
  have hr := (hy ▸ hE.ev n y ho' : RV g a _).cells ha
  obtain ⟨b', cs, hmk, hb, hc⟩ := hH.ob q _ hq
  have hv := ptr_box hp hmk
  obtain ⟨pre, c, post, rfl, hpre, hrc, hset⟩ := get_RC p hc hg
  have hcl : (ev n ρ y).cells.toList.length = c.length := by rw [hr.len, hrc.len, hm, hm']
  refine ow_store (b := b') (o := pre.length) (sz := m) (xs := (ev n ρ y).cells.toList) hi hsz (by rw [hv, hpre, hoff]) rfl hb (by simp) (by rw [hr.len, hm]) (by rw [hcl]; simp) hr.one (fun w' hb' hf hz => ?_)
  rw [splice_mid _ _ _ _ hcl] at hb'
  exact lftW_set (ob' := .box T0 (setA tr p a)) hH hE hq trivial (by rw [G.blk, hmk]; rfl) hf ⟨b', _, hmk, hb', hset a _ hr (by rw [hm, hm'])⟩ h
theorem mo_storeR {T E : TypeId} {x y : Operand} {k off q m i s : Nat} {p : List Nat} {xs : List A} {el old a : A} {ti : TypeInfo} (hi : P.info? T = some ti) (hsz : ti.size = m) (hx : ea n α x = .ptr k (i :: p) off) (hy : ea n α y = a) (ha : wholeA a = true) (hq : Hs[q]? = some ⟨k, .row E s xs⟩)
    (hel : xs[i]? = some el) (hg : getA el p = some old) (hoff : i * s + offA el p = off) (hm : sz a = m) (hm' : sz old = m) (h : next (setOb Hs q (.row E s (xs.set i (setA el p a)))) α) (ho : okC x = true := by rfl) (ho' : okC y = true := by rfl) :
    MO P n [q] ⟨none, .store T x y, ty, pos, af, gd⟩ Hs α next := .of fun w0 S0 g ρ w kk hH hE => by
  have hp := hE.ev n x ho
  rw [hx] at hp
  have hr := (hy ▸ hE.ev n y ho' : RV g a _).cells ha
  obtain ⟨v, cs, hmk, hown, hc, hs⟩ := hH.ob q _ hq
  rcases hown.2 with ⟨rfl, _⟩ | ⟨b', cap, cur, rfl, h0, hh, h1, h2, h3, h4⟩
  · exact (ptr_nil hp hmk).elim
  have hv := ptr_row hp hmk
  obtain ⟨pre, c, post, rfl, hpre, hrc, hset⟩ := get_RC (i :: p) (a := .arr xs.length s xs) (.arr rfl hs hc) (by simp only [getA, hel]; exact hg)
  simp only [offA, hel] at hpre
  simp only [setA, hel] at hset
  have hcl : (ev n ρ y).cells.toList.length = c.length := by rw [hr.len, hrc.len, hm, hm']
  have hcur : cur.toList = pre ++ (c ++ (post ++ cur.toList.drop (xs.length * s))) := by
    conv => lhs; rw [← List.take_append_drop (xs.length * s) cur.toList, h4]
    simp
  have hBx : Bx w b' E (pre ++ (c ++ (post ++ cur.toList.drop (xs.length * s)))) := by unfold Bx; rw [← hcur]; simpa using hh
  refine ow_store (b := b') (o := pre.length) (sz := m) (xs := (ev n ρ y).cells.toList) hi hsz (by rw [hv, hpre, hoff]) rfl hBx (by simp) (by rw [hr.len, hm]) (by rw [hcl]; simp) hr.one (fun w' hb' hf hz => ?_)
  rw [splice_mid _ _ _ _ hcl] at hb'
  refine lftW_set (ob' := .row E s (xs.set i (setA el p a))) hH hE hq trivial (by rw [G.blk, hmk]; rfl) hf ?_ h
  have hn := hset a _ hr (by rw [hm, hm'])
  cases hn with
  | arr hn' hs' hl' =>
    refine ⟨_, _, hmk, ⟨?_, .inr ⟨b', cap, _, by rw [hn'], h0, hb', by rw [hn']; exact h1, h2, ?_, ?_⟩⟩, hl', hs'⟩
    · rw [hl'.len, szL_uni hs']
    · have := congrArg List.length hcur
      simp only [List.length_append, Array.length_toList] at this
      simp only [List.size_toArray, List.length_append, hcl]; omega
    · have hlen : (pre ++ ((ev n ρ y).cells.toList ++ post)).length = (xs.set i (setA el p a)).length * s := by rw [hl'.len, szL_uni hs']
      rw [← List.append_assoc, ← List.append_assoc, ← hlen]
      simp only [List.append_assoc]
      rw [show pre ++ ((ev n ρ y).cells.toList ++ (post ++ List.drop (xs.length * s) cur.toList)) = (pre ++ ((ev n ρ y).cells.toList ++ post)) ++ List.drop (xs.length * s) cur.toList by simp]
      exact List.take_left
end
end Go.Proofs.Ytlklapledogdcaa.K
