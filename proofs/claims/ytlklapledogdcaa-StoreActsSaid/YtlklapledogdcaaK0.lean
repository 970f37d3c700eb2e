/- A weakest-precondition layer over the model's rules: frames as functions of the slot, four continuations, regions in text order and in drawn order. No condition. -/
import Derived.Test.YtlklapledogdcaaRows
import Derived.WalkKit
import Derived.OrdersHeld
namespace Go.Proofs.Ytlklapledogdcaa.K
open Go

abbrev Env := Nat → Value

def upd (ρ : Env) (d : Nat) (v : Value) : Env := fun t => bif Nat.beq t d then v else ρ t

theorem upd_same (ρ : Env) (d : Nat) (v : Value) : upd ρ d v d = v := by simp [upd]
theorem upd_ne (ρ : Env) {d t : Nat} (v : Value) (h : t ≠ d) : upd ρ d v t = ρ t := by
  have : Nat.beq t d = false := by
    cases e : Nat.beq t d
    · rfl
    · exact absurd (Nat.eq_of_beq_eq_true e) h
  simp [upd, this]
theorem upd_self (ρ : Env) {d : Nat} {v : Value} (h : ρ d = v) : upd ρ d v = ρ := by
  funext t
  by_cases e : t = d
  · subst e; rw [upd_same, h]
  · rw [upd_ne _ _ e]

def ev (n : Nat) (ρ : Env) : Operand → Value
  | .tmp t => bif Nat.blt t n then ρ t else undef
  | .const v => v
  | .global g => .pointer (some ⟨g, 0, none⟩)
  | .func f => .func (.func f) #[] #[]

def ac (n : Nat) (ρ : Env) (ds : List Deferred) : Act := { tmps := Array.ofFn (n := n) fun i => ρ i.val, defers := ds }

theorem blt_no {t n : Nat} (h : ¬ t < n) : Nat.blt t n = false := by
  cases e : Nat.blt t n
  · rfl
  · exact absurd (Nat.le_of_ble_eq_true e) h
theorem blt_yes {t n : Nat} (h : t < n) : Nat.blt t n = true := Nat.ble_eq_true_of_le h

theorem ac_get (n : Nat) (ρ : Env) (t : Nat) : (Array.ofFn (n := n) fun i => ρ i.val).getD t undef = bif Nat.blt t n then ρ t else undef := by
  by_cases h : t < n
  · simp [Array.getD, h, blt_yes h]
  · simp [Array.getD, h, blt_no h]

theorem ac_eval (n : Nat) (ρ : Env) (ds : List Deferred) : (ac n ρ ds).eval = ev n ρ := by
  funext x
  cases x with
  | tmp t => exact ac_get n ρ t
  | const v => rfl
  | global g => rfl
  | func f => rfl

theorem ac_put {n d : Nat} (ρ : Env) (ds : List Deferred) (v : Value) (_hd : Nat.blt d n = true) :
    (ac n ρ ds).put (some d) v = ac n (upd ρ d v) ds := by
  simp only [Act.put, ac, Act.mk.injEq, and_true]
  apply Array.ext
  · simp
  · intro i h1 h2
    have hi : i < n := by simpa using h2
    simp only [Array.getElem_ofFn]
    by_cases e : d = i
    · subst e; simp [upd]
    · rw [upd_ne ρ v (fun h => e h.symm)]
      rw [Array.getElem_setIfInBounds]
      · rw [if_neg e, Array.getElem_ofFn]
      · simpa using hi

/-- What follows: by the four ways on. -/
structure Ks where
  N : List Deferred → Env → World → Prop
  X : Nat → List Deferred → Env → World → Prop
  R : List Deferred → Env → World → Prop
  E : List Deferred → Env → List PanicEntry → World → Prop

def qof (n : Nat) (k : Ks) : Exit → Act → World → Prop
  | .normal, a, w => ∃ ds ρ, a = ac n ρ ds ∧ k.N ds ρ w
  | .exit i, a, w => ∃ ds ρ, a = ac n ρ ds ∧ k.X i ds ρ w
  | .ret, a, w => ∃ ds ρ, a = ac n ρ ds ∧ k.R ds ρ w
  | .panic c, a, w => k.E a.defers (fun t => a.tmps.getD t undef) c w
  | .goto _, _, _ => False
  | .outgrown, _, _ => False

structure KC (P : Program) (n : Nat) (c : Code) (k : Ks) (ds : List Deferred) (ρ : Env) (w : World) : Prop where
  of ::
  wp : c.wp P (qof n k) (ac n ρ ds) w

def kSeq (P : Program) (n : Nat) (y : Code) (k : Ks) : Ks := { N := KC P n y k, X := k.X, R := k.R, E := k.E }
def kBlk (id : Nat) (k : Ks) : Ks := { N := k.N, X := fun i ds ρ w => if i = id then k.N ds ρ w else k.X i ds ρ w, R := k.R, E := k.E }
def kLp (J : List Deferred → Env → World → Prop) (k : Ks) : Ks := { N := J, X := k.X, R := k.R, E := k.E }

section
variable {P : Program} {n : Nat} {k : Ks} {ds : List Deferred} {ρ : Env} {w : World}

theorem qof_mono {k k' : Ks} (hN : ∀ ds ρ w, k.N ds ρ w → k'.N ds ρ w) (hX : ∀ i ds ρ w, k.X i ds ρ w → k'.X i ds ρ w) (hR : ∀ ds ρ w, k.R ds ρ w → k'.R ds ρ w)
    (hE : ∀ ds ρ c w, k.E ds ρ c w → k'.E ds ρ c w) : ∀ e a w, qof n k e a w → qof n k' e a w := by
  intro e a w h
  cases e with
  | normal => obtain ⟨ds, ρ, ha, h⟩ := h; exact ⟨ds, ρ, ha, hN _ _ _ h⟩
  | exit i => obtain ⟨ds, ρ, ha, h⟩ := h; exact ⟨ds, ρ, ha, hX _ _ _ _ h⟩
  | ret => obtain ⟨ds, ρ, ha, h⟩ := h; exact ⟨ds, ρ, ha, hR _ _ _ h⟩
  | panic c => exact hE _ _ _ _ h
  | goto _ => exact h
  | outgrown => exact h

theorem k_mono {c : Code} {k k' : Ks} (h : KC P n c k ds ρ w) (hN : ∀ ds ρ w, k.N ds ρ w → k'.N ds ρ w) (hX : ∀ i ds ρ w, k.X i ds ρ w → k'.X i ds ρ w)
    (hR : ∀ ds ρ w, k.R ds ρ w → k'.R ds ρ w) (hE : ∀ ds ρ c w, k.E ds ρ c w → k'.E ds ρ c w) : KC P n c k' ds ρ w :=
  ⟨wp_mono h.wp (qof_mono hN hX hR hE)⟩

theorem k_seq {x y : Code} (h : KC P n x (kSeq P n y k) ds ρ w) : KC P n (.seq x y) k ds ρ w := by
  refine ⟨wp_seq (wp_mono h.wp fun e a w hq => ?_)⟩
  cases e with
  | normal => obtain ⟨ds, ρ, rfl, h⟩ := hq; exact h.wp
  | exit i => exact hq
  | ret => exact hq
  | panic c => exact hq
  | goto _ => exact hq
  | outgrown => exact hq

theorem k_block {id : Nat} {c : Code} (h : KC P n c (kBlk id k) ds ρ w) : KC P n (.block id c) k ds ρ w := by
  refine ⟨wp_block (wp_mono h.wp fun e a w hq => ?_)⟩
  cases e with
  | normal => exact hq
  | exit i =>
    obtain ⟨ds, ρ, rfl, h⟩ := hq
    simp only [kBlk] at h
    simp only [Exit.inBlock]
    split
    · rename_i e; rw [if_pos e] at h; exact ⟨ds, ρ, rfl, h⟩
    · rename_i e; rw [if_neg e] at h; exact ⟨ds, ρ, rfl, h⟩
  | ret => exact hq
  | panic c => exact hq
  | goto _ => exact hq
  | outgrown => exact hq

theorem k_skip (h : k.N ds ρ w) : KC P n .skip k ds ρ w := ⟨wp_skip ⟨ds, ρ, rfl, h⟩⟩
theorem k_exit {i : Nat} (h : k.X i ds ρ w) : KC P n (.exit i) k ds ρ w := ⟨wp_exit ⟨ds, ρ, rfl, h⟩⟩
theorem k_ret (h : k.R ds ρ w) : KC P n .ret k ds ρ w := ⟨wp_ret ⟨ds, ρ, rfl, h⟩⟩

theorem k_cond {c : Operand} {x y : Code} {b : Bool} (hb : ev n ρ c = .bool b) (ht : b = true → KC P n x k ds ρ w) (hf : b = false → KC P n y k ds ρ w) :
    KC P n (.cond c x y) k ds ρ w := by
  exact ⟨wp_cond_split (t := b) (by rw [ac_eval]; exact hb) (fun e => (ht e).wp) (fun e => (hf e).wp)⟩
theorem k_condT {c : Operand} {x y : Code} (hb : ev n ρ c = .bool true) (h : KC P n x k ds ρ w) : KC P n (.cond c x y) k ds ρ w :=
  k_cond hb (fun _ => h) (fun h => by cases h)
theorem k_condF {c : Operand} {x y : Code} (hb : ev n ρ c = .bool false) (h : KC P n y k ds ρ w) : KC P n (.cond c x y) k ds ρ w :=
  k_cond hb (fun h => by cases h) (fun _ => h)
theorem k_condp {c : Operand} {x y : Code} {p : Prop} [Decidable p] (hb : ev n ρ c = .bool (decide p)) (ht : p → KC P n x k ds ρ w) (hf : ¬ p → KC P n y k ds ρ w) :
    KC P n (.cond c x y) k ds ρ w :=
  k_cond hb (fun h => ht (of_decide_eq_true h)) (fun h => hf (of_decide_eq_false h))

theorem x_seq {y : Code} (h : KC P n y k ds ρ w) : (kSeq P n y k).N ds ρ w := h
theorem x_seqX {y : Code} {i : Nat} (h : k.X i ds ρ w) : (kSeq P n y k).X i ds ρ w := h
theorem x_seqR {y : Code} (h : k.R ds ρ w) : (kSeq P n y k).R ds ρ w := h
theorem x_seqE {y : Code} {c : List PanicEntry} (h : k.E ds ρ c w) : (kSeq P n y k).E ds ρ c w := h
theorem x_blk {id : Nat} (h : k.N ds ρ w) : (kBlk id k).N ds ρ w := h
theorem x_blkX {id : Nat} (h : k.N ds ρ w) : (kBlk id k).X id ds ρ w := by simp only [kBlk, if_true]; exact h
theorem x_blkXn {id i : Nat} (hn : (i == id) = false) (h : k.X i ds ρ w) : (kBlk id k).X i ds ρ w := by
  simp only [kBlk]; rw [if_neg (by simpa using hn)]; exact h
theorem x_blkR {id : Nat} (h : k.R ds ρ w) : (kBlk id k).R ds ρ w := h
theorem x_blkE {id : Nat} {c : List PanicEntry} (h : k.E ds ρ c w) : (kBlk id k).E ds ρ c w := h
theorem x_lpX {J : List Deferred → Env → World → Prop} {i : Nat} (h : k.X i ds ρ w) : (kLp J k).X i ds ρ w := h
theorem x_lpR {J : List Deferred → Env → World → Prop} (h : k.R ds ρ w) : (kLp J k).R ds ρ w := h
theorem x_lpE {J : List Deferred → Env → World → Prop} {c : List PanicEntry} (h : k.E ds ρ c w) : (kLp J k).E ds ρ c w := h
theorem x_lp {J : List Deferred → Env → World → Prop} (h : J ds ρ w) : (kLp J k).N ds ρ w := h

theorem wp_loop_ix {c : Code} {Q : Exit → Act → World → Prop} (I : Nat → Act → World → Prop) {m0 : Nat} {a : Act} (h₀ : I m0 a w)
    (round : ∀ m a w, I m a w → c.wp P (Exit.then (fun a' w' => ∃ m', m' < m ∧ I m' a' w') Q) a w) : (Code.loop c).wp P Q a w := by
  intro b k cs
  have key : ∀ m a w, I m a w →
      ∃ e a' w', Q e a' w' ∧ Arrives P (lone (b.at a (.code c :: .inLoop c :: k)) cs w) b k cs e a' w' := by
    intro m
    induction m using Nat.strongRecOn with
    | _ m ih =>
      intro a w hI
      obtain ⟨e, a₁, w₁, hq, harr⟩ := round m a w hI b (.inLoop c :: k) cs
      cases e with
      | normal =>
        obtain ⟨m', hlt, hI₁⟩ := hq
        obtain ⟨e₂, a₂, w₂, hq₂, harr₂⟩ := ih m' hlt a₁ w₁ hI₁
        exact ⟨e₂, a₂, w₂, hq₂, .of_steps (Steps.trans harr (.one step_inLoop)) harr₂⟩
      | exit id => exact ⟨_, a₁, w₁, hq, .pass (x := .inLoop c) rfl (fun _ _ => .inl (by simp)) harr⟩
      | goto l => exact ⟨_, a₁, w₁, hq, .pass (x := .inLoop c) rfl (fun _ _ => .inl (by simp)) harr⟩
      | ret => exact ⟨_, a₁, w₁, hq, .pass (x := .inLoop c) rfl (fun _ _ => .inl (by simp)) harr⟩
      | panic ch => exact ⟨_, a₁, w₁, hq, .pass (x := .inLoop c) rfl (fun _ _ => .inl (by simp)) harr⟩
      | outgrown => exact ⟨_, a₁, w₁, hq, .pass (x := .inLoop c) rfl (fun _ _ => .inl (by simp)) harr⟩
  obtain ⟨e, a', w', hq, harr⟩ := key _ a w h₀
  exact ⟨e, a', w', hq, .of_steps (.one step_loop) harr⟩

/-- A loop: a statement I of what is left (a number), the frame and the world. -/
theorem k_loop {c : Code} (I : Nat → Env → World → Prop) (m0 : Nat) (h0 : I m0 ρ w)
    (round : ∀ m ρ w, I m ρ w → KC P n c (kLp (fun ds' ρ' w' => ds' = ds ∧ ∃ m', m' < m ∧ I m' ρ' w') k) ds ρ w) : KC P n (.loop c) k ds ρ w := by
  refine ⟨wp_loop_ix (I := fun m a w => ∃ ρ, a = ac n ρ ds ∧ I m ρ w) (m0 := m0) ⟨ρ, rfl, h0⟩ ?_⟩
  rintro m a w ⟨ρ, rfl, hI⟩
  refine wp_mono (round m ρ w hI).wp fun e a w hq => ?_
  cases e with
  | normal =>
    obtain ⟨ds', ρ', rfl, rfl, m', hlt, h⟩ := hq
    exact ⟨m', hlt, ρ', rfl, h⟩
  | exit i => exact hq
  | ret => exact hq
  | panic c => exact hq
  | goto _ => exact hq
  | outgrown => exact hq

theorem x_lpN {I : Nat → Env → World → Prop} {m : Nat} (m' : Nat) (hlt : m' < m) (h : I m' ρ w) :
    (kLp (fun ds' ρ' w' => ds' = ds ∧ ∃ m', m' < m ∧ I m' ρ' w') k).N ds ρ w := ⟨rfl, m', hlt, h⟩

/-! ### Operations -/

/-- An operation leaves a value and the world as it is. -/
structure Y (P : Program) (n : Nat) (ρ : Env) (o : Oper) (w : World) (v : Value) : Prop where
  of ::
  run : (execOp (ev n ρ) o).run P w = .ok (.value v) w

/-- An operation, whatever it does, and what follows. -/
structure OW (P : Program) (n : Nat) (k : Ks) (o : Oper) (ds : List Deferred) (ρ : Env) (w : World) (next : List Deferred → Env → World → Prop) : Prop where
  of ::
  wp : o.wp P (ac n ρ ds) w (fun a w => ∃ ds ρ, a = ac n ρ ds ∧ next ds ρ w) (qof n k)

structure KL (P : Program) (n : Nat) (ops : Array Oper) (k : Ks) (l : List Oper) (ds : List Deferred) (ρ : Env) (w : World) : Prop where
  of ::
  wp : wpList P ops (qof n k) l (ac n ρ ds) w

theorem k_region {id : Nat} {l : List Oper} (h : KL P n l.toArray k l ds ρ w) : KC P n (.region id l.toArray false) k ds ρ w := ⟨wp_region_lit h.wp⟩

variable {ops : Array Oper} {o : Oper} {rest : List Oper} {next : List Deferred → Env → World → Prop}

theorem kl_nil (h : k.N ds ρ w) : KL P n ops k [] ds ρ w := ⟨⟨ds, ρ, rfl, h⟩⟩

theorem wpList_of {a : Act} (hw : Region.wanted o (yielded ops a.tmps) = true) {Q : Exit → Act → World → Prop} (h : o.wp P a w (wpList P ops Q rest) Q) :
    wpList P ops Q (o :: rest) a w := by
  unfold wpList; rw [if_pos hw]; exact .inl h

theorem wanted_none (hg : o.guard = none) (y : Nat → Option Bool) : Region.wanted o y = true := by simp [Region.wanted, hg]

theorem yielded_ac {j t : Nat} {b : Bool} (hj : (ops[j]?).bind (·.dst) = some t) (hv : ev n ρ (.tmp t) = .bool b) : yielded ops (ac n ρ ds).tmps j = some b := by
  unfold yielded
  rw [hj]
  have : ((ac n ρ ds).tmps)[t]? = some (.bool b) := by
    simp only [ev] at hv
    by_cases ht : t < n
    · rw [blt_yes ht] at hv
      simp only [cond_true] at hv
      simp [ac, ht, hv]
    · rw [blt_no ht] at hv
      simp [undef] at hv
  simp [this]

theorem kl_ow (hg : o.guard = none) (h : OW P n k o ds ρ w (KL P n ops k rest)) : KL P n ops k (o :: rest) ds ρ w :=
  ⟨wpList_of (wanted_none hg _) (Oper.wp_mono (fun _ _ ⟨_, _, ha, hk⟩ => ha ▸ hk.wp) h.wp)⟩

theorem kl_owG {j t : Nat} {b : Bool} (hg : o.guard = some (j, b)) (hj : (ops[j]?).bind (·.dst) = some t) (hv : ev n ρ (.tmp t) = .bool b)
    (h : OW P n k o ds ρ w (KL P n ops k rest)) : KL P n ops k (o :: rest) ds ρ w :=
  ⟨wpList_of (by simp [Region.wanted, hg, yielded_ac hj hv]) (Oper.wp_mono (fun _ _ ⟨_, _, ha, hk⟩ => ha ▸ hk.wp) h.wp)⟩

theorem kl_skipG {j t d : Nat} {b b' : Bool} (hg : o.guard = some (j, b)) (hj : (ops[j]?).bind (·.dst) = some t) (hv : ev n ρ (.tmp t) = .bool b') (hb : (b' == b) = false)
    (hd : o.dst = some d) (hdn : Nat.blt d n = true) (h : KL P n ops k rest ds (upd ρ d undef) w) : KL P n ops k (o :: rest) ds ρ w := by
  refine ⟨?_⟩
  unfold wpList
  rw [if_neg (by
    have hb' : ¬ b' = b := by simpa using hb
    simp [Region.wanted, hg, yielded_ac hj hv, hb']), hd, ac_put _ _ _ hdn]
  exact h.wp

theorem ow_val {d : Nat} {v : Value} (hy : Y P n ρ o w v) (hd : o.dst = some d) (hdn : Nat.blt d n = true) (h : next ds (upd ρ d v) w) : OW P n k o ds ρ w next := by
  refine ⟨?_⟩
  unfold Oper.wp
  rw [ac_eval, hy.run, Oper.upon_value, hd, ac_put _ _ _ hdn]
  exact ⟨ds, _, rfl, h⟩

theorem kl_val {d : Nat} {v : Value} (hy : Y P n ρ o w v) (hg : o.guard = none) (hd : o.dst = some d) (hdn : Nat.blt d n = true) (h : KL P n ops k rest ds (upd ρ d v) w) :
    KL P n ops k (o :: rest) ds ρ w := kl_ow hg (ow_val hy hd hdn h)

theorem kl_valG {d : Nat} {v : Value} (hy : Y P n ρ o w v) {j t : Nat} {b : Bool} (hg : o.guard = some (j, b)) (hj : (ops[j]?).bind (·.dst) = some t) (hv : ev n ρ (.tmp t) = .bool b)
    (hd : o.dst = some d) (hdn : Nat.blt d n = true) (h : KL P n ops k rest ds (upd ρ d v) w) :
    KL P n ops k (o :: rest) ds ρ w := kl_owG hg hj hv (ow_val hy hd hdn h)

/-! ### Regions that draw their order -/

/-- Whatever order is picked from here on; S holds behind every operation but those of wv. -/
def wpAnyG (P : Program) (md : Region.Mode) (ops : Array Oper) (Q : Exit → Act → World → Prop) (S : World → Prop) (wv : List Nat) : Nat → Array Bool → Act → World → Prop
  | 0, listed, a, w => Region.ready md ops listed = [] ∧ Q .normal a w
  | fuel + 1, listed, a, w =>
    (Region.ready md ops listed = [] → Q .normal a w) ∧
    ∀ i ∈ Region.ready md ops listed, wpOp P ops Q i (fun a' w' => (wv.contains i = false → S w') ∧ wpAnyG P md ops Q S wv fuel (listed.setIfInBounds i true) a' w') a w

theorem wpAny_of_G {S : World → Prop} {wv : List Nat} {Q : Exit → Act → World → Prop} {md : Region.Mode} : ∀ (fuel : Nat) (listed : Array Bool) (a : Act) (w : World), wpAnyG P md ops Q S wv fuel listed a w → wpAny P md ops Q fuel listed a w
  | 0, _, _, _, h => h
  | fuel + 1, _, _, _, h => ⟨h.1, fun i hi => wpOp_mono (fun a' w' h' => wpAny_of_G fuel _ a' w' h'.2) (h.2 i hi)⟩

def reach (md : Region.Mode) (ops : Array Oper) (i : Nat) : Nat → Nat → Bool
  | 0, _ => false
  | f + 1, j => match ops[j]? with
    | some oj => oj.after.any fun e => Region.binds md e && (e.on == i || reach md ops i f e.on)
    | none => false

def waits (md : Region.Mode) (ops : Array Oper) (wv : List Nat) (i : Nat) : Bool :=
  wv.all fun j => j == i || reach md ops i 2 j

/-- What has come up has waited for all that it waits for. -/
def Shut (md : Region.Mode) (ops : Array Oper) (listed : Array Bool) : Prop :=
  ∀ j oj, ops[j]? = some oj → listed.getD j false = true → ∀ e ∈ oj.after, Region.binds md e = true → listed.getD e.on false = true

theorem Shut.set {md : Region.Mode} {listed : Array Bool} {i : Nat} (h : Shut md ops listed) (hi : i ∈ Region.ready md ops listed) : Shut md ops (listed.setIfInBounds i true) := by
  intro j oj hj hl e he hb
  refine getD_set_true ?_
  by_cases hji : j = i
  · subst hji
    obtain ⟨_, oj', hoj', hall⟩ := mem_ready.1 hi
    rw [hj] at hoj'
    cases hoj'
    exact hall e he hb
  · rw [getD_set_ne false (fun h => hji h.symm)] at hl
    exact h j oj hj hl e he hb

theorem Shut.reach {md : Region.Mode} {listed : Array Bool} {i : Nat} (h : Shut md ops listed) : ∀ (f j : Nat), (∀ oj, ops[j]? = some oj → ∀ e ∈ oj.after, Region.binds md e = true → listed.getD e.on false = true) →
    reach md ops i f j = true → listed.getD i false = true
  | 0, _, _, hr => by cases hr
  | f + 1, j, hj, hr => by
    unfold K.reach at hr
    cases ho : ops[j]? with
    | none => rw [ho] at hr; cases hr
    | some oj =>
      rw [ho] at hr
      obtain ⟨e, he, hb⟩ := Array.any_eq_true'.1 hr
      simp only [Bool.and_eq_true, Bool.or_eq_true, beq_iff_eq] at hb
      have hl := hj oj ho e he hb.1
      rcases hb.2 with hb | hb
      · rw [← hb]; exact hl
      · exact Shut.reach h f e.on (fun oj' ho' e' he' hb' => h e.on oj' ho' hl e' he' hb') hb

theorem wpAnyG_first {S : World → Prop} {wv : List Nat} {Q : Exit → Act → World → Prop} {md : Region.Mode} {i : Nat} {oi : Oper} {v : Value} (hi : ops[i]? = some oi) (hsel : ∀ (j : Nat) (o : Oper) cs b, ops[j]? = some o → o.op ≠ .select cs b)
    (hQ : ∀ c a w, Q (.panic c) (a.put oi.dst v) w → Q (.panic c) a w) (hwt : waits md ops wv i = true) :
    ∀ (fuel : Nat) (listed : Array Bool) (a : Act) (w : World), Shut md ops listed →
      (∀ j oj, ops[j]? = some oj → j ≠ i → listed.getD j true = false → (∀ e ∈ oj.after, Region.binds md e = true → e.on ≠ i) → oi.apart ops oj = true) →
      i ∈ Region.ready md ops listed → YieldsIf P ops S oi v a → S w →
      wpAnyG P md ops Q S wv fuel (listed.setIfInBounds i true) (a.put oi.dst v) w → wpAnyG P md ops Q S wv (fuel + 1) listed a w := by
  intro fuel
  induction fuel with
  | zero =>
    intro listed a w _ _ hr hy hS H
    refine ⟨fun h => (by rw [h] at hr; cases hr), fun j hj => ?_⟩
    by_cases hji : j = i
    · subst hji; exact hy.wpOp hi hS ⟨fun _ => hS, H⟩
    · have := ready_mono hj hji
      rw [H.1] at this
      cases this
  | succ fuel ih =>
    intro listed a w hsh hfree hr hy hS H
    refine ⟨fun h => (by rw [h] at hr; cases hr), fun j hj => ?_⟩
    by_cases hji : j = i
    · subst hji; exact hy.wpOp hi hS ⟨fun _ => hS, H⟩
    · have h1 := H.2 j (ready_mono hj hji)
      obtain ⟨hjun, oj, hoj, hall⟩ := mem_ready.1 hj
      have hnot : ∀ e ∈ oj.after, Region.binds md e = true → e.on ≠ i := fun e he hb heq => by
        have h1 := hall e he hb
        have h0 := (mem_ready.1 hr).1
        rw [heq] at h1
        rcases Nat.lt_or_ge i listed.size with h' | h'
        · simp [h'] at h0 h1; rw [h0] at h1; cases h1
        · simp [Array.getElem?_eq_none h'] at h1
      have hwj : wv.contains j = false := by
        cases hc : wv.contains j with
        | false => rfl
        | true =>
          unfold waits at hwt
          rw [List.all_eq_true] at hwt
          have := hwt j (by simpa using hc)
          simp only [Bool.or_eq_true, beq_iff_eq, hji, false_or] at this
          have hl := hsh.reach 2 j (fun oj' ho' e he hb => by rw [hoj] at ho'; cases ho'; exact hall e he hb) this
          have h0 := (mem_ready.1 hr).1
          rcases Nat.lt_or_ge i listed.size with h' | h'
          · simp [h'] at h0 hl; rw [h0] at hl; cases hl
          · simp [Array.getElem?_eq_none h'] at hl
      have h2 := wpOp_putIf hoj (hfree j oj hoj hji hjun hnot) (fun cs b => hsel i oi cs b hi) (fun cs b => hsel j oj cs b hoj) hQ hy h1
      have hfree' : ∀ k ok, ops[k]? = some ok → k ≠ i → (listed.setIfInBounds j true).getD k true = false →
          (∀ e ∈ ok.after, Region.binds md e = true → e.on ≠ i) → oi.apart ops ok = true := fun k ok hk hki hun hno => by
        refine hfree k ok hk hki ?_ hno
        by_cases hjk : j = k
        · subst hjk; exact hjun
        · rw [getD_set_ne true hjk] at hun; exact hun
      refine wpOp_mono (fun a' w' h3 => ⟨h3.2.1, ih (listed.setIfInBounds j true) a' w' (hsh.set hj) hfree' (ready_mono hr (Ne.symm hji)) h3.1 (h3.2.1 hwj) ?_⟩) h2
      rw [Array.setIfInBounds_comm _ _ hji]
      exact h3.2.2

theorem wpAnyG_done {S : World → Prop} {wv : List Nat} {Q : Exit → Act → World → Prop} {md : Region.Mode} {listed : Array Bool} {a : Act} (hr : Region.ready md ops listed = []) (h : Q .normal a w) :
    ∀ fuel, wpAnyG P md ops Q S wv fuel listed a w
  | 0 => ⟨hr, h⟩
  | _ + 1 => ⟨fun _ => h, by rw [hr]; simp⟩

def okS (md : Region.Mode) (ops : Array Oper) (wv : List Nat) : List (Nat × Bool) → Array Bool → Bool
  | [], listed => (Region.ready md ops listed).isEmpty
  | (i, true) :: r, listed => (Region.ready md ops listed).contains i && Region.free md ops listed i && waits md ops wv i && okS md ops wv r (listed.setIfInBounds i true)
  | (i, false) :: r, listed => decide (Region.ready md ops listed = [i]) && okS md ops wv r (listed.setIfInBounds i true)

def KRd (P : Program) (n : Nat) (ops : Array Oper) (k : Ks) (wv : List Nat) : List (Nat × Bool) → (World → Prop) → List Deferred → Env → World → Prop
  | [], _, ds, ρ, w => k.N ds ρ w
  | (i, true) :: r, S, ds, ρ, w => S w ∧ ∃ o v ρ', ops[i]? = some o ∧ YieldsIf P ops S o v (ac n ρ ds) ∧ (ac n ρ ds).put o.dst v = ac n ρ' ds ∧ KRd P n ops k wv r S ds ρ' w
  | (i, false) :: r, S, ds, ρ, w => ∃ o, ops[i]? = some o ∧
      ((Region.wanted o (yielded ops (ac n ρ ds).tmps) = true ∧ OW P n k o ds ρ w (fun ds ρ w => (wv.contains i = false → S w) ∧ ∃ S' : World → Prop, (∀ w, S' w → S w) ∧ KRd P n ops k wv r S' ds ρ w)) ∨
       (Region.wanted o (yielded ops (ac n ρ ds).tmps) = false ∧ (wv.contains i = false → S w) ∧ ∃ ρ', (ac n ρ ds).put o.dst undef = ac n ρ' ds ∧ KRd P n ops k wv r S ds ρ' w))

structure KR (P : Program) (n : Nat) (ops : Array Oper) (k : Ks) (S : World → Prop) (wv : List Nat) (r : List (Nat × Bool)) (ds : List Deferred) (ρ : Env) (w : World) : Prop where
  of ::
  out : KRd P n ops k wv r S ds ρ w

theorem put_defers (a : Act) (d : Option Tmp) (v : Value) : (a.put d v).defers = a.defers := by cases d <;> rfl

theorem wpAnyG_weak {S S' : World → Prop} {wv : List Nat} {Q : Exit → Act → World → Prop} {md : Region.Mode} (h : ∀ w, S' w → S w) : ∀ (fuel : Nat) (listed : Array Bool) (a : Act) (w : World),
    wpAnyG P md ops Q S' wv fuel listed a w → wpAnyG P md ops Q S wv fuel listed a w
  | 0, _, _, _, H => H
  | fuel + 1, _, _, _, H => ⟨H.1, fun j hj => wpOp_mono (fun a' w' h3 => ⟨fun hw => h _ (h3.1 hw), wpAnyG_weak h fuel _ a' w' h3.2⟩) (H.2 j hj)⟩

theorem kr_sound {wv : List Nat} (hs : Region.noSelect ops = true) (hE : ∀ ds ρ ρ' c w, k.E ds ρ c w → k.E ds ρ' c w) : ∀ (sched : List (Nat × Bool)) (S : World → Prop) (listed : Array Bool) (ds : List Deferred) (ρ : Env) (w : World),
    Shut .any ops listed → okS .any ops wv sched listed = true → KRd P n ops k wv sched S ds ρ w → wpAnyG P .any ops (qof n k) S wv sched.length listed (ac n ρ ds) w
  | [], _, listed, ds, ρ, w, _, hB, h => wpAnyG_done (by simpa [okS] using hB) ⟨ds, ρ, rfl, h⟩ _
  | (i, true) :: r, S, listed, ds, ρ, w, hsh, hB, h => by
    simp only [okS, Bool.and_eq_true] at hB
    obtain ⟨hS, o, v, ρ', ho, hy, hp, hk⟩ := h
    refine wpAnyG_first ho (Region.noSelect_spec hs) (fun c a w hq => ?_) hB.1.2 _ _ _ _ hsh (Region.free_spec ho hB.1.1.2) (by simpa using hB.1.1.1) hy hS ?_
    · simp only [qof, put_defers] at hq ⊢; exact hE _ _ _ _ _ hq
    · rw [hp]; exact kr_sound hs hE r S _ ds ρ' w (hsh.set (by simpa using hB.1.1.1)) hB.2 hk
  | (i, false) :: r, S, listed, ds, ρ, w, hsh, hB, h => by
    simp only [okS, Bool.and_eq_true, decide_eq_true_eq] at hB
    obtain ⟨o, ho, h⟩ := h
    have hsh' := hsh.set (i := i) (by rw [hB.1]; simp)
    refine ⟨fun h0 => (by rw [hB.1] at h0; cases h0), fun j hj => ?_⟩
    rw [hB.1] at hj
    have hj : j = i := by simpa using hj
    subst hj
    unfold wpOp
    simp only [ho]
    rcases h with ⟨hw, h⟩ | ⟨hw, hS, ρ', hp, h⟩
    · rw [if_pos hw]
      refine .inl (Oper.wp_mono ?_ h.wp)
      rintro a w ⟨ds, ρ, rfl, hS, S', hi, hk⟩
      exact ⟨hS, wpAnyG_weak hi _ _ _ _ (kr_sound hs hE r S' _ ds ρ w hsh' hB.2 hk)⟩
    · rw [if_neg (by simp [hw]), hp]
      exact ⟨hS, kr_sound hs hE r S _ ds ρ' w hsh' hB.2 h⟩

theorem World.drew_def (w : World) : ({ w with drawn := w.drawn + 1 } : World) = w.drew := rfl

/-- A region that draws its order, over a statement S of the world that holds throughout; sched: an order, each number with 'may be taken first'. -/
theorem k_regionD {id : Nat} {l : List Oper} (S : World → Prop) (wv : List Nat) (sched : List (Nat × Bool)) (hm : P.follows .mixedOrders = true) (hE : ∀ ds ρ ρ' c w, k.E ds ρ c w → k.E ds ρ' c w)
    (hB : (Region.noSelect l.toArray && sched.length == l.toArray.size && okS .any l.toArray wv sched (Array.replicate l.toArray.size false)) = true)
    (h : KR P n l.toArray k S wv sched ds ρ w.drew) : KC P n (.region id l.toArray true) k ds ρ w := by
  simp only [Bool.and_eq_true, beq_iff_eq] at hB
  refine ⟨wp_region_any hm (wpAny_of_G (S := S) (wv := wv) _ _ _ _ ?_)⟩
  have := kr_sound hB.1.1 hE sched S _ ds ρ _ (fun j oj _ hl => by rw [show (Array.replicate l.toArray.size false).getD j false = false by simp [Array.getD]] at hl; cases hl) hB.2 h.out
  rw [hB.1.2] at this
  exact this

variable {S : World → Prop} {wv : List Nat} {r : List (Nat × Bool)} {i : Nat}

theorem kr_nil (h : k.N ds ρ w) : KR P n ops k S wv [] ds ρ w := ⟨h⟩

/-- A floating operation. -/
theorem kr_val {d : Nat} {v : Value} (ho : ops[i]? = some o) (hS : S w) (hy : ∀ w, S w → Y P n ρ o w v) (hg : o.guard = none) (hd : o.dst = some d) (hdn : Nat.blt d n = true)
    (h : KR P n ops k S wv r ds (upd ρ d v) w) : KR P n ops k S wv ((i, true) :: r) ds ρ w :=
  .of ⟨hS, o, v, upd ρ d v, ho, .inl ⟨wanted_none hg _, fun w hw => by rw [ac_eval]; exact (hy w hw).run⟩, by rw [hd, ac_put _ _ _ hdn], h.out⟩

theorem kr_valG {d : Nat} {v : Value} (ho : ops[i]? = some o) (hS : S w) (hy : ∀ w, S w → Y P n ρ o w v) {j t : Nat} {b : Bool} (hg : o.guard = some (j, b)) (hj : (ops[j]?).bind (·.dst) = some t)
    (hv : ev n ρ (.tmp t) = .bool b) (hd : o.dst = some d) (hdn : Nat.blt d n = true) (h : KR P n ops k S wv r ds (upd ρ d v) w) : KR P n ops k S wv ((i, true) :: r) ds ρ w :=
  .of ⟨hS, o, v, upd ρ d v, ho, .inl ⟨by simp [Region.wanted, hg, yielded_ac hj hv], fun w hw => by rw [ac_eval]; exact (hy w hw).run⟩, by rw [hd, ac_put _ _ _ hdn], h.out⟩

theorem kr_skipG {d : Nat} (ho : ops[i]? = some o) (hS : S w) {j t : Nat} {b b' : Bool} (hg : o.guard = some (j, b)) (hj : (ops[j]?).bind (·.dst) = some t)
    (hv : ev n ρ (.tmp t) = .bool b') (hb : (b' == b) = false) (hd : o.dst = some d) (hdn : Nat.blt d n = true) (h : KR P n ops k S wv r ds (upd ρ d undef) w) :
    KR P n ops k S wv ((i, true) :: r) ds ρ w :=
  .of ⟨hS, o, undef, upd ρ d undef, ho, .inr ⟨by
    have hb' : ¬ b' = b := by simpa using hb
    simp [Region.wanted, hg, yielded_ac hj hv, hb'], rfl⟩, by rw [hd, ac_put _ _ _ hdn], h.out⟩

theorem kr_ow (ho : ops[i]? = some o) (hg : o.guard = none) (h : OW P n k o ds ρ w (fun ds ρ w => (wv.contains i = false → S w) ∧ KR P n ops k S wv r ds ρ w)) : KR P n ops k S wv ((i, false) :: r) ds ρ w :=
  .of ⟨o, ho, .inl ⟨wanted_none hg _, .of (Oper.wp_mono (fun _ _ ⟨ds, ρ, ha, hS, hk⟩ => ⟨ds, ρ, ha, hS, S, fun _ h => h, hk.out⟩) h.wp)⟩⟩

theorem kr_owG {j t : Nat} {b : Bool} (ho : ops[i]? = some o) (hg : o.guard = some (j, b)) (hj : (ops[j]?).bind (·.dst) = some t) (hv : ev n ρ (.tmp t) = .bool b)
    (h : OW P n k o ds ρ w (fun ds ρ w => (wv.contains i = false → S w) ∧ KR P n ops k S wv r ds ρ w)) : KR P n ops k S wv ((i, false) :: r) ds ρ w :=
  .of ⟨o, ho, .inl ⟨by simp [Region.wanted, hg, yielded_ac hj hv], .of (Oper.wp_mono (fun _ _ ⟨ds, ρ, ha, hS, hk⟩ => ⟨ds, ρ, ha, hS, S, fun _ h => h, hk.out⟩) h.wp)⟩⟩

/-- As kr_ow; from here on more of the world is known. -/
theorem kr_owS (ho : ops[i]? = some o) (hg : o.guard = none) (h : OW P n k o ds ρ w (fun ds ρ w => (wv.contains i = false → S w) ∧ ∃ S' : World → Prop, (∀ w, S' w → S w) ∧ KR P n ops k S' wv r ds ρ w)) : KR P n ops k S wv ((i, false) :: r) ds ρ w :=
  .of ⟨o, ho, .inl ⟨wanted_none hg _, .of (Oper.wp_mono (fun _ _ ⟨ds, ρ, ha, hS, S', hi, hk⟩ => ⟨ds, ρ, ha, hS, S', hi, hk.out⟩) h.wp)⟩⟩
theorem kr_owGS {j t : Nat} {b : Bool} (ho : ops[i]? = some o) (hg : o.guard = some (j, b)) (hj : (ops[j]?).bind (·.dst) = some t) (hv : ev n ρ (.tmp t) = .bool b)
    (h : OW P n k o ds ρ w (fun ds ρ w => (wv.contains i = false → S w) ∧ ∃ S' : World → Prop, (∀ w, S' w → S w) ∧ KR P n ops k S' wv r ds ρ w)) : KR P n ops k S wv ((i, false) :: r) ds ρ w :=
  .of ⟨o, ho, .inl ⟨by simp [Region.wanted, hg, yielded_ac hj hv], .of (Oper.wp_mono (fun _ _ ⟨ds, ρ, ha, hS, S', hi, hk⟩ => ⟨ds, ρ, ha, hS, S', hi, hk.out⟩) h.wp)⟩⟩

theorem kr_skipS {j t d : Nat} {b b' : Bool} (ho : ops[i]? = some o) (hS : wv.contains i = false → S w) (hg : o.guard = some (j, b)) (hj : (ops[j]?).bind (·.dst) = some t) (hv : ev n ρ (.tmp t) = .bool b') (hb : (b' == b) = false)
    (hd : o.dst = some d) (hdn : Nat.blt d n = true) (h : KR P n ops k S wv r ds (upd ρ d undef) w) : KR P n ops k S wv ((i, false) :: r) ds ρ w :=
  .of ⟨o, ho, .inr ⟨by
    have hb' : ¬ b' = b := by simpa using hb
    simp [Region.wanted, hg, yielded_ac hj hv, hb'], hS, upd ρ d undef, by rw [hd, ac_put _ _ _ hdn], h.out⟩⟩

/-! ### Entering and leaving -/

def Res (P : Program) (fn : Func) (n : Nat) (ρ : Env) (w : World) (v : Value) : Prop := (results fn (ac n ρ []).tmps).run P w = .ok v w

/-- The frame as a panic leaves it. -/
def evr (n : Nat) (ρ : Env) : Env := fun t => ev n ρ (.tmp t)
theorem ac_evr (n : Nat) (ρ : Env) (ds : List Deferred) : (fun t => (ac n ρ ds).tmps.getD t undef) = evr n ρ := by funext t; exact ac_get n ρ t

def kFn (P : Program) (fn : Func) (n : Nat) (R' : Ending → World → Prop) : Ks where
  N := fun ds ρ w => ds = [] ∧ ∃ v, Res P fn n ρ w v ∧ R' (.returned v) w
  X := fun _ _ _ _ => False
  R := fun ds ρ w => ds = [] ∧ ∃ v, Res P fn n ρ w v ∧ R' (.returned v) w
  E := fun ds _ c w => ds = [] ∧ R' (.panicked c) w

/-- As kFn, of a function that defers. -/
def kFnD (P : Program) (fn : Func) (n : Nat) (R' : Ending → World → Prop) : Ks where
  N := fun ds ρ w => Leaves P fn (ac n ρ ds).tmps R' ds .returning w
  X := fun _ _ _ _ => False
  R := fun ds ρ w => Leaves P fn (ac n ρ ds).tmps R' ds .returning w
  E := fun ds ρ c w => ∀ tmps : Array Value, (∀ t, tmps.getD t undef = ρ t) → Leaves P fn tmps R' ds (.panicking c) w

theorem entry_eq (n : Nat) (args : Array Value) (h : args.size ≤ n) :
    ({ tmps := args ++ Array.replicate (n - args.size) undef, defers := [] } : Act) = ac n (fun t => args.getD t undef) [] := by
  simp only [ac, Act.mk.injEq, and_true]
  apply Array.ext
  · simp; omega
  · intro i h1 h2
    have hi : i < n := by simpa using h2
    simp only [Array.getElem_ofFn]
    rcases Nat.lt_or_ge i args.size with hlt | hge
    · rw [Array.getElem_append_left hlt]; simp [Array.getD, hlt]
    · rw [Array.getElem_append_right hge]; simp [Array.getD, Nat.not_lt.2 hge]

theorem k_enter {f : FuncId} {fn : Func} {c : Code} {args : Array Value} {R' : Ending → World → Prop} (hf : P.funcs[f]? = some fn) (hb : fn.body = some c) (hn : fn.ntmps = n)
    (ha : Nat.ble args.size n = true) (h : KC P n c (kFn P fn n R') [] (fun t => args.getD t undef) w) : Calls P f args w R' := by
  refine calls_of_wp hf hb ?_
  rw [hn, entry_eq n args (Nat.le_of_ble_eq_true ha)]
  refine wp_mono h.wp fun e a w hq => ?_
  cases e with
  | normal => obtain ⟨ds, ρ, rfl, rfl, v, hv, hR⟩ := hq; exact ⟨rfl, v, hv, hR⟩
  | exit i => obtain ⟨_, _, _, h⟩ := hq; exact h.elim
  | ret => obtain ⟨ds, ρ, rfl, rfl, v, hv, hR⟩ := hq; exact ⟨rfl, v, hv, hR⟩
  | panic c => exact hq
  | goto _ => exact hq.elim
  | outgrown => exact hq.elim

theorem k_enterD {f : FuncId} {fn : Func} {c : Code} {args : Array Value} {R' : Ending → World → Prop} (hf : P.funcs[f]? = some fn) (hb : fn.body = some c) (hn : fn.ntmps = n)
    (ha : Nat.ble args.size n = true) (h : KC P n c (kFnD P fn n R') [] (fun t => args.getD t undef) w) : Calls P f args w R' := by
  refine calls_of_wp_defers hf hb ?_
  rw [hn, entry_eq n args (Nat.le_of_ble_eq_true ha)]
  refine wp_mono h.wp fun e a w hq => ?_
  cases e with
  | normal => obtain ⟨ds, ρ, rfl, h⟩ := hq; exact h
  | exit i => obtain ⟨_, _, _, h⟩ := hq; exact h.elim
  | ret => obtain ⟨ds, ρ, rfl, h⟩ := hq; exact h
  | panic c => exact hq a.tmps fun _ => rfl
  | goto _ => exact hq.elim
  | outgrown => exact hq.elim
theorem args2 (v0 v1 : Value) : (fun t => (#[v0, v1] : Array Value).getD t undef) = upd (upd (fun _ => undef) 0 v0) 1 v1 := by
  funext t; match t with
  | 0 => rfl
  | 1 => rfl
  | t + 2 => rw [upd_ne _ _ (by omega)]; rw [upd_ne _ _ (by omega)]; simp

theorem k_enter0 {f : FuncId} {fn : Func} {c : Code} {R' : Ending → World → Prop} (hf : P.funcs[f]? = some fn) (hb : fn.body = some c) (hn : fn.ntmps = n)
    (h : KC P n c (kFn P fn n R') [] (fun _ => undef) w) : Calls P f #[] w R' := by
  refine k_enter hf hb hn (by simp) ?_
  have : (fun t => (#[] : Array Value).getD t undef) = fun _ => undef := by funext t; simp
  rw [this]; exact h
theorem k_enter1 {f : FuncId} {fn : Func} {c : Code} {R' : Ending → World → Prop} {v0 : Value} (hf : P.funcs[f]? = some fn) (hb : fn.body = some c) (hn : fn.ntmps = n) (ha : Nat.ble 1 n = true)
    (h : KC P n c (kFn P fn n R') [] (upd (fun _ => undef) 0 v0) w) : Calls P f #[v0] w R' := by
  refine k_enter hf hb hn ha ?_
  have : (fun t => (#[v0] : Array Value).getD t undef) = upd (fun _ => undef) 0 v0 := by
    funext t; match t with
    | 0 => rfl
    | t + 1 => rw [upd_ne _ _ (by omega)]; simp
  rw [this]; exact h
theorem k_enter2 {f : FuncId} {fn : Func} {c : Code} {R' : Ending → World → Prop} {v0 v1 : Value} (hf : P.funcs[f]? = some fn) (hb : fn.body = some c) (hn : fn.ntmps = n) (ha : Nat.ble 2 n = true)
    (h : KC P n c (kFn P fn n R') [] (upd (upd (fun _ => undef) 0 v0) 1 v1) w) : Calls P f #[v0, v1] w R' := by
  refine k_enter hf hb hn ha ?_
  have : (fun t => (#[v0, v1] : Array Value).getD t undef) = upd (upd (fun _ => undef) 0 v0) 1 v1 := by
    funext t; match t with
    | 0 => rfl
    | 1 => rfl
    | t + 2 => rw [upd_ne _ _ (by omega)]; rw [upd_ne _ _ (by omega)]; simp
  rw [this]; exact h
theorem k_enter3 {f : FuncId} {fn : Func} {c : Code} {R' : Ending → World → Prop} {v0 v1 v2 : Value} (hf : P.funcs[f]? = some fn) (hb : fn.body = some c) (hn : fn.ntmps = n) (ha : Nat.ble 3 n = true)
    (h : KC P n c (kFn P fn n R') [] (upd (upd (upd (fun _ => undef) 0 v0) 1 v1) 2 v2) w) : Calls P f #[v0, v1, v2] w R' := by
  refine k_enter hf hb hn ha ?_
  have : (fun t => (#[v0, v1, v2] : Array Value).getD t undef) = upd (upd (upd (fun _ => undef) 0 v0) 1 v1) 2 v2 := by
    funext t; match t with
    | 0 => rfl
    | 1 => rfl
    | 2 => rfl
    | t + 3 => rw [upd_ne _ _ (by omega)]; rw [upd_ne _ _ (by omega)]; rw [upd_ne _ _ (by omega)]; simp
  rw [this]; exact h
theorem k_enter4 {f : FuncId} {fn : Func} {c : Code} {R' : Ending → World → Prop} {v0 v1 v2 v3 : Value} (hf : P.funcs[f]? = some fn) (hb : fn.body = some c) (hn : fn.ntmps = n) (ha : Nat.ble 4 n = true)
    (h : KC P n c (kFn P fn n R') [] (upd (upd (upd (upd (fun _ => undef) 0 v0) 1 v1) 2 v2) 3 v3) w) : Calls P f #[v0, v1, v2, v3] w R' := by
  refine k_enter hf hb hn ha ?_
  have : (fun t => (#[v0, v1, v2, v3] : Array Value).getD t undef) = upd (upd (upd (upd (fun _ => undef) 0 v0) 1 v1) 2 v2) 3 v3 := by
    funext t; match t with
    | 0 => rfl
    | 1 => rfl
    | 2 => rfl
    | 3 => rfl
    | t + 4 => rw [upd_ne _ _ (by omega)]; rw [upd_ne _ _ (by omega)]; rw [upd_ne _ _ (by omega)]; rw [upd_ne _ _ (by omega)]; simp
  rw [this]; exact h

variable {fn : Func} {R' : Ending → World → Prop}
theorem k_end0 (hr : fn.results = #[]) (h : R' (.returned (.tuple #[])) w) : (kFn P fn n R').N [] ρ w :=
  ⟨rfl, _, results_none hr _ _ _, h⟩
theorem k_ret0 (hr : fn.results = #[]) (h : R' (.returned (.tuple #[])) w) : (kFn P fn n R').R [] ρ w :=
  ⟨rfl, _, results_none hr _ _ _, h⟩
theorem res1 {t : Tmp} {v : Value} (hr : fn.results = #[.tmp t]) (hv : ev n ρ (.tmp t) = v) : Res P fn n ρ w v := by
  unfold Res; rw [results_tmp hr, ← hv]; exact congrArg (fun x => Result.ok x w) (ac_get n ρ t)
theorem res2 {t u : Tmp} {v v' : Value} (hr : fn.results = #[.tmp t, .tmp u]) (hv : ev n ρ (.tmp t) = v) (hv' : ev n ρ (.tmp u) = v') : Res P fn n ρ w (.tuple #[v, v']) := by
  unfold Res; rw [results_tmp2 hr, ← hv, ← hv']
  have h1 := ac_get n ρ t
  have h2 := ac_get n ρ u
  simp only [ac, ev]; rw [h1, h2]
theorem res3 {t u s : Tmp} {v v' v'' : Value} (hr : fn.results = #[.tmp t, .tmp u, .tmp s]) (hv : ev n ρ (.tmp t) = v) (hv' : ev n ρ (.tmp u) = v') (hv'' : ev n ρ (.tmp s) = v'') : Res P fn n ρ w (.tuple #[v, v', v'']) := by
  unfold Res; rw [← hv, ← hv', ← hv'']
  have h1 := ac_get n ρ t
  have h2 := ac_get n ρ u
  have h3 := ac_get n ρ s
  simp only [ac, ev, results, hr]
  rw [← h1, ← h2, ← h3]
  simp
theorem k_ret1 {t : Tmp} {v : Value} (hr : fn.results = #[.tmp t]) (hv : ev n ρ (.tmp t) = v) (h : R' (.returned v) w) : (kFn P fn n R').R [] ρ w :=
  ⟨rfl, v, res1 hr hv, h⟩
theorem k_ret2 {t u : Tmp} {v v' : Value} (hr : fn.results = #[.tmp t, .tmp u]) (hv : ev n ρ (.tmp t) = v) (hv' : ev n ρ (.tmp u) = v') (h : R' (.returned (.tuple #[v, v'])) w) : (kFn P fn n R').R [] ρ w :=
  ⟨rfl, _, res2 hr hv hv', h⟩
theorem k_ret3 {t u s : Tmp} {v v' v'' : Value} (hr : fn.results = #[.tmp t, .tmp u, .tmp s]) (hv : ev n ρ (.tmp t) = v) (hv' : ev n ρ (.tmp u) = v') (hv'' : ev n ρ (.tmp s) = v'') (h : R' (.returned (.tuple #[v, v', v''])) w) : (kFn P fn n R').R [] ρ w :=
  ⟨rfl, _, res3 hr hv hv' hv'', h⟩
end
end Go.Proofs.Ytlklapledogdcaa.K
