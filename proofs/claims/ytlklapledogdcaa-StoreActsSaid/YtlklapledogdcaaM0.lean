/- Abstract states of a walk: values as trees, objects of one's own, memory that is written no more. No condition. -/
import Derived.Test.YtlklapledogdcaaK2
namespace Go.Proofs.Ytlklapledogdcaa.K
open Go

/-- A value, read as far as a walk must know it. -/
inductive A where
  | dead
  | v (x : Value)
  | agg (xs : List A)
  | arr (n s : Nat) (xs : List A)
  | nl
  | sl (xs : List A)
  | ptr (k : Nat) (p : List Nat) (off : Nat)
  | osl (k : Nat)
  | fp (x : A)
  | tup (xs : List A)
  | seg (k off n : Nat)
  | fn (f : Fn) (first caps : List A)

mutual
def sz : A → Nat
  | .agg xs => szL xs
  | .arr n s _ => n * s
  | _ => 1
def szL : List A → Nat
  | [] => 0
  | x :: xs => sz x + szL xs
end

/-- What is behind an abstract state: memory that is written no more, and where objects lie. -/
structure G where
  F : Nat → Option Obj
  m : Nat → Option Value
  lim : Nat
  fin : ∀ k, lim ≤ k → m k = none

structure G.le (g h : G) : Prop where
  F : ∀ b o, g.F b = some o → h.F b = some o
  m : ∀ k v, g.m k = some v → h.m k = some v
theorem G.le.refl (g : G) : g.le g := ⟨fun _ _ h => h, fun _ _ h => h⟩
theorem G.le.trans {a b c : G} (h : a.le b) (k : b.le c) : a.le c := ⟨fun x o e => k.F x o (h.F x o e), fun x o e => k.m x o (h.m x o e)⟩

def G.cell? (g : G) (a : Addr) : Option Value :=
  match g.F a.block with
  | some (.cells c _ _) => if a.spot.isSome then none else c[a.off]?
  | _ => none
def G.Cs (g : G) (a : Addr) (cs : List Value) : Prop := ∀ j v, cs[j]? = some v → g.cell? (a.add j) = some v
def G.fro (g : G) (w : World) : Prop := ∀ b o, g.F b = some o → w.heap[b]? = some o

theorem G.le.cell {g h : G} (l : g.le h) {a : Addr} {v : Value} (e : g.cell? a = some v) : h.cell? a = some v := by
  unfold G.cell? at *
  cases ho : g.F a.block with
  | none => rw [ho] at e; cases e
  | some o => rw [ho] at e; rw [l.F _ _ ho]; exact e
theorem G.le.cs {g h : G} (l : g.le h) {a : Addr} {cs : List Value} (e : g.Cs a cs) : h.Cs a cs := fun j v hj => l.cell (e j v hj)
theorem G.fro.cell {g : G} {w : World} (f : g.fro w) {a : Addr} {v : Value} (e : g.cell? a = some v) : w.cell? a = some v := by
  unfold G.cell? at e
  unfold World.cell?
  cases ho : g.F a.block with
  | none => rw [ho] at e; cases e
  | some o => rw [ho] at e; rw [f _ _ ho]; exact e
theorem G.fro.cs {g : G} {w : World} (f : g.fro w) {a : Addr} {cs : List Value} (e : g.Cs a cs) : K.Cs w a cs := fun j v hj => f.cell (e j v hj)
theorem G.Cs.sub {g : G} {a : Addr} {cs : List Value} (h : g.Cs a cs) (i m : Nat) : g.Cs (a.add i) ((cs.drop i).take m) := fun j v hj => by
  rw [add_add]
  refine h (i + j) v ?_
  rw [List.getElem?_take] at hj
  split at hj
  · rw [List.getElem?_drop] at hj; exact hj
  · cases hj

mutual
/-- a reads as these cells. -/
inductive RC (g : G) : A → List Value → Prop
  | dead (x : Value) (h : x.oneCell' = true) : RC g .dead [x]
  | v (x : Value) (h : x.oneCell' = true) : RC g (.v x) [x]
  | agg {xs : List A} {cs : List Value} (h : RL g xs cs) : RC g (.agg xs) cs
  | arr {n s : Nat} {xs : List A} {cs : List Value} (hn : xs.length = n) (hs : ∀ x ∈ xs, sz x = s) (h : RL g xs cs) : RC g (.arr n s xs) cs
  | nl : RC g .nl [.slice none 0 0]
  | nil : RC g (.sl []) [.slice none 0 0]
  | sl {xs : List A} {cs : List Value} (s : Nat) (a : Addr) (c : Nat) (hc : xs.length ≤ c) (hs : ∀ x ∈ xs, sz x = s) (hcs : g.Cs a cs) (h : RL g xs cs) : RC g (.sl xs) [.slice (some a) xs.length c]
  | ptr {k : Nat} {b o : Nat} (p : List Nat) (off : Nat) (h : g.m k = some (.pointer (some ⟨b, o, none⟩))) : RC g (.ptr k p off) [.pointer (some ⟨b, o + off, none⟩)]
  | pte {k : Nat} {b o l c : Nat} (p : List Nat) (off : Nat) (h : g.m k = some (.slice (some ⟨b, o, none⟩) l c)) : RC g (.ptr k p off) [.pointer (some ⟨b, o + off, none⟩)]
  | osl {k : Nat} {x : Value} (h : g.m k = some x) (h1 : x.oneCell' = true) : RC g (.osl k) [x]
  | fp {x : A} {cs : List Value} {ad : Addr} (h : g.Cs ad cs) (h' : RC g x cs) : RC g (.fp x) [.pointer (some ad)]
  | seg {k : Nat} {b o o' c : Nat} (off n : Nat) (hc : n ≤ c) (ho : 0 < n → o' = o + off) (h : g.m k = some (.pointer (some ⟨b, o, none⟩))) : RC g (.seg k off n) [.slice (some ⟨b, o', none⟩) n c]
  | sgs {k : Nat} {b o o' l c' c : Nat} (off n : Nat) (hc : n ≤ c) (ho : 0 < n → o' = o + off) (h : g.m k = some (.slice (some ⟨b, o, none⟩) l c')) : RC g (.seg k off n) [.slice (some ⟨b, o', none⟩) n c]
  | sgn {k : Nat} (off : Nat) : RC g (.seg k off 0) [.slice none 0 0]
  | fn {f : Fn} {first caps : List A} {vs us : List Value} (h : RVs g first vs) (h' : RVs g caps us) : RC g (.fn f first caps) [.func f vs.toArray us.toArray]
inductive RL (g : G) : List A → List Value → Prop
  | nil : RL g [] []
  | cons {x : A} {c : List Value} {xs : List A} {cs : List Value} (h : RC g x c) (h' : RL g xs cs) : RL g (x :: xs) (c ++ cs)
/-- a reads as this value. -/
inductive RV (g : G) : A → Value → Prop
  | dead (x : Value) : RV g .dead x
  | v (x : Value) (h : x.oneCell' = true) : RV g (.v x) x
  | agg {xs : List A} {cs : List Value} (h : RL g xs cs) : RV g (.agg xs) (.agg cs.toArray)
  | arr {n s : Nat} {xs : List A} {cs : List Value} (hn : xs.length = n) (hs : ∀ x ∈ xs, sz x = s) (h : RL g xs cs) : RV g (.arr n s xs) (.agg cs.toArray)
  | nl : RV g .nl (.slice none 0 0)
  | nil : RV g (.sl []) (.slice none 0 0)
  | sl {xs : List A} {cs : List Value} (s : Nat) (a : Addr) (c : Nat) (hc : xs.length ≤ c) (hs : ∀ x ∈ xs, sz x = s) (hcs : g.Cs a cs) (h : RL g xs cs) : RV g (.sl xs) (.slice (some a) xs.length c)
  | ptr {k : Nat} {b o : Nat} (p : List Nat) (off : Nat) (h : g.m k = some (.pointer (some ⟨b, o, none⟩))) : RV g (.ptr k p off) (.pointer (some ⟨b, o + off, none⟩))
  | pte {k : Nat} {b o l c : Nat} (p : List Nat) (off : Nat) (h : g.m k = some (.slice (some ⟨b, o, none⟩) l c)) : RV g (.ptr k p off) (.pointer (some ⟨b, o + off, none⟩))
  | osl {k : Nat} {x : Value} (h : g.m k = some x) (h1 : x.oneCell' = true) : RV g (.osl k) x
  | fp {x : A} {cs : List Value} {ad : Addr} (h : g.Cs ad cs) (h' : RC g x cs) : RV g (.fp x) (.pointer (some ad))
  | tup {xs : List A} {vs : List Value} (h : RVs g xs vs) : RV g (.tup xs) (.tuple vs.toArray)
  | seg {k : Nat} {b o o' c : Nat} (off n : Nat) (hc : n ≤ c) (ho : 0 < n → o' = o + off) (h : g.m k = some (.pointer (some ⟨b, o, none⟩))) : RV g (.seg k off n) (.slice (some ⟨b, o', none⟩) n c)
  | sgs {k : Nat} {b o o' l c' c : Nat} (off n : Nat) (hc : n ≤ c) (ho : 0 < n → o' = o + off) (h : g.m k = some (.slice (some ⟨b, o, none⟩) l c')) : RV g (.seg k off n) (.slice (some ⟨b, o', none⟩) n c)
  | sgn {k : Nat} (off : Nat) : RV g (.seg k off 0) (.slice none 0 0)
  | fn {f : Fn} {first caps : List A} {vs us : List Value} (h : RVs g first vs) (h' : RVs g caps us) : RV g (.fn f first caps) (.func f vs.toArray us.toArray)
inductive RVs (g : G) : List A → List Value → Prop
  | nil : RVs g [] []
  | cons {x : A} {y : Value} {xs : List A} {ys : List Value} (h : RV g x y) (h' : RVs g xs ys) : RVs g (x :: xs) (y :: ys)
end

/-- Cells that are written no more, and places, stay known. -/
structure G.lc (g h : G) : Prop where
  cell : ∀ {a : Addr} {v : Value}, g.cell? a = some v → h.cell? a = some v
  m : ∀ k v, g.m k = some v → h.m k = some v
theorem G.lc.cs {g h : G} (l : g.lc h) {a : Addr} {cs : List Value} (e : g.Cs a cs) : h.Cs a cs := fun j v hj => l.cell (e j v hj)
theorem G.le.lc {g h : G} (l : g.le h) : g.lc h := ⟨l.cell, l.m⟩
section
variable {g g' : G}
mutual
theorem RC.upc (l : G.lc g g') : ∀ {a : A} {cs : List Value}, RC g a cs → RC g' a cs
  | _, _, .dead x h => .dead x h
  | _, _, .v x h => .v x h
  | _, _, .agg h => .agg (RL.upc l h)
  | _, _, .arr hn hs h => .arr hn hs (RL.upc l h)
  | _, _, .nl => .nl
  | _, _, .nil => .nil
  | _, _, .sl s a c hc hs hcs h => .sl s a c hc hs (l.cs hcs) (RL.upc l h)
  | _, _, .ptr p off h => .ptr p off (l.m _ _ h)
  | _, _, .pte p off h => .pte p off (l.m _ _ h)
  | _, _, .osl h h1 => .osl (l.m _ _ h) h1
  | _, _, .fp h h' => .fp (l.cs h) (RC.upc l h')
  | _, _, .seg off n hc ho h => .seg off n hc ho (l.m _ _ h)
  | _, _, .sgs off n hc ho h => .sgs off n hc ho (l.m _ _ h)
  | _, _, .sgn off => .sgn off
  | _, _, .fn h h' => .fn (RVs.upc l h) (RVs.upc l h')
theorem RL.upc (l : G.lc g g') : ∀ {a : List A} {cs : List Value}, RL g a cs → RL g' a cs
  | _, _, .nil => .nil
  | _, _, .cons h h' => .cons (RC.upc l h) (RL.upc l h')
theorem RV.upc (l : G.lc g g') : ∀ {a : A} {x : Value}, RV g a x → RV g' a x
  | _, _, .dead x => .dead x
  | _, _, .v x h => .v x h
  | _, _, .agg h => .agg (RL.upc l h)
  | _, _, .arr hn hs h => .arr hn hs (RL.upc l h)
  | _, _, .nl => .nl
  | _, _, .nil => .nil
  | _, _, .sl s a c hc hs hcs h => .sl s a c hc hs (l.cs hcs) (RL.upc l h)
  | _, _, .ptr p off h => .ptr p off (l.m _ _ h)
  | _, _, .pte p off h => .pte p off (l.m _ _ h)
  | _, _, .osl h h1 => .osl (l.m _ _ h) h1
  | _, _, .fp h h' => .fp (l.cs h) (RC.upc l h')
  | _, _, .tup h => .tup (RVs.upc l h)
  | _, _, .seg off n hc ho h => .seg off n hc ho (l.m _ _ h)
  | _, _, .sgs off n hc ho h => .sgs off n hc ho (l.m _ _ h)
  | _, _, .sgn off => .sgn off
  | _, _, .fn h h' => .fn (RVs.upc l h) (RVs.upc l h')
theorem RVs.upc (l : G.lc g g') : ∀ {a : List A} {xs : List Value}, RVs g a xs → RVs g' a xs
  | _, _, .nil => .nil
  | _, _, .cons h h' => .cons (RV.upc l h) (RVs.upc l h')
end
theorem RC.up (l : g.le g') {a : A} {cs : List Value} (h : RC g a cs) : RC g' a cs := h.upc l.lc
theorem RL.up (l : g.le g') {a : List A} {cs : List Value} (h : RL g a cs) : RL g' a cs := h.upc l.lc
theorem RV.up (l : g.le g') {a : A} {x : Value} (h : RV g a x) : RV g' a x := h.upc l.lc
theorem RVs.up (l : g.le g') {a : List A} {xs : List Value} (h : RVs g a xs) : RVs g' a xs := h.upc l.lc
theorem szL_uni {s : Nat} : ∀ {xs : List A}, (∀ x ∈ xs, sz x = s) → szL xs = xs.length * s
  | [], _ => by simp [szL]
  | x :: xs, h => by simp only [szL, List.length_cons]; rw [szL_uni (fun y hy => h y (by simp [hy])), h x (by simp), Nat.add_mul]; omega
mutual
theorem RC.len : ∀ {a : A} {cs : List Value}, RC g a cs → cs.length = sz a
  | _, _, .dead .. | _, _, .v .. | _, _, .nl | _, _, .nil | _, _, .sl .. | _, _, .ptr .. | _, _, .pte .. | _, _, .osl .. | _, _, .fp .. | _, _, .seg .. | _, _, .sgs .. | _, _, .sgn .. | _, _, .fn .. => by simp [sz]
  | _, _, .agg h => by simp only [sz]; exact RL.len h
  | _, _, .arr hn hs h => by simp only [sz]; rw [RL.len h, ← hn]; exact szL_uni hs
theorem RL.len : ∀ {a : List A} {cs : List Value}, RL g a cs → cs.length = szL a
  | _, _, .nil => rfl
  | _, _, .cons h h' => by simp only [szL, List.length_append]; rw [RC.len h, RL.len h']
end
mutual
theorem RC.one : ∀ {a : A} {cs : List Value}, RC g a cs → ∀ u ∈ cs, u.oneCell' = true
  | _, _, .dead _ h | _, _, .v _ h => by simpa using h
  | _, _, .nl | _, _, .nil | _, _, .sl .. | _, _, .ptr .. | _, _, .pte .. | _, _, .fp .. | _, _, .seg .. | _, _, .sgs .. | _, _, .sgn .. | _, _, .fn .. => by simp [Value.oneCell']
  | _, _, .osl _ h => by simpa using h
  | _, _, .agg h => RL.one h
  | _, _, .arr _ _ h => RL.one h
theorem RL.one : ∀ {a : List A} {cs : List Value}, RL g a cs → ∀ u ∈ cs, u.oneCell' = true
  | _, _, .nil => by simp
  | _, _, .cons h h' => fun u hu => by
    rcases List.mem_append.1 hu with hu | hu
    · exact RC.one h u hu
    · exact RL.one h' u hu
end
theorem RL.append : ∀ {xs ys : List A} {cs ds : List Value}, RL g xs cs → RL g ys ds → RL g (xs ++ ys) (cs ++ ds)
  | _, _, _, _, .nil, h => h
  | _, _, _, _, .cons h h', k => by rw [List.append_assoc]; exact .cons h (RL.append h' k)
theorem RL.split : ∀ {xs ys : List A} {cs : List Value}, RL g (xs ++ ys) cs → ∃ c d, cs = c ++ d ∧ RL g xs c ∧ RL g ys d
  | [], _, cs, h => ⟨[], cs, rfl, .nil, h⟩
  | x :: xs, ys, _, .cons h h' => by
    obtain ⟨c, d, rfl, h1, h2⟩ := RL.split (xs := xs) h'
    exact ⟨_, d, by rw [List.append_assoc], .cons h h1, h2⟩
theorem RL.one' {x : A} {cs : List Value} (h : RC g x cs) : RL g [x] cs := by have := RL.cons h .nil; rwa [List.append_nil] at this
theorem RL.head {x : A} {cs : List Value} (h : RL g [x] cs) : RC g x cs := by
  cases h with
  | cons h h' => cases h'; rwa [List.append_nil]
/-- The i-th of a row. -/
theorem RL.get {xs : List A} {cs : List Value} (h : RL g xs cs) {i : Nat} {x : A} (hi : xs[i]? = some x) : ∃ c pre post, cs = pre ++ (c ++ post) ∧ RL g (xs.take i) pre ∧ RC g x c ∧ RL g (xs.drop (i + 1)) post := by
  have hlt := (List.getElem?_eq_some_iff.1 hi).1
  have e : xs = xs.take i ++ ([x] ++ xs.drop (i + 1)) := by
    have hx := (List.getElem?_eq_some_iff.1 hi).2
    rw [← hx, List.singleton_append, List.getElem_cons_drop, List.take_append_drop]
  rw [e] at h
  obtain ⟨c, d, rfl, h1, h2⟩ := RL.split h
  obtain ⟨c', d', rfl, h3, h4⟩ := RL.split h2
  exact ⟨c', c, d', rfl, h1, h3.head, h4⟩
end

/-! ### Parts of a tree -/
def getA : A → List Nat → Option A
  | a, [] => some a
  | .agg xs, i :: p => match xs[i]? with | some x => getA x p | none => none
  | .arr _ _ xs, i :: p => match xs[i]? with | some x => getA x p | none => none
  | _, _ :: _ => none
def offA : A → List Nat → Nat
  | _, [] => 0
  | .agg xs, i :: p => match xs[i]? with | some x => szL (xs.take i) + offA x p | none => 0
  | .arr _ s xs, i :: p => match xs[i]? with | some x => i * s + offA x p | none => 0
  | _, _ :: _ => 0
def setA : A → List Nat → A → A
  | _, [], y => y
  | .agg xs, i :: p, y => match xs[i]? with | some x => .agg (xs.set i (setA x p y)) | none => .agg xs
  | .arr n s xs, i :: p, y => match xs[i]? with | some x => .arr n s (xs.set i (setA x p y)) | none => .arr n s xs
  | a, _ :: _, _ => a

theorem sz_setA : ∀ (p : List Nat) {a s y : A}, getA a p = some s → sz y = sz s → sz (setA a p y) = sz a
  | [], a, s, y, hg, hy => by simp only [getA, Option.some.injEq] at hg; subst hg; simpa [setA] using hy
  | i :: p, .agg xs, s, y, hg, hy => by
    simp only [getA, setA] at *
    cases hx : xs[i]? with
    | none => simp
    | some x =>
      rw [hx] at hg
      have ih := sz_setA p hg hy
      simp only [sz]
      have hlt := (List.getElem?_eq_some_iff.1 hx).1
      have hxx := (List.getElem?_eq_some_iff.1 hx).2
      have key : ∀ (l : List A) (j : Nat) (z : A), l[j]? = some z → ∀ z', sz z' = sz z → szL (l.set j z') = szL l := by
        intro l
        induction l with
        | nil => intro j z h; simp at h
        | cons u l ihl =>
          intro j z h z' hz
          cases j with
          | zero => simp at h; subst h; simp [szL, hz]
          | succ j => simp at h; simp [szL, ihl j z h z' hz]
      exact key xs i x hx _ ih
  | i :: p, .arr n sz' xs, s, y, hg, hy => by
    simp only [setA] at *
    cases hx : xs[i]? with
    | none => simp
    | some x => simp [sz]
  | _ :: _, .dead, _, _, hg, _ | _ :: _, .nl, _, _, hg, _ | _ :: _, .v _, _, _, hg, _ | _ :: _, .sl _, _, _, hg, _ | _ :: _, .ptr .., _, _, hg, _ | _ :: _, .osl _, _, _, hg, _ | _ :: _, .fp _, _, _, hg, _ | _ :: _, .tup _, _, _, hg, _ | _ :: _, .seg .., _, _, hg, _ | _ :: _, .fn .., _, _, hg, _ => by simp [getA] at hg

theorem get_RC {g : G} : ∀ (p : List Nat) {a s : A} {cs : List Value}, RC g a cs → getA a p = some s →
    ∃ pre c post, cs = pre ++ (c ++ post) ∧ pre.length = offA a p ∧ RC g s c ∧ ∀ y d, RC g y d → sz y = sz s → RC g (setA a p y) (pre ++ (d ++ post))
  | [], a, s, cs, h, hg => by
    simp only [getA, Option.some.injEq] at hg; subst hg
    exact ⟨[], cs, [], by simp, by simp [offA], h, fun y d hy _ => by simpa [setA] using hy⟩
  | i :: p, .agg xs, s, cs, h, hg => by
    simp only [getA] at hg
    cases hx : xs[i]? with
    | none => rw [hx] at hg; cases hg
    | some x =>
      rw [hx] at hg
      cases h with
      | agg h =>
        obtain ⟨c, pre, post, rfl, h1, h2, h3⟩ := h.get hx
        obtain ⟨pre', c', post', rfl, h4, h5, h6⟩ := get_RC p h2 hg
        refine ⟨pre ++ pre', c', post' ++ post, by simp, ?_, h5, fun y d hy hs => ?_⟩
        · simp only [offA, hx, List.length_append, h4, h1.len]
        · simp only [setA, hx]
          have e : xs.set i (setA x p y) = xs.take i ++ (setA x p y :: xs.drop (i + 1)) := List.set_eq_take_append_cons_drop.trans (by rw [if_pos (List.getElem?_eq_some_iff.1 hx).1])
          rw [e]
          have := RL.append h1 (RL.cons (h6 y d hy hs) h3)
          simpa using RC.agg this
  | i :: p, .arr n s' xs, s, cs, h, hg => by
    simp only [getA] at hg
    cases hx : xs[i]? with
    | none => rw [hx] at hg; cases hg
    | some x =>
      rw [hx] at hg
      cases h with
      | arr hn hs h =>
        obtain ⟨c, pre, post, rfl, h1, h2, h3⟩ := h.get hx
        obtain ⟨pre', c', post', rfl, h4, h5, h6⟩ := get_RC p h2 hg
        have hlt := (List.getElem?_eq_some_iff.1 hx).1
        refine ⟨pre ++ pre', c', post' ++ post, by simp, ?_, h5, fun y d hy hsy => ?_⟩
        · simp only [offA, hx, List.length_append, h4]
          have : szL (xs.take i) = i * s' := by rw [szL_uni (fun z hz => hs z (List.mem_of_mem_take hz)), List.length_take, Nat.min_eq_left (by omega)]
          rw [h1.len, this]
        · simp only [setA, hx]
          have e : xs.set i (setA x p y) = xs.take i ++ (setA x p y :: xs.drop (i + 1)) := List.set_eq_take_append_cons_drop.trans (by rw [if_pos hlt])
          have hL := RL.append h1 (RL.cons (h6 y d hy hsy) h3)
          rw [← e] at hL
          have := RC.arr (n := n) (s := s') (by simpa using hn) (fun z hz => ?_) hL
          · simpa using this
          · rcases List.mem_or_eq_of_mem_set hz with hz | rfl
            · exact hs z hz
            · rw [sz_setA p hg hsy]; exact hs x (List.mem_of_getElem? hx)
  | _ :: _, .dead, _, _, _, hg | _ :: _, .nl, _, _, _, hg | _ :: _, .v _, _, _, _, hg | _ :: _, .sl _, _, _, _, hg | _ :: _, .ptr .., _, _, _, hg | _ :: _, .osl _, _, _, _, hg | _ :: _, .fp _, _, _, _, hg | _ :: _, .tup _, _, _, _, hg | _ :: _, .seg .., _, _, _, hg | _ :: _, .fn .., _, _, _, hg => by simp [getA] at hg
end Go.Proofs.Ytlklapledogdcaa.K
