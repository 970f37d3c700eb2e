/- What a store is, and what its acts make of it. No condition. -/
import Derived.Test.YtlklapledogdcaaSB
import Derived.Test.YtlklapledogdcaaSK
namespace Go.Proofs.Ytlklapledogdcaa.K
open Go

structure St where
  most : Int
  recs : List Rc
  count : Int
/-- The objects of a store. -/
def SH (p r : Nat) (s : St) : List En := [⟨p, .box 58 (.agg [iv .i64 s.most, .osl r, iv .i64 s.count])⟩, ⟨r, .row 41 3 (recsA s.recs)⟩]
def getR (l : List Rc) (k : ByteArray) : Option Rc := bif isK l k then l[lb l k]? else none
def verR (l : List Rc) (k : ByteArray) : Int := match getR l k with | some r => r.ver | none => 0
def valR (l : List Rc) (k : ByteArray) : List UInt8 := match getR l k with | some r => r.val | none => []
theorem isK_spec {l : List Rc} {k : ByteArray} (h : isK l k = true) : ∃ r, l[lb l k]? = some r ∧ r.key = k ∧ getR l k = some r := by
  unfold isK at h
  cases hr : l[lb l k]? with
  | none => rw [hr] at h; cases h
  | some r =>
    rw [hr] at h
    refine ⟨r, rfl, by simpa using h, ?_⟩
    unfold getR isK; rw [hr]; simp only [h, cond_true]
theorem isK_none {l : List Rc} {k : ByteArray} (h : isK l k = false) : getR l k = none := by unfold getR; rw [h]; rfl
/-- A store is well: its records stand in order. -/
structure SW (s : St) : Prop where
  srt : Srt s.recs
  len : s.recs.length ≤ 1000000
  cnt : 0 ≤ s.count ∧ s.count ≤ 1000000000
/-- Whether a text begins with another one. -/
def pre (a b : ByteArray) : Bool := decide (b.size ≤ a.size) && decide (a.extract 0 b.size = b)
/-- A record put in its place. -/
def putR (l : List Rc) (k : ByteArray) (n : Int) (v : List UInt8) : List Rc := l.take (lb l k) ++ [⟨k, n, v⟩] ++ l.drop (bif isK l k then lb l k + 1 else lb l k)
def delR (l : List Rc) (k : ByteArray) : List Rc := l.take (lb l k) ++ l.drop (lb l k + 1)
def cas (s : St) (k : ByteArray) (n : Int) (v : List UInt8) : St × Int × Int :=
  if 60000 < v.length then (s, 0, 3) else if verR s.recs k ≠ n then (s, 0, 30) else if isK s.recs k = false ∧ s.most ≤ s.recs.length then (s, 0, 31)
  else (⟨s.most, putR s.recs k (s.count + 1) v, s.count + 1⟩, s.count + 1, 0)
def del (s : St) (k : ByteArray) (n : Int) : St × Int :=
  if isK s.recs k = false then (s, 32) else if verR s.recs k ≠ n then (s, 30) else (⟨s.most, delR s.recs k, s.count + 1⟩, 0)
theorem cas_long {s : St} {k : ByteArray} {n : Int} {v : List UInt8} (h : 60000 < v.length) : cas s k n v = (s, 0, 3) := if_pos h
theorem cas_ver {s : St} {k : ByteArray} {n : Int} {v : List UInt8} (h : ¬ 60000 < v.length) (h2 : verR s.recs k ≠ n) : cas s k n v = (s, 0, 30) := by unfold cas; rw [if_neg h, if_pos h2]
theorem cas_full {s : St} {k : ByteArray} {n : Int} {v : List UInt8} (h : ¬ 60000 < v.length) (h2 : ¬ verR s.recs k ≠ n) (h3 : isK s.recs k = false) (h4 : s.most ≤ s.recs.length) : cas s k n v = (s, 0, 31) := by unfold cas; rw [if_neg h, if_neg h2, if_pos ⟨h3, h4⟩]
theorem cas_put {s : St} {k : ByteArray} {n : Int} {v : List UInt8} (h : ¬ 60000 < v.length) (h2 : ¬ verR s.recs k ≠ n) (h3 : ¬ (isK s.recs k = false ∧ s.most ≤ s.recs.length)) : cas s k n v = (⟨s.most, putR s.recs k (s.count + 1) v, s.count + 1⟩, s.count + 1, 0) := by unfold cas; rw [if_neg h, if_neg h2, if_neg h3]
theorem set_mid {X : Type} {l r : List X} {x y : X} : (l ++ [x] ++ r).set l.length y = l ++ [y] ++ r := by simp
theorem get_mid {X : Type} {l r : List X} {x : X} : (l ++ [x] ++ r)[l.length]? = some x := by simp
theorem put_new {l : List Rc} {k : ByteArray} {n : Int} {v : List UInt8} {y x : A} (h : isK l k = false) (i : Nat) (hi : i = lb l k) : (((recsA l).take i ++ [x] ++ (recsA l).drop i).set i y).set i (recA ⟨k, n, v⟩) = recsA (putR l k n v) := by
  subst hi
  have hl : ((recsA l).take (lb l k)).length = lb l k := by rw [List.length_take, recsA_length, Nat.min_eq_left (lb_le l k)]
  have e := set_mid (l := (recsA l).take (lb l k)) (r := (recsA l).drop (lb l k)) (x := x) (y := y)
  have e2 := set_mid (l := (recsA l).take (lb l k)) (r := (recsA l).drop (lb l k)) (x := y) (y := recA ⟨k, n, v⟩)
  rw [hl] at e e2
  rw [e, e2, putR, h]
  simp [recsA, List.map_take, List.map_drop]
theorem new_at {l : List Rc} {k : ByteArray} {x : A} : ((recsA l).take (lb l k) ++ [x] ++ (recsA l).drop (lb l k))[lb l k]? = some x := by
  have hl : ((recsA l).take (lb l k)).length = lb l k := by rw [List.length_take, recsA_length, Nat.min_eq_left (lb_le l k)]
  have e := get_mid (l := (recsA l).take (lb l k)) (r := (recsA l).drop (lb l k)) (x := x)
  rw [hl] at e; exact e
theorem put_old {l : List Rc} {k : ByteArray} {n : Int} {v : List UInt8} {y : A} (h : isK l k = true) : ((recsA l).set (lb l k) y).set (lb l k) (recA ⟨k, n, v⟩) = recsA (putR l k n v) := by
  obtain ⟨r, hr, _⟩ := isK_spec h
  have hlt := (List.getElem?_eq_some_iff.1 hr).1
  rw [List.set_set, putR, h]
  have e : (recsA l).set (lb l k) (recA ⟨k, n, v⟩) = recsA (l.set (lb l k) ⟨k, n, v⟩) := by simp [recsA, List.map_set]
  rw [e, List.set_eq_take_append_cons_drop, if_pos hlt]
  simp
theorem set_at {l : List A} {i : Nat} {y : A} (h : i < l.length) : (l.set i y)[i]? = some y := by simp [h]
theorem del_none {s : St} {k : ByteArray} {n : Int} (h : isK s.recs k = false) : del s k n = (s, 32) := if_pos h
theorem del_ver {s : St} {k : ByteArray} {n : Int} (h : isK s.recs k = true) (h2 : verR s.recs k ≠ n) : del s k n = (s, 30) := by unfold del; rw [if_neg (by rw [h]; decide), if_pos h2]
theorem del_ok {s : St} {k : ByteArray} {n : Int} (h : isK s.recs k = true) (h2 : ¬ verR s.recs k ≠ n) : del s k n = (⟨s.most, delR s.recs k, s.count + 1⟩, 0) := by unfold del; rw [if_neg (by rw [h]; decide), if_neg h2]
theorem delR_A (l : List Rc) (k : ByteArray) : (recsA l).take (lb l k) ++ (recsA l).drop (lb l k + 1) = recsA (delR l k) := by simp [delR, recsA, List.map_take, List.map_drop]
end Go.Proofs.Ytlklapledogdcaa.K
