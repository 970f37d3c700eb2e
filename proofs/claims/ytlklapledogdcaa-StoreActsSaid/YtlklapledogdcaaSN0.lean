/- What a scan answers: the records from the first place on that begin so. No condition. -/
import Derived.Test.YtlklapledogdcaaSC
import Derived.Test.YtlklapledogdcaaMR
namespace Go.Proofs.Ytlklapledogdcaa.K
open Go

def scanR (l : List Rc) (pf : ByteArray) : List Rc := (l.drop (lb l pf)).takeWhile (fun x => pre x.key pf)
theorem tw_stop {X : Type} {f : X → Bool} : ∀ {L : List X} {j : Nat} {x : X}, L[j]? = some x → f x = false → (∀ y ∈ L.take j, f y = true) → L.takeWhile f = L.take j
  | [], _, _, h, _, _ => by simp at h
  | y :: L, 0, x, h, hx, _ => by simp at h; subst h; simp [hx]
  | y :: L, j + 1, x, h, hx, ha => by
    have hy : f y = true := ha y (by simp)
    simp only [List.takeWhile_cons, hy, if_true, List.take_succ_cons, List.cons.injEq, true_and]
    exact tw_stop (by simpa using h) hx (fun z hz => ha z (by simp [hz]))
theorem tw_all {X : Type} {f : X → Bool} {L : List X} (ha : ∀ y ∈ L, f y = true) : L.takeWhile f = L := by
  induction L with
  | nil => rfl
  | cons y L ih => rw [List.takeWhile_cons, if_pos (ha y (by simp)), ih (fun z hz => ha z (by simp [hz]))]
theorem take_snoc {X : Type} {L : List X} {j : Nat} {x : X} (h : L[j]? = some x) : L.take (j + 1) = L.take j ++ [x] := by
  rw [List.take_add_one, h]; rfl
/-- The objects of a scan under way. -/
def SO (p r k1 k2 k5 q : Nat) (s : St) (pf : ByteArray) (l : List Rc) : List En :=
  [⟨p, .box 58 (.agg [iv .i64 s.most, .osl r, iv .i64 s.count])⟩, ⟨r, .row 41 3 (recsA s.recs)⟩, ⟨k5, .box 38 (.osl q)⟩, ⟨q, .row 41 3 (recsA l)⟩, ⟨k1, .box 22 (.ptr p [] 0)⟩, ⟨k2, .box 9 (sv pf)⟩]
/-- What a round of the scan's loop does. -/
def RD (k5 : Nat) (l : List Rc) (x : Rc) : List En → A → Prop := fun Hs' a => ∃ q', Hs' = [⟨k5, .box 38 (.osl q')⟩, ⟨q', .row 41 3 (recsA (l ++ [x]))⟩] ∧ a = tv true
end Go.Proofs.Ytlklapledogdcaa.K
