/- slices.Insert and slices.Delete at records, over abstract states. Conditions: the place is there, the row is not too long. -/
import Derived.Test.YtlklapledogdcaaSJ
namespace Go.Proofs.Ytlklapledogdcaa.K
open Go

theorem RL.parts {g : G} {s : Nat} {xs : List A} {cs : List Value} (h : RL g xs cs) (hs : ∀ x ∈ xs, sz x = s) (i : Nat) (hi : i ≤ xs.length) : RL g (xs.take i) (cs.take (i * s)) ∧ RL g (xs.drop i) (cs.drop (i * s)) := by
  have h' : RL g (xs.take i ++ xs.drop i) cs := by rw [List.take_append_drop]; exact h
  obtain ⟨c, d, rfl, h1, h2⟩ := h'.split
  have hc : c.length = i * s := by rw [h1.len, szL_uni (fun z hz => hs z (List.mem_of_mem_take hz)), List.length_take, Nat.min_eq_left hi]
  rw [← hc, List.take_left, List.drop_left]
  exact ⟨h1, h2⟩

/-- A row that has given way to another one. -/
theorem mf_row {P : Program} {f : FuncId} {k E s : Nat} {xs ys : List A} {g : G} {w w' : World} {S0 : Nat → Prop} {v u : Value} {Hs : List En} {ds : List Value} (hH : HR w S0 g (⟨k, .row E s xs⟩ :: Hs) w) (hm : g.m k = some v) (hv : v.oneCell' = true ∧ blkV v = v.ownBlock)
    (ho : w'.ownsRow 0 E s u ys.length ds) (hr : RL g ys ds) (hs : ∀ y ∈ ys, sz y = s) (hf : Fr (ownB v) w w') (hfr : u.ownBlock = v.ownBlock ∨ ∀ b, ownB u b → w.heap.size ≤ b) :
    ∃ g' Hs' a, GL w S0 g g' ∧ HR w S0 g' Hs' w' ∧ RV g' a u ∧ ∃ k', Hs' = [⟨k', .row E s ys⟩] ∧ a = .osl k' := by
  have hbk : ∀ b, g.blk k = some b ↔ ownB v b := fun b => by
    rw [G.blk, hm, Option.bind_some, hv.2]; exact Iff.rfl
  have hone : u.oneCell' = true ∧ blkV u = u.ownBlock := by rcases ho.2 with ⟨rfl, _⟩ | ⟨_, _, _, rfl, _⟩ <;> exact ⟨rfl, rfl⟩
  have hb : ∀ b, blkV u = some b → (g.blk k = some b ∨ w.heap.size ≤ b) ∧ b < w'.heap.size := fun b hb => by
    rw [hone.2] at hb
    refine ⟨?_, ?_⟩
    · rcases hfr with h1 | h1
      · left; rw [hbk]; unfold ownB; rw [← h1]; exact hb
      · right; exact h1 b hb
    · rcases ho.2 with ⟨rfl, _⟩ | ⟨q, cap, cur, rfl, _, hh, _⟩
      · cases hb
      · cases hb; exact (Array.getElem?_eq_some_iff.1 hh).1
  have hR := hH.repl (q := 0) (ob' := .row E s ys) rfl trivial (hf.mono fun b _ hb => (hbk b).2 hb) ⟨u, ds, g.push_at _, ho, hr.up (g.push_le _), hs⟩ hb
  exact ⟨g.push u, [⟨g.lim, .row E s ys⟩], .osl g.lim, ⟨g.push_le _, fun _ _ _ h => h⟩, hR.take 1, .osl (g.push_at _) hone.1, g.lim, rfl, rfl⟩

theorem insert_c (r r2 : Nat) (xs : List A) (x : A) (i : Nat) (hs : ∀ y ∈ xs, sz y = 3) (hx : sz x = 3) (hi : i ≤ xs.length) (hl : xs.length ≤ 1000000) :
    MF Try.prog 28 [.osl r, iv .i64 (i : Int), .osl r2] [⟨r, .row 41 3 xs⟩, ⟨r2, .row 41 3 [x]⟩]
      (fun Hs' res => ∃ k', Hs' = [⟨k', .row 41 3 (xs.take i ++ [x] ++ xs.drop i)⟩] ∧ res = .osl k') := .of fun g w vs S0 hH hr => by
  obtain ⟨v, cs, hm, hown, hrl, _⟩ := hH.ob 0 _ rfl
  obtain ⟨v2, ds, hm2, hown2, hrl2, _⟩ := hH.ob 1 _ rfl
  have hvs : vs = [v, .int .i64 (i : Int), v2] := by
    cases hr with
    | cons h1 h2 =>
      cases h2 with
      | cons h3 h4 =>
        cases h4 with
        | cons h5 h6 =>
          cases h6
          cases h1 with | osl h _ => rw [hm] at h; cases h; cases h3 with | v _ _ => cases h5 with | osl h _ => rw [hm2] at h; cases h; rfl
  subst hvs
  have hp := hrl.parts hs i hi
  have hzs : ∀ y ∈ xs.take i ++ [x] ++ xs.drop i, sz y = 3 := fun y hy => by
    simp only [List.mem_append, List.mem_singleton] at hy
    rcases hy with (hy | rfl) | hy
    · exact hs y (List.mem_of_mem_take hy)
    · exact hx
    · exact hs y (List.mem_of_mem_drop hy)
  have hlen : (xs.take i ++ [x] ++ xs.drop i).length = xs.length + 1 := by simp; omega
  have hv1 : v.oneCell' = true ∧ blkV v = v.ownBlock := by rcases hown.2 with ⟨rfl, _⟩ | ⟨_, _, _, rfl, _⟩ <;> exact ⟨rfl, rfl⟩
  have hfin : ∀ u w', (w'.ownsRow 0 41 3 u (xs.length + 1) (cs.take (i * 3) ++ ds ++ cs.drop (i * 3)) ∧ Fr (ownB v) w w' ∧ (u.ownBlock = v.ownBlock ∨ ∀ b, ownB u b → w.heap.size ≤ b)) →
      ∃ g' Hs' a, GL w S0 g g' ∧ HR w S0 g' Hs' w' ∧ RV g' a u ∧ ∃ k', Hs' = [⟨k', .row 41 3 (xs.take i ++ [x] ++ xs.drop i)⟩] ∧ a = .osl k' := by
    rintro u w' ⟨h1, h2, h3⟩
    exact mf_row (P := Try.prog) (f := 0) hH hm hv1 (by rw [hlen]; exact h1) ((hp.1.append hrl2).append hp.2) hzs h2 h3
  rcases hown2.2 with ⟨_, h0⟩ | ⟨b2, c2, cur2, rfl, _⟩
  · simp at h0
  have hn1 : xs.length ≤ 1000000 := hl
  by_cases hin : i = xs.length
  · subst hin
    obtain ⟨ao, cap, rfl⟩ : ∃ ao cap, v = .slice ao xs.length cap := by
      rcases hown.2 with ⟨rfl, h0⟩ | ⟨b, cap, cur, rfl, _⟩
      · exact ⟨none, 0, by rw [h0]⟩
      · exact ⟨_, _, rfl⟩
    exact (insert_end hown hown2 hrl2.one hn1).mono fun u w' h => hfin u w' h
  · rcases hown.2 with ⟨_, h0⟩ | ⟨b, cap, cur, rfl, _, hh, h1, h2, h3, h4⟩
    · omega
    have hne : b2 ≠ b := fun e => by
      subst e
      exact hH.sep 0 1 _ _ b2 rfl rfl (by decide) trivial trivial (by rw [G.blk, hm]; rfl) (by rw [G.blk, hm2]; rfl)
    by_cases hroom : xs.length + 1 ≤ cap
    · exact (insert_shift hown hown2 hrl2.one hn1 hh h3 h4 h1 h2 hne (by omega) hrl.one hroom).mono fun u w' h => hfin u w' h
    · exact (insert_grow hown hown2 hrl2.one hn1 hh h3 h4 h1 h2 hne (by omega) hrl.one (by omega)).mono fun u w' h => hfin u w' h

theorem delete_c (r : Nat) (xs : List A) (i : Nat) (hs : ∀ y ∈ xs, sz y = 3) (hi : i < xs.length) (hl : xs.length ≤ 1000000) :
    MF Try.prog 29 [.osl r, iv .i64 (i : Int), iv .i64 ((i : Int) + 1)] [⟨r, .row 41 3 xs⟩]
      (fun Hs' res => ∃ k', Hs' = [⟨k', .row 41 3 (xs.take i ++ xs.drop (i + 1))⟩] ∧ res = .osl k') := .of fun g w vs S0 hH hr => by
  obtain ⟨v, cs, hm, hown, hrl, _⟩ := hH.ob 0 _ rfl
  have hvs : vs = [v, .int .i64 (i : Int), .int .i64 ((i : Int) + 1)] := by
    cases hr with
    | cons h1 h2 =>
      cases h2 with
      | cons h3 h4 =>
        cases h4 with
        | cons h5 h6 =>
          cases h6
          cases h1 with | osl h _ => rw [hm] at h; cases h; cases h3 with | v _ _ => cases h5 with | v _ _ => rfl
  subst hvs
  have hp := hrl.parts hs i (by omega)
  have hp2 := hrl.parts hs (i + 1) (by omega)
  rcases hown.2 with ⟨_, h0⟩ | ⟨b, cap, cur, rfl, _, hh, h1, h2, h3, h4⟩
  · omega
  refine (delete_k hown hh h3 h4 h1 h2 hrl.one hi hl).mono fun u w' ⟨q1, q2, q3⟩ => ?_
  exact mf_row (P := Try.prog) (f := 0) hH hm ⟨rfl, rfl⟩ (by rw [show (xs.take i ++ xs.drop (i + 1)).length = xs.length - 1 by simp; omega]; exact q1) (hp.1.append hp2.2) (fun y hy => by
    rcases List.mem_append.1 hy with hy | hy
    · exact hs y (List.mem_of_mem_take hy)
    · exact hs y (List.mem_of_mem_drop hy)) q2 (.inl q3)
end Go.Proofs.Ytlklapledogdcaa.K
