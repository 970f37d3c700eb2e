/- The document's store beside the program's: contracts in the same words. No condition. -/
import Derived.Test.YtlklapledogdcaaSV
namespace Go.Proofs.Ytlklapledogdcaa.K
open Go

theorem m_cutN {P : Program} {n : Nat} {c : Code} {k : MK} {Hs : List En} {α : Nat → A} (I : List En → (Nat → A) → Prop) (h : MC P n c { N := I, X := k.X, R := k.R } Hs α) (h2 : ∀ Hs' α', I Hs' α' → k.N Hs' α') : MC P n c k Hs α := .of fun w0 S0 g ρ w hH hE =>
  k_mono (h.out w0 S0 g ρ w hH hE) (fun _ _ _ ⟨hd, g', Hs', α', l, hH', hE', hq⟩ => ⟨hd, g', Hs', α', l, hH', hE', h2 _ _ hq⟩) (fun _ _ _ _ h => h) (fun _ _ _ h => h) (fun _ _ _ _ h => h)
/-- A row that a function answers, written no more from here on. -/
theorem mf_frz {P : Program} {f : FuncId} {args : List A} {Hin X : List En} {E : TypeId} {s : Nat} {xs : List A} (h : MF P f args Hin (fun Hs' a => ∃ q, Hs' = X ++ [⟨q, .row E s xs⟩] ∧ a = .osl q)) : MF P f args Hin (fun Hs' a => Hs' = X ∧ a = .sl xs) := .of fun g w vs S0 hH hr =>
  (h.out g w vs S0 hH hr).mono fun v w' ⟨g', _, a, l, h2, h3, q, e1, e2⟩ => by
    subst e1 e2
    have hE : ER g' (fun t => bif Nat.beq t 0 then A.osl q else .dead) (fun _ => v) := fun t => by
      by_cases h0 : t = 0
      · subst h0; exact h3
      · have : Nat.beq t 0 = false := by cases t with
          | zero => exact absurd rfl h0
          | succ t => rfl
        simp only [this, cond_false]; exact .dead _
    obtain ⟨g2, l2, h4, h5⟩ := sh_frz 0 (q := X.length) (k := q) (s := s) (E := E) (xs := xs) (by simp) (α := fun t => bif Nat.beq t 0 then A.osl q else .dead) rfl w S0 g' w' _ h2 hE
    have h6 := h4.take X.length
    rw [setOb_last] at h6
    have h7 := h5 0
    rw [ua_same] at h7
    exact ⟨g2, X, _, l.trans l2, h6, h7, rfl, rfl⟩
theorem ScanF_c (p r : Nat) (s : St) (hw : SW s) (hv : ∀ x ∈ s.recs, x.val.length ≤ 100000000) (pf : ByteArray) : MF Try.prog 16 [.ptr p [] 0, sv pf] (SH p r s) (fun Hs' res => Hs' = SH p r s ∧ res = .sl (recsA (s.recs.filter (fun x => pre x.key pf)))) := by
  have := mf_frz (Scan_c p r s hw hv pf)
  rwa [scan_filter hw.srt] at this
theorem cas_most (s : St) (k : ByteArray) (n : Int) (v : List UInt8) : (cas s k n v).1.most = s.most := by
  unfold cas
  split
  · rfl
  · split
    · rfl
    · split <;> rfl
theorem del_most (s : St) (k : ByteArray) (n : Int) : (del s k n).1.most = s.most := by
  unfold del
  split
  · rfl
  · split <;> rfl
theorem cas_err (s : St) (k : ByteArray) (n : Int) (v : List UInt8) : 0 ≤ (cas s k n v).2.2 ∧ (cas s k n v).2.2 ≤ 40 := by
  unfold cas
  split
  · simp only; omega
  · split
    · simp only; omega
    · split <;> (simp only; omega)
theorem del_err (s : St) (k : ByteArray) (n : Int) : 0 ≤ (del s k n).2 ∧ (del s k n).2 ≤ 40 := by
  unfold del
  split
  · simp only; omega
  · split <;> (simp only; omega)
section
variable {m : Nat} {s s' : St} {k : ByteArray} {v : Int} {b : List UInt8} {a e : Int}
theorem SV.casE (h : SV m s) (hc : K.cas s k v b = (s', a, e)) : SV (m + 1) s' ∧ (0 ≤ e ∧ e ≤ 40) := by
  have h1 := h.cas k v b
  have h2 := cas_err s k v b
  rw [hc] at h1 h2
  exact ⟨h1, h2⟩
theorem SV.delE (h : SV m s) (hc : K.del s k v = (s', e)) : SV (m + 1) s' ∧ (0 ≤ e ∧ e ≤ 40) := by
  have h1 := h.del k v
  have h2 := del_err s k v
  rw [hc] at h1 h2
  exact ⟨h1, h2⟩
theorem CasT_e (h : SV m s) (hm : m ≤ 1000000) (hc : cas s k v b = (s', a, e)) : MF Try.prog 20 [tA s.most s.recs s.count, sv k, iv .i64 v, .sl (b.map u8A)] [] (fun Hs' res => Hs' = [] ∧ res = .tup [tA s'.most s'.recs s'.count, iv .i64 a, iv .i64 e]) := by
  have h1 := Cas_t s.most s.recs s.count k v b (by have := h.len; omega) (by have := h.cnt; omega)
  have h2 := cas_most s k v b
  rw [cas_T h, hc] at h1
  rw [hc] at h2
  rw [h2]
  exact h1
theorem PutT_e (h : SV m s) (hm : m ≤ 1000000) (hc : put s k b = (s', a, e)) : MF Try.prog 21 [tA s.most s.recs s.count, sv k, .sl (b.map u8A)] [] (fun Hs' res => Hs' = [] ∧ res = .tup [tA s'.most s'.recs s'.count, iv .i64 a, iv .i64 e]) := by
  have h1 := Put_t s.most s.recs s.count k b (by have := h.len; omega) (by have := h.cnt; omega)
  unfold put at hc
  have h2 := cas_most s k (verR s.recs k) b
  rw [← verR_look h.srt, cas_T h, hc] at h1
  rw [hc] at h2
  rw [h2]
  exact h1
theorem SV.putE (h : SV m s) (hc : K.put s k b = (s', a, e)) : SV (m + 1) s' ∧ (0 ≤ e ∧ e ≤ 40) := h.casE hc
theorem DelT_e (h : SV m s) (hm : m ≤ 1000000) (hc : del s k v = (s', e)) : MF Try.prog 22 [tA s.most s.recs s.count, sv k, iv .i64 v] [] (fun Hs' res => Hs' = [] ∧ res = .tup [tA s'.most s'.recs s'.count, iv .i64 e]) := by
  have h1 := Delete_t s.most s.recs s.count k v (by have := h.len; omega) (by have := h.cnt; omega)
  have h2 := del_most s k v
  rw [del_T h, hc] at h1
  rw [hc] at h2
  rw [h2]
  exact h1
end
theorem tmod8 {x : Int} : -7 ≤ x.tmod 8 ∧ x.tmod 8 ≤ 7 := by
  have h1 := Int.tmod_lt_of_pos x (show (0 : Int) < 8 by decide)
  have h2 := Int.lt_tmod_of_pos x (show (0 : Int) < 8 by decide)
  omega
theorem remN (b : UInt8) (q : Nat) : ((b.toNat : Int)).tmod (q : Int) = ((b.toNat % q : Nat) : Int) := by rw [Int.tmod_eq_emod_of_nonneg (by omega)]; omega
end Go.Proofs.Ytlklapledogdcaa.K
