/- The plain law of copies: what the law's store is, behind i puts; what is put under one more name. No condition. -/
import Derived.Test.YtlklapledogdcaaSP
namespace Go.Proofs.Ytlklapledogdcaa.K
open Go

structure CI (i : Nat) (s : St) : Prop where
  sv : SV i s
  most : s.most = 9
  cnt : s.count = i
  keys : ∀ r ∈ s.recs, r.key ∈ nameTab
theorem CI.zero : CI 0 ⟨max 9 0, [], 0⟩ := ⟨.new _ _, by decide, rfl, by simp⟩
theorem CI.len {i : Nat} {s : St} (h : CI i s) : s.recs.length ≤ 8 := keys_le h.sv.srt h.keys
theorem CI.put {i : Nat} {s s' : St} {a b : Int} {k : ByteArray} {v : List UInt8} (h : CI i s) (hv : ¬ 60000 < v.length) (hp : put s k v = (s', a, b)) :
    s' = ⟨9, putR s.recs k (i + 1) v, i + 1⟩ ∧ a = i + 1 ∧ SV (i + 1) s' := by
  unfold K.put at hp
  have hsv := h.sv.cas k (verR s.recs k) v
  rw [hp] at hsv
  have hl := h.len
  rw [cas_put hv (by simp) (by rw [h.most]; omega)] at hp
  simp only [Prod.mk.injEq] at hp
  obtain ⟨e, rfl, _⟩ := hp
  refine ⟨?_, by rw [h.cnt], hsv⟩
  rw [← e, h.most, h.cnt]
theorem CI.step {i : Nat} {s s' : St} {a b : Int} {k : ByteArray} {v : List UInt8} (h : CI i s) (hk : k ∈ nameTab) (hv : ¬ 60000 < v.length) (hp : K.put s k v = (s', a, b)) : CI (i + 1) s' := by
  obtain ⟨rfl, _, hsv⟩ := h.put hv hp
  exact ⟨hsv, rfl, by simp, fun r hr => by
    rcases putR_mem hr with hr | rfl
    · exact h.keys r hr
    · exact hk⟩
def kN : ByteArray := ⟨#[110, 101, 119]⟩
theorem CI.new {i : Nat} {s s' : St} {a b : Int} {v : List UInt8} (h : CI i s) (hv : ¬ 60000 < v.length) (hp : K.put s kN v = (s', a, b)) : a = i + 1 ∧ SV (i + 1) s' ∧ valR s'.recs kN = v := by
  obtain ⟨rfl, rfl, hsv⟩ := h.put hv hp
  refine ⟨rfl, hsv, ?_⟩
  unfold valR
  rw [getR_look (putR_srt h.sv.srt _ _ _), look_put h.sv.srt, if_pos rfl]
theorem del0 {m : Nat} {s s' : St} {d : Int} {k : ByteArray} (h : SV m s) (hd : del s k 0 = (s', d)) : s' = s := by
  cases hk : isK s.recs k with
  | false => rw [del_none hk] at hd; simp only [Prod.mk.injEq] at hd; exact hd.1.symm
  | true =>
    obtain ⟨r, hr, _, hg⟩ := isK_spec hk
    have hv := h.ver r (List.mem_of_getElem? hr)
    rw [del_ver hk (by unfold verR; rw [hg]; simp only; omega)] at hd
    simp only [Prod.mk.injEq] at hd
    exact hd.1.symm
theorem Same1_c (l : List Rc) (hl : l.length ≤ 1000000) : MF Try.prog 17 [.sl (recsA l), .sl (recsA l)] [] (fun Hs' res => Hs' = [] ∧ res = tv true) :=
  mf_post (Same_c l l hl) fun _ _ ⟨h1, h2⟩ => ⟨h1, by rw [h2, sameR_self]⟩
end Go.Proofs.Ytlklapledogdcaa.K
