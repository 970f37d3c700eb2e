/- The plain law of scans: what a scan answers is what begins so. No condition. -/
import Derived.Test.YtlklapledogdcaaSN0
import Derived.Test.YtlklapledogdcaaSF
namespace Go.Proofs.Ytlklapledogdcaa.K
open Go

theorem bl_pre : ∀ {p t : List UInt8}, Op.bytesLess (p ++ t) p = false
  | [], t => by cases t <;> rfl
  | a :: p, t => by
    have := bl_pre (p := p) (t := t)
    simp [Op.bytesLess, this]
theorem bl_mid : ∀ {p k1 t : List UInt8}, Op.bytesLess k1 p = false → Op.bytesLess k1 (p ++ t) = true → ∃ u, k1 = p ++ u
  | [], k1, _, _, _ => ⟨k1, rfl⟩
  | a :: p, [], _, h, _ => by simp [Op.bytesLess] at h
  | a :: p, b :: k1, t, h, k => by
    simp only [List.cons_append, Op.bytesLess, Bool.or_eq_false_iff, Bool.and_eq_false_iff, decide_eq_false_iff_not, beq_eq_false_iff_ne, Bool.or_eq_true, Bool.and_eq_true, decide_eq_true_eq, beq_iff_eq] at h k
    rcases k with k | ⟨rfl, k⟩
    · exact absurd k h.1
    · obtain ⟨u, rfl⟩ := bl_mid (p := p) (by rcases h.2 with h | h; exact absurd rfl h; exact h) k
      exact ⟨u, rfl⟩
theorem ba_size (a : ByteArray) : a.size = a.toList.length := by rw [ByteArray.toList_eq]; exact (Array.length_toList).symm
theorem ext_toList (a : ByteArray) (n : Nat) : (a.extract 0 n).toList = a.toList.take n := by
  rw [ByteArray.toList_eq, ByteArray.toList_eq, ByteArray.data_extract, Array.toList_extract]
  simp
theorem pre_iff {a b : ByteArray} : pre a b = true ↔ ∃ t, a.toList = b.toList ++ t := by
  unfold pre
  simp only [Bool.and_eq_true, decide_eq_true_eq]
  constructor
  · rintro ⟨_, h2⟩
    have h3 := congrArg ByteArray.toList h2
    rw [ext_toList] at h3
    exact ⟨a.toList.drop b.size, by rw [← h3]; exact (List.take_append_drop b.size a.toList).symm⟩
  · rintro ⟨t, ht⟩
    refine ⟨by rw [ba_size, ba_size, ht, List.length_append]; omega, ba_ext ?_⟩
    rw [ext_toList, ht, ba_size, List.take_left']
    rfl
theorem pre_low {k p : ByteArray} (h : sLt k p = true) : pre k p = false := by
  cases e : pre k p with
  | false => rfl
  | true =>
    obtain ⟨t, ht⟩ := pre_iff.1 e
    have h2 : Op.bytesLess k.toList p.toList = true := h
    rw [ht, bl_pre] at h2; cases h2
theorem pre_mid {k1 k2 p : ByteArray} (h1 : sLt k1 p = false) (h : sLt k1 k2 = true) (hp : pre k2 p = true) : pre k1 p = true := by
  obtain ⟨t, ht⟩ := pre_iff.1 hp
  have h2 : Op.bytesLess k1.toList k2.toList = true := h
  rw [ht] at h2
  exact pre_iff.2 (bl_mid h1 h2)
theorem tw_filter {p : ByteArray} : ∀ {L : List Rc}, Srt L → (∀ x ∈ L, sLt x.key p = false) → L.takeWhile (fun x => pre x.key p) = L.filter (fun x => pre x.key p)
  | [], _, _ => rfl
  | x :: L, hs, hg => by
    have hs2 := List.pairwise_cons.1 hs
    cases hx : pre x.key p with
    | true =>
      rw [List.takeWhile_cons, List.filter_cons, hx]
      simp only [if_true]
      rw [tw_filter hs2.2 (fun y hy => hg y (by simp [hy]))]
    | false =>
      rw [List.takeWhile_cons, List.filter_cons, hx]
      simp only [Bool.false_eq_true, if_false]
      symm
      rw [List.filter_eq_nil_iff]
      intro y hy hp
      have := pre_mid (hg x (by simp)) (hs2.1 y hy) hp
      rw [hx] at this; cases this
theorem scan_filter {l : List Rc} (h : Srt l) (p : ByteArray) : scanR l p = l.filter (fun x => pre x.key p) := by
  have e : l.filter (fun x => pre x.key p) = (l.take (lb l p)).filter (fun x => pre x.key p) ++ (l.drop (lb l p)).filter (fun x => pre x.key p) := by
    rw [← List.filter_append, List.take_append_drop]
  have e1 : (l.take (lb l p)).filter (fun x => pre x.key p) = [] := by
    rw [List.filter_eq_nil_iff]
    intro x hx hp
    obtain ⟨i, hi, rfl⟩ := List.getElem_of_mem hx
    rw [List.length_take] at hi
    have hl : l[i]? = some l[i] := List.getElem?_eq_getElem (by omega)
    have := lb_lt (k := p) (by omega) hl
    rw [List.getElem_take, pre_low this] at hp
    cases hp
  rw [e, e1, List.nil_append]
  unfold scanR
  refine tw_filter (h.sublist (List.drop_sublist _ _)) fun x hx => ?_
  obtain ⟨i, hi, rfl⟩ := List.getElem_of_mem hx
  rw [List.length_drop] at hi
  have hl : l[lb l p + i]? = some l[lb l p + i] := List.getElem?_eq_getElem (by omega)
  rw [List.getElem_drop]
  have h0 : l[lb l p]? = some (l[lb l p]'(by omega)) := List.getElem?_eq_getElem (by omega)
  have hg := lb_ge h0
  rcases Nat.eq_zero_or_pos i with h1 | h1
  · subst h1; exact hg
  · cases hq : sLt l[lb l p + i].key p with
    | false => rfl
    | true =>
      have := sLt_trans (srt_get h h0 hl (by omega)) hq
      rw [hg] at this; cases this
def eS : ByteArray := ⟨#[]⟩
theorem pre_empty (a : ByteArray) : pre a eS = true := pre_iff.2 ⟨a.toList, by rw [show eS.toList = [] from by rw [ByteArray.toList_eq]; rfl]; rfl⟩
theorem scan_all {l : List Rc} (h : Srt l) : scanR l eS = l := by
  rw [scan_filter h, List.filter_eq_self]
  intro x _; exact pre_empty _

/-! ### A store that is scanned -/
/-- What the law's store is, behind i puts. -/
structure NI (i : Nat) (s : St) : Prop where
  sv : SV i s
  most : s.most = 50
theorem NI.zero : NI 0 ⟨max 50 0, [], 0⟩ := ⟨.new _ _, by decide⟩
theorem NI.step {i : Nat} {s s' : St} {a b : Int} {k : ByteArray} {v : List UInt8} (h : NI i s) (hp : put s k v = (s', a, b)) : NI (i + 1) s' := by
  unfold put at hp
  have hsv := h.sv.cas k (verR s.recs k) v
  rw [hp] at hsv
  refine ⟨hsv, ?_⟩
  have : s' = (cas s k (verR s.recs k) v).1 := by rw [hp]
  rw [this]
  unfold cas
  split
  · exact h.most
  · split
    · exact h.most
    · split
      · exact h.most
      · exact h.most
theorem getR_at {l : List Rc} (h : Srt l) {i : Nat} {x : Rc} (hx : l[i]? = some x) : getR l x.key = some x := by
  have hlb : lb l x.key = i := by
    refine lb_eq (Nat.le_of_lt (List.getElem?_eq_some_iff.1 hx).1) (fun q s hq hs => srt_get h hs hx hq) (fun s hs => ?_)
    rw [hx] at hs; cases hs; exact sLt_irrefl _
  unfold getR isK
  rw [hlb, hx]
  simp
theorem valR_at {l : List Rc} (h : Srt l) {i : Nat} {x : Rc} (hx : l[i]? = some x) : valR l x.key = x.val := by unfold valR; rw [getR_at h hx]
theorem verR_at {l : List Rc} (h : Srt l) {i : Nat} {x : Rc} (hx : l[i]? = some x) : verR l x.key = x.ver := by unfold verR; rw [getR_at h hx]
/-- Of the first j, so many begin so. -/
def cnt (l : List Rc) (p : ByteArray) (j : Nat) : Nat := ((l.take j).filter (fun x => pre x.key p)).length
theorem cnt_step {l : List Rc} {p : ByteArray} {j : Nat} {x : Rc} (hx : l[j]? = some x) : cnt l p (j + 1) = cnt l p j + (if pre x.key p then 1 else 0) := by
  unfold cnt
  rw [take_snoc hx, List.filter_append, List.length_append]
  congr 1
  cases h : pre x.key p <;> simp [h]
theorem cnt_end {l : List Rc} (h : Srt l) (p : ByteArray) : cnt l p l.length = (scanR l p).length := by rw [scan_filter h, cnt, List.take_length]
theorem cnt_le (l : List Rc) (p : ByteArray) (j : Nat) : cnt l p j ≤ l.length := by
  unfold cnt
  exact Nat.le_trans (List.length_filter_le _ _) (by rw [List.length_take]; omega)
open Classical in
/-- Whether records are alike. -/
noncomputable def sameR (a b : List Rc) : Bool := decide (a = b)
theorem sameR_ne {a b : List Rc} (h : a ≠ b) : sameR a b = false := by simp [sameR, h]
theorem sameR_self (a : List Rc) : sameR a a = true := by simp [sameR]
theorem name_len (b : UInt8) : (nameOf b).size ≤ 3 := by
  have : ∀ t ∈ nameTab, t.size ≤ 3 := by decide
  exact this _ (nameOf_mem b)
theorem quo8 (b : UInt8) : IntKind.u8.wrap ((b.toNat : Int).tdiv 8) = ((UInt8.ofNat (b.toNat / 8)).toNat : Int) := by
  have := b.toNat_lt
  rw [Int.tdiv_eq_ediv_of_nonneg (by omega), wrap8_eq (by omega) (by omega), UInt8.toNat_ofNat']; omega
theorem pre_yes {a b : ByteArray} (h : b.size ≤ a.size) (h2 : a.extract 0 b.size = b) : pre a b = true := by unfold pre; rw [decide_eq_true h, decide_eq_true h2]; rfl
theorem pre_no {a b : ByteArray} (h : ¬ (b.size ≤ a.size ∧ a.extract 0 b.size = b)) : pre a b = false := by
  cases e : pre a b with
  | false => rfl
  | true =>
    unfold pre at e
    simp only [Bool.and_eq_true, decide_eq_true_eq] at e
    exact absurd e h
theorem cnt_yes {l : List Rc} {p : ByteArray} {j : Nat} {x : Rc} (hx : l[j]? = some x) (h : pre x.key p = true) : cnt l p (j + 1) = cnt l p j + 1 := by rw [cnt_step hx, h]; rfl
theorem cnt_no {l : List Rc} {p : ByteArray} {j : Nat} {x : Rc} (hx : l[j]? = some x) (h : pre x.key p = false) : cnt l p (j + 1) = cnt l p j := by rw [cnt_step hx, h]; rfl
end Go.Proofs.Ytlklapledogdcaa.K
