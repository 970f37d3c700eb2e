/- The plain law of a store: what is put is found, what is taken away is not; the records stay in order. No condition. -/
import Derived.Test.YtlklapledogdcaaSB2
namespace Go.Proofs.Ytlklapledogdcaa.K
open Go

def look (l : List Rc) (k : ByteArray) : Option Rc := l.find? fun r => decide (r.key = k)
theorem lb_lt {k : ByteArray} : ∀ {l : List Rc} {i : Nat} {r : Rc}, i < lb l k → l[i]? = some r → sLt r.key k = true
  | [], _, _, h, _ => by simp [lb] at h
  | x :: l, 0, r, h, hr => by
    simp at hr; subst hr
    unfold lb at h
    cases hx : sLt x.key k
    · rw [hx] at h; simp at h
    · rfl
  | x :: l, i + 1, r, h, hr => by
    unfold lb at h
    cases hx : sLt x.key k
    · rw [hx] at h; simp at h
    · rw [hx] at h; simp only [cond_true] at h
      exact lb_lt (l := l) (i := i) (by omega) (by simpa using hr)
theorem lb_ge {k : ByteArray} : ∀ {l : List Rc} {r : Rc}, l[lb l k]? = some r → sLt r.key k = false
  | [], _, h => by simp [lb] at h
  | x :: l, r, h => by
    unfold lb at h
    cases hx : sLt x.key k
    · rw [hx] at h; simp at h; subst h; exact hx
    · rw [hx] at h; simp only [cond_true, List.getElem?_cons_succ] at h; exact lb_ge h
theorem srt_gt {l : List Rc} (h : Srt l) {k : ByteArray} {i : Nat} {r : Rc} (hi : lb l k < i) (hr : l[i]? = some r) : sLt k r.key = true := by
  have hlt := (List.getElem?_eq_some_iff.1 hr).1
  obtain ⟨x, hx⟩ : ∃ x, l[lb l k]? = some x := ⟨l[lb l k]'(by omega), List.getElem?_eq_getElem (by omega)⟩
  have h1 := lb_ge hx
  have h2 := srt_get h hx hr hi
  by_cases e : x.key = k
  · rw [← e]; exact h2
  · exact sLt_trans (sLt_total h1 e) h2
theorem look_some {l : List Rc} (h : Srt l) {k : ByteArray} {r : Rc} : look l k = some r ↔ isK l k = true ∧ getR l k = some r := by
  constructor
  · intro hl
    have hk : r.key = k := by have := List.find?_some hl; simpa using this
    have hm := List.mem_of_find?_eq_some hl
    obtain ⟨i, hi, hr⟩ := List.getElem_of_mem hm
    have hr' : l[i]? = some r := by rw [List.getElem?_eq_getElem hi, hr]
    have hlb : lb l k = i := by
      refine lb_eq (by omega) (fun q s hq hs => ?_) (fun s hs => ?_)
      · rw [← hk]; exact srt_get h hs hr' hq
      · rw [hr'] at hs; cases hs; rw [hk]; exact sLt_irrefl k
    have hK : isK l k = true := by unfold isK; rw [hlb, hr']; simp [hk]
    refine ⟨hK, ?_⟩
    unfold getR; rw [hK, hlb]; exact hr'
  · rintro ⟨h1, h2⟩
    obtain ⟨x, hx, hxk, hg⟩ := isK_spec h1
    rw [h2] at hg; cases hg
    have hlt := (List.getElem?_eq_some_iff.1 hx).1
    unfold look
    cases hf : l.find? fun r => decide (r.key = k) with
    | none =>
      have := List.find?_eq_none.1 hf r (List.mem_of_getElem? hx)
      simp [hxk] at this
    | some y =>
      have hy : y.key = k := by have := List.find?_some hf; simpa using this
      obtain ⟨j, hj, hjy⟩ := List.getElem_of_mem (List.mem_of_find?_eq_some hf)
      have hj' : l[j]? = some y := by rw [List.getElem?_eq_getElem hj, hjy]
      rcases Nat.lt_trichotomy j (lb l k) with h3 | h3 | h3
      · have := lb_lt h3 hj'; rw [hy, sLt_irrefl] at this; cases this
      · rw [← h3, hj'] at hx; rw [hx]
      · have := srt_gt h h3 hj'; rw [hy, sLt_irrefl] at this; cases this
theorem getR_look {l : List Rc} (h : Srt l) (k : ByteArray) : getR l k = look l k := by
  cases hl : look l k with
  | some r => exact (look_some h).1 hl |>.2
  | none =>
    cases hk : isK l k with
    | false => exact isK_none hk
    | true =>
      obtain ⟨r, _, _, hg⟩ := isK_spec hk
      rw [(look_some h).2 ⟨hk, hg⟩] at hl; cases hl
theorem isK_look {l : List Rc} (h : Srt l) (k : ByteArray) : isK l k = (look l k).isSome := by
  cases hk : isK l k with
  | true => obtain ⟨r, _, _, hg⟩ := isK_spec hk; rw [(look_some h).2 ⟨hk, hg⟩]; rfl
  | false => rw [← getR_look h, isK_none hk]; rfl
def verO : Option Rc → Int
  | some r => r.ver
  | none => 0
def valO : Option Rc → List UInt8
  | some r => r.val
  | none => []
theorem verR_look {l : List Rc} (h : Srt l) (k : ByteArray) : verR l k = verO (look l k) := by
  unfold verR; rw [getR_look h]; cases look l k <;> rfl
theorem valR_look {l : List Rc} (h : Srt l) (k : ByteArray) : valR l k = valO (look l k) := by
  unfold valR; rw [getR_look h]; cases look l k <;> rfl

theorem mem_take_lt {l : List Rc} {k : ByteArray} {r : Rc} (h : r ∈ l.take (lb l k)) : sLt r.key k = true := by
  obtain ⟨i, hi, hr⟩ := List.getElem_of_mem h
  rw [List.length_take] at hi
  refine lb_lt (i := i) (l := l) (by omega) ?_
  rw [List.getElem_take] at hr
  rw [List.getElem?_eq_getElem (by omega), hr]
theorem mem_drop_gt {l : List Rc} (hs : Srt l) {k : ByteArray} {r : Rc} (h : r ∈ l.drop (bif isK l k then lb l k + 1 else lb l k)) : sLt k r.key = true := by
  obtain ⟨i, hi, hr⟩ := List.getElem_of_mem h
  rw [List.getElem_drop] at hr
  rw [List.length_drop] at hi
  cases hk : isK l k with
  | true =>
    simp only [hk, cond_true] at hr hi
    exact srt_gt hs (i := lb l k + 1 + i) (by omega) (by rw [List.getElem?_eq_getElem (by omega), hr])
  | false =>
    simp only [hk, cond_false] at hr hi
    by_cases h0 : i = 0
    · subst h0
      have hx : l[lb l k]? = some r := by rw [List.getElem?_eq_getElem (by omega)]; simpa using hr
      have h1 := lb_ge hx
      refine sLt_total h1 (fun e => ?_)
      unfold isK at hk; rw [hx] at hk; simp [e] at hk
    · exact srt_gt hs (i := lb l k + i) (by omega) (by rw [List.getElem?_eq_getElem (by omega), hr])
theorem putR_srt {l : List Rc} (h : Srt l) (k : ByteArray) (n : Int) (v : List UInt8) : Srt (putR l k n v) := by
  unfold putR Srt
  rw [List.append_assoc, List.pairwise_append]
  refine ⟨h.sublist (List.take_sublist _ _), ?_, fun a ha b hb => ?_⟩
  · rw [List.singleton_append, List.pairwise_cons]
    exact ⟨fun b hb => mem_drop_gt h hb, h.sublist (List.drop_sublist _ _)⟩
  · have h1 := mem_take_lt ha
    rw [List.singleton_append, List.mem_cons] at hb
    rcases hb with rfl | hb
    · exact h1
    · exact sLt_trans h1 (mem_drop_gt h hb)
theorem delR_srt {l : List Rc} (h : Srt l) (k : ByteArray) : Srt (delR l k) := by
  unfold delR
  refine h.sublist ?_
  conv => rhs; rw [← List.take_append_drop (lb l k) l]
  exact (List.Sublist.refl _).append (by rw [← List.drop_drop]; exact List.drop_sublist _ _)
theorem find_none {l : List Rc} {k : ByteArray} (h : ∀ r ∈ l, r.key ≠ k) : l.find? (fun r => decide (r.key = k)) = none := List.find?_eq_none.2 fun r hr => by simpa using h r hr
theorem look_put {l : List Rc} (h : Srt l) (k : ByteArray) (n : Int) (v : List UInt8) (k' : ByteArray) : look (putR l k n v) k' = if k' = k then some ⟨k, n, v⟩ else look l k' := by
  have h1 : ∀ r ∈ l.take (lb l k), r.key ≠ k := fun r hr e => by have := mem_take_lt hr; rw [e, sLt_irrefl] at this; cases this
  have h2 : ∀ r ∈ l.drop (bif isK l k then lb l k + 1 else lb l k), r.key ≠ k := fun r hr e => by have := mem_drop_gt h hr; rw [e, sLt_irrefl] at this; cases this
  unfold look putR
  rw [List.append_assoc, List.find?_append, List.find?_append]
  by_cases e : k' = k
  · subst e
    rw [find_none h1, if_pos rfl]
    simp
  · have ek : ¬ k = k' := fun h => e h.symm
    rw [if_neg e]
    have e' : ([⟨k, n, v⟩] : List Rc).find? (fun r => decide (r.key = k')) = none := by
      simp [ek]
    rw [e', Option.none_or]
    have hl : l.find? (fun r => decide (r.key = k')) = ((l.take (lb l k)).find? (fun r => decide (r.key = k'))).or ((l.drop (lb l k)).find? (fun r => decide (r.key = k'))) := by
      rw [← List.find?_append, List.take_append_drop]
    rw [hl]
    congr 1
    cases hk : isK l k with
    | false => rfl
    | true =>
      simp only [cond_true]
      obtain ⟨x, hx, hxk, _⟩ := isK_spec hk
      have hlt := (List.getElem?_eq_some_iff.1 hx).1
      rw [List.drop_eq_getElem_cons hlt, (List.getElem?_eq_some_iff.1 hx).2, List.find?_cons]
      simp [hxk, ek]
theorem look_del {l : List Rc} (h : Srt l) (k : ByteArray) (hk : isK l k = true) (k' : ByteArray) : look (delR l k) k' = if k' = k then none else look l k' := by
  obtain ⟨x, hx, hxk, _⟩ := isK_spec hk
  have hlt := (List.getElem?_eq_some_iff.1 hx).1
  have h1 : ∀ r ∈ l.take (lb l k), r.key ≠ k := fun r hr e => by have := mem_take_lt hr; rw [e, sLt_irrefl] at this; cases this
  have h2 : ∀ r ∈ l.drop (lb l k + 1), r.key ≠ k := fun r hr e => by
    have := mem_drop_gt h (k := k) (r := r) (by rw [hk]; exact hr)
    rw [e, sLt_irrefl] at this; cases this
  unfold look delR
  rw [List.find?_append]
  by_cases e : k' = k
  · subst e
    rw [find_none h1, find_none h2, if_pos rfl]; rfl
  · have ek : ¬ k = k' := fun h => e h.symm
    rw [if_neg e]
    have hl : l.find? (fun r => decide (r.key = k')) = ((l.take (lb l k)).find? (fun r => decide (r.key = k'))).or ((l.drop (lb l k)).find? (fun r => decide (r.key = k'))) := by
      rw [← List.find?_append, List.take_append_drop]
    rw [hl]
    congr 1
    rw [List.drop_eq_getElem_cons hlt, (List.getElem?_eq_some_iff.1 hx).2, List.find?_cons]
    simp [hxk, ek]
theorem putR_len {l : List Rc} {k : ByteArray} {n : Int} {v : List UInt8} : (putR l k n v).length = if isK l k = true then l.length else l.length + 1 := by
  have hle := lb_le l k
  unfold putR
  cases hk : isK l k with
  | true =>
    obtain ⟨x, hx, _⟩ := isK_spec hk
    have hlt := (List.getElem?_eq_some_iff.1 hx).1
    simp; omega
  | false => simp; omega
theorem delR_len {l : List Rc} {k : ByteArray} (hk : isK l k = true) : (delR l k).length + 1 = l.length := by
  obtain ⟨x, hx, _⟩ := isK_spec hk
  have hlt := (List.getElem?_eq_some_iff.1 hx).1
  unfold delR; simp; omega
theorem putR_mem {l : List Rc} {k : ByteArray} {n : Int} {v : List UInt8} {r : Rc} (h : r ∈ putR l k n v) : r ∈ l ∨ r = ⟨k, n, v⟩ := by
  unfold putR at h
  simp only [List.mem_append, List.mem_singleton] at h
  rcases h with (h | h) | h
  · exact .inl (List.mem_of_mem_take h)
  · exact .inr h
  · exact .inl (List.mem_of_mem_drop h)
theorem delR_mem {l : List Rc} {k : ByteArray} {r : Rc} (h : r ∈ delR l k) : r ∈ l := by
  unfold delR at h
  rcases List.mem_append.1 h with h | h
  · exact List.mem_of_mem_take h
  · exact List.mem_of_mem_drop h

/-- A store that is well, and small. -/
structure SV (m : Nat) (s : St) : Prop where
  srt : Srt s.recs
  len : s.recs.length ≤ m
  cnt : 0 ≤ s.count ∧ s.count ≤ m
  val : ∀ r ∈ s.recs, r.val.length ≤ 60000
  ver : ∀ r ∈ s.recs, 0 < r.ver ∧ r.ver ≤ s.count
theorem SV.well {m : Nat} {s : St} (h : SV m s) (hm : m ≤ 1000000) : SW s := ⟨h.srt, by have := h.len; omega, by have := h.cnt; omega⟩
theorem SV.vals {m : Nat} {s : St} (h : SV m s) : ∀ r ∈ s.recs, r.val.length ≤ 100000000 := fun r hr => by have := h.val r hr; omega
theorem SV.new (m : Int) (q : Nat) : SV q ⟨m, [], 0⟩ := ⟨.nil, by simp, by simp, by simp, by simp⟩
theorem SV.mono {m q : Nat} {s : St} (h : SV m s) (hq : m ≤ q) : SV q s := ⟨h.srt, by have := h.len; omega, by have := h.cnt; omega, h.val, h.ver⟩
theorem SV.cas {m : Nat} {s : St} (h : SV m s) (k : ByteArray) (n : Int) (v : List UInt8) : SV (m + 1) (cas s k n v).1 := by
  have h1 := h.mono (Nat.le_succ m)
  by_cases c1 : 60000 < v.length
  · rw [cas_long c1]; exact h1
  by_cases c2 : verR s.recs k ≠ n
  · rw [cas_ver c1 c2]; exact h1
  by_cases c3 : isK s.recs k = false ∧ s.most ≤ s.recs.length
  · rw [cas_full c1 c2 c3.1 c3.2]; exact h1
  rw [cas_put c1 c2 c3]
  refine ⟨putR_srt h.srt _ _ _, ?_, ?_, fun r hr => ?_, fun r hr => ?_⟩
  · rw [putR_len]; have := h.len; split <;> omega
  · have := h.cnt; simp only; omega
  · rcases putR_mem hr with hr | rfl
    · exact h.val r hr
    · simp only; omega
  · have := h.cnt
    rcases putR_mem hr with hr | rfl
    · have := h.ver r hr; simp only; omega
    · simp only; omega
theorem SV.del {m : Nat} {s : St} (h : SV m s) (k : ByteArray) (n : Int) : SV (m + 1) (del s k n).1 := by
  have h1 := h.mono (Nat.le_succ m)
  by_cases c1 : isK s.recs k = false
  · rw [del_none c1]; exact h1
  replace c1 : isK s.recs k = true := by simpa using c1
  by_cases c2 : verR s.recs k ≠ n
  · rw [del_ver c1 c2]; exact h1
  rw [del_ok c1 c2]
  refine ⟨delR_srt h.srt _, ?_, ?_, fun r hr => h.val r (delR_mem hr), fun r hr => ?_⟩
  · have := delR_len c1; have := h.len; simp only; omega
  · have := h.cnt; simp only; omega
  · have := h.ver r (delR_mem hr); simp only; omega
theorem verO_pos {m : Nat} {s : St} (h : SV m s) (k : ByteArray) : 0 ≤ verO (look s.recs k) ∧ verO (look s.recs k) ≤ s.count ∧ (isK s.recs k = true → 0 < verO (look s.recs k)) := by
  rw [isK_look h.srt]
  have := h.cnt
  cases hl : look s.recs k with
  | none => simp [verO]; omega
  | some r => have := h.ver r (List.mem_of_find?_eq_some hl); simp [verO]; omega
end Go.Proofs.Ytlklapledogdcaa.K
