/- The store's acts as the laws see them; names, and the chapter's example; what a store that is filled up holds. No condition. -/
import Derived.Test.YtlklapledogdcaaSD
import Derived.Test.YtlklapledogdcaaSE
namespace Go.Proofs.Ytlklapledogdcaa.K
open Go

def u8i (b : UInt8) : A := iv .u8 (b.toNat : Int)
theorem New_e (m : Int) : MF Try.prog 8 [iv .i64 m] [] (fun Hs' res => ∃ p r s, s = ⟨max m 0, [], 0⟩ ∧ Hs' = SH p r s ∧ res = .ptr p [] 0) :=
  mf_post (New_c m) fun _ _ ⟨p, r, h1, h2⟩ => ⟨p, r, _, rfl, h1, h2⟩
theorem Cas_e (p r : Nat) (s : St) (hw : SW s) (k : ByteArray) (n : Int) (v : List UInt8) (hv : v.length ≤ 100000000) :
    MF Try.prog 14 [.ptr p [] 0, sv k, iv .i64 n, .sl (v.map u8A)] (SH p r s) (fun Hs' res => ∃ r' s' a b, cas s k n v = (s', a, b) ∧ Hs' = SH p r' s' ∧ res = .tup [iv .i64 a, iv .u16 b]) :=
  mf_post (Cas_c p r s hw k n v hv) fun _ _ ⟨r', h1, h2⟩ => ⟨r', _, _, _, rfl, h1, h2⟩
theorem rem6 (b : UInt8) : ((b.toNat : Int)).tmod 6 = ((b.toNat % 6 : Nat) : Int) := by rw [Int.tmod_eq_emod_of_nonneg (by omega)]; omega
theorem wrapNat {x : Nat} (h : x ≤ 255) : IntKind.i64.wrap (x : Int) = (x : Int) := wrap64_eq (by omega) (by omega)
theorem addByte {i : Nat} (h : i < 9) : IntKind.u8.wrap (97 + IntKind.u8.wrap (i : Int)) = ((UInt8.ofNat (97 + i)).toNat : Int) := by
  rw [wrap8_mod, wrap8_mod, UInt8.toNat_ofNat']; omega
theorem SH_del (p r : Nat) (s : St) (k : ByteArray) : [⟨p, .box 58 (.agg [iv .i64 s.most, .osl r, iv .i64 (s.count + 1)])⟩, ⟨r, .row 41 3 ((recsA s.recs).take (lb s.recs k) ++ (recsA s.recs).drop (lb s.recs k + 1))⟩] = SH p r ⟨s.most, delR s.recs k, s.count + 1⟩ := by
  unfold SH; rw [← delR_A]
def nameTab : List ByteArray := [⟨#[]⟩, ⟨#[97]⟩, ⟨#[97, 47]⟩, ⟨#[97, 47, 49]⟩, ⟨#[97, 47, 50]⟩, ⟨#[98]⟩, ⟨#[117]⟩, ⟨#[97, 0]⟩]
def nameOf (b : UInt8) : ByteArray := nameTab.getD (b.toNat % 8) ⟨#[]⟩
theorem nameOf_at (b : UInt8) : (nameTab.map sv)[b.toNat % 8]? = some (sv (nameOf b)) := by
  have h : b.toNat % 8 < nameTab.length := Nat.mod_lt _ (by decide)
  rw [List.getElem?_map, List.getElem?_eq_getElem h]
  simp [nameOf, List.getD, h]
theorem nameOf_mem (b : UInt8) : nameOf b ∈ nameTab := by
  have h : b.toNat % 8 < nameTab.length := Nat.mod_lt _ (by decide)
  simp only [nameOf, List.getD, List.getElem?_eq_getElem h, Option.getD_some]
  exact List.getElem_mem h
theorem rem8 (b : UInt8) : ((b.toNat : Int)).tmod 8 = ((b.toNat % 8 : Nat) : Int) := by rw [Int.tmod_eq_emod_of_nonneg (by omega)]; omega

/-! ### The example -/
theorem isK_nil (k : ByteArray) : isK [] k = false := rfl
theorem verR_nil (k : ByteArray) : verR [] k = 0 := rfl
theorem isK_one (k : ByteArray) (n : Int) (v : List UInt8) : isK [⟨k, n, v⟩] k = true := by simp [isK, lb, sLt_irrefl]
theorem getR_one (k : ByteArray) (n : Int) (v : List UInt8) : getR [⟨k, n, v⟩] k = some ⟨k, n, v⟩ := by simp [getR, isK_one, lb, sLt_irrefl]
theorem verR_one (k : ByteArray) (n : Int) (v : List UInt8) : verR [⟨k, n, v⟩] k = n := by simp [verR, getR_one]
theorem valR_one (k : ByteArray) (n : Int) (v : List UInt8) : valR [⟨k, n, v⟩] k = v := by simp [valR, getR_one]
theorem kn1 (k : ByteArray) (b : UInt8) : cas ⟨max 5 0, [], 0⟩ k 0 [b] = (⟨max 5 0, [⟨k, 1, [b]⟩], 1⟩, 1, 0) := by
  rw [cas_put (by simp) (by simp [verR_nil]) (by simp [isK_nil]; omega)]
  simp [putR, isK_nil, lb]
theorem kn2 (k : ByteArray) (m : Int) (b c : UInt8) : cas ⟨m, [⟨k, 1, [b]⟩], 1⟩ k 0 [c] = (⟨m, [⟨k, 1, [b]⟩], 1⟩, 0, 30) := by
  rw [cas_ver (by simp) (by simp [verR_one])]
theorem kn3 (k : ByteArray) (m : Int) (b c : UInt8) : cas ⟨m, [⟨k, 1, [b]⟩], 1⟩ k 1 [c] = (⟨m, [⟨k, 2, [c]⟩], 2⟩, 2, 0) := by
  rw [cas_put (by simp) (by simp [verR_one]) (by simp [isK_one])]
  simp [putR, isK_one, lb, sLt_irrefl]

/-! ### A store that is filled up -/
def ky (i : Nat) : ByteArray := ⟨#[UInt8.ofNat (97 + i)]⟩
theorem ky_inj {i j : Nat} (hi : i < 9) (hj : j < 9) (h : ky i = ky j) : i = j := by
  simp only [ky, ByteArray.mk.injEq] at h
  have h2 : UInt8.ofNat (97 + i) = UInt8.ofNat (97 + j) := by simpa using h
  have h3 := congrArg UInt8.toNat h2
  simp only [UInt8.toNat_ofNat'] at h3
  omega
def put (s : St) (k : ByteArray) (v : List UInt8) : St × Int × Int := cas s k (verR s.recs k) v
structure FI (q i : Nat) (s : St) : Prop where
  sv : SV i s
  most : s.most = q
  len : s.recs.length = min i q
  keys : ∀ r ∈ s.recs, ∃ j, j < i ∧ r.key = ky j
  first : 0 < i → 0 < q → isK s.recs (ky 0) = true
theorem FI.no {q i : Nat} {s : St} (h : FI q i s) (hi : i < 9) : isK s.recs (ky i) = false := by
  rw [isK_look h.sv.srt]
  cases hl : look s.recs (ky i) with
  | none => rfl
  | some r =>
    have hk : r.key = ky i := by have := List.find?_some hl; simpa using this
    obtain ⟨j, hj, e⟩ := h.keys r (List.mem_of_find?_eq_some hl)
    have := ky_inj (by omega) hi (e.symm.trans hk)
    omega
theorem FI.step {q i : Nat} {s s' : St} {a b : Int} {v : List UInt8} (h : FI q i s) (hi : i < 9) (hv : ¬ 60000 < v.length) (hp : put s (ky i) v = (s', a, b)) : FI q (i + 1) s' ∧ b = if i < q then 0 else 31 := by
  have hn := h.no hi
  unfold put at hp
  have hsv := h.sv.cas (ky i) (verR s.recs (ky i)) v
  by_cases hq : i < q
  · have hf : ¬ (isK s.recs (ky i) = false ∧ s.most ≤ s.recs.length) := by rw [h.most, h.len]; omega
    rw [hp] at hsv
    rw [cas_put hv (by simp) hf] at hp
    simp only [Prod.mk.injEq] at hp
    obtain ⟨rfl, _, rfl⟩ := hp
    refine ⟨⟨hsv, h.most, ?_, fun r hr => ?_, fun _ h0 => ?_⟩, by rw [if_pos hq]⟩
    · simp only [putR_len, hn]; rw [if_neg (by simp), h.len]; omega
    · rcases putR_mem hr with hr | rfl
      · obtain ⟨j, hj, e⟩ := h.keys r hr; exact ⟨j, by omega, e⟩
      · exact ⟨i, by omega, rfl⟩
    · simp only
      rw [isK_look (putR_srt h.sv.srt _ _ _), look_put h.sv.srt]
      by_cases e : ky 0 = ky i
      · rw [if_pos e]; rfl
      · rw [if_neg e, ← isK_look h.sv.srt]
        refine h.first ?_ h0
        rcases Nat.eq_zero_or_pos i with h1 | h1
        · subst h1; exact absurd rfl e
        · exact h1
  · rw [cas_full hv (by simp) hn (by rw [h.most, h.len]; omega)] at hp
    simp only [Prod.mk.injEq] at hp
    obtain ⟨rfl, _, rfl⟩ := hp
    refine ⟨⟨h.sv.mono (by omega), h.most, by rw [h.len]; omega, fun r hr => ?_, fun h0 h1 => ?_⟩, by rw [if_neg hq]⟩
    · obtain ⟨j, hj, e⟩ := h.keys r hr; exact ⟨j, by omega, e⟩
    · exact h.first (by omega) h1
/-- Behind all of them: "a" is put again. -/
structure FE (q : Nat) (m : Nat) (s : St) : Prop where
  sv : SV m s
  most : s.most = q
  len : s.recs.length = q
  first : 0 < q → isK s.recs (ky 0) = true
theorem FI.end {q : Nat} {s : St} (h : FI q 9 s) (hq : q ≤ 5) : FE q 9 s := ⟨h.sv, h.most, by rw [h.len]; omega, h.first (by omega)⟩
theorem FE.step {q m : Nat} {s s' : St} {a b : Int} {v : List UInt8} (h : FE q m s) (hp : put s (ky 0) v = (s', a, b)) : FE q (m + 1) s' ∧ b = if 60000 < v.length then 3 else if 0 < q then 0 else 31 := by
  unfold put at hp
  have hsv := h.sv.cas (ky 0) (verR s.recs (ky 0)) v
  rw [hp] at hsv
  by_cases hv : 60000 < v.length
  · rw [cas_long hv] at hp
    simp only [Prod.mk.injEq] at hp
    obtain ⟨rfl, _, rfl⟩ := hp
    exact ⟨⟨hsv, h.most, h.len, h.first⟩, by rw [if_pos hv]⟩
  by_cases hq : 0 < q
  · have hk := h.first hq
    rw [cas_put hv (by simp) (by rw [hk]; simp)] at hp
    simp only [Prod.mk.injEq] at hp
    obtain ⟨rfl, _, rfl⟩ := hp
    refine ⟨⟨hsv, h.most, ?_, fun _ => ?_⟩, by rw [if_neg hv, if_pos hq]⟩
    · simp only [putR_len]; rw [if_pos hk, h.len]
    · simp only; rw [isK_look (putR_srt h.sv.srt _ _ _), look_put h.sv.srt, if_pos rfl]; rfl
  · have hl : s.recs = [] := List.eq_nil_of_length_eq_zero (by rw [h.len]; omega)
    rw [cas_full hv (by simp) (by rw [hl]; rfl) (by rw [h.most, h.len]; omega)] at hp
    simp only [Prod.mk.injEq] at hp
    obtain ⟨rfl, _, rfl⟩ := hp
    exact ⟨⟨hsv, h.most, h.len, h.first⟩, by rw [if_neg hv, if_neg hq]⟩
theorem FI.zero (q : Nat) : FI q 0 ⟨max (q : Int) 0, [], 0⟩ := ⟨.new _ _, by simp, by simp, by simp, by omega⟩

/-! ### Versions -/
theorem keys_le : ∀ {tab : List ByteArray} {l : List Rc}, Srt l → (∀ r ∈ l, r.key ∈ tab) → l.length ≤ tab.length
  | [], l, _, h => by
    cases l with
    | nil => simp
    | cons r l => exact absurd (h r (by simp)) (by simp)
  | t :: tab, l, hs, h => by
    have h1 : Srt (l.filter fun r => !decide (r.key = t)) := hs.sublist List.filter_sublist
    have h2 := keys_le (tab := tab) h1 (fun r hr => by
      obtain ⟨hr, hn⟩ := List.mem_filter.1 hr
      have := h r hr
      simp only [List.mem_cons] at this
      rcases this with e | e
      · simp [e] at hn
      · exact e)
    have h3 : ∀ l : List Rc, Srt l → l.length ≤ (l.filter fun r => !decide (r.key = t)).length + 1 := by
      intro l
      induction l with
      | nil => simp
      | cons r l ih =>
        intro hs
        have hs' := List.pairwise_cons.1 hs
        by_cases e : r.key = t
        · have : l.filter (fun r => !decide (r.key = t)) = l := List.filter_eq_self.2 fun x hx => by
            have := hs'.1 x hx
            simp only [Bool.not_eq_true', decide_eq_false_iff_not]
            intro e2
            rw [e, ← e2, sLt_irrefl] at this; cases this
          simp [e, this]
        · have := ih hs'.2
          simp [e]; omega
    have := h3 l hs
    simp only [List.length_cons]; omega
/-- Behind i of them: the last version is the count. -/
structure VI (i : Nat) (s : St) : Prop where
  sv : SV (3 * i) s
  most : s.most = 20
  keys : ∀ r ∈ s.recs, r.key ∈ nameTab
theorem VI.zero : VI 0 ⟨max 20 0, [], 0⟩ := ⟨.new _ _, rfl, by simp⟩
/-- A version that is not: nothing. -/
theorem VI.no {i : Nat} {s s' : St} {k : ByteArray} {n : Int} {a b : Int} (_h : VI i s) (hn : verR s.recs k ≠ n) (hp : cas s k n [] = (s', a, b)) : s' = s ∧ b = 30 := by
  rw [cas_ver (by simp) hn] at hp
  simp only [Prod.mk.injEq] at hp
  exact ⟨hp.1.symm, hp.2.2.symm⟩
structure VP (i : Nat) (s : St) (k : ByteArray) (c : Int) : Prop where
  sv : SV (3 * i + 1) s
  most : s.most = 20
  keys : ∀ r ∈ s.recs, r.key ∈ nameTab
  cnt : s.count = c + 1
  is : isK s.recs k = true
  ver : verR s.recs k = c + 1
theorem VI.put {i : Nat} {s s' : St} {k : ByteArray} {a b : Int} {v : UInt8} (h : VI i s) (hk : k ∈ nameTab) (hp : cas s k (verR s.recs k) [v] = (s', a, b)) : VP i s' k s.count ∧ a = s.count + 1 ∧ b = 0 := by
  have hl : s.recs.length ≤ 8 := keys_le (tab := nameTab) h.sv.srt h.keys
  have hsv := h.sv.cas k (verR s.recs k) [v]
  rw [hp] at hsv
  rw [cas_put (by simp) (by simp) (by rw [h.most]; omega)] at hp
  simp only [Prod.mk.injEq] at hp
  obtain ⟨rfl, rfl, rfl⟩ := hp
  have hlk : look (putR s.recs k (s.count + 1) [v]) k = some ⟨k, s.count + 1, [v]⟩ := by rw [look_put h.sv.srt, if_pos rfl]
  refine ⟨⟨hsv, h.most, fun r hr => ?_, rfl, ?_, ?_⟩, rfl, rfl⟩
  · rcases putR_mem hr with hr | rfl
    · exact h.keys r hr
    · exact hk
  · simp only; rw [isK_look (putR_srt h.sv.srt _ _ _), hlk]; rfl
  · simp only; rw [verR_look (putR_srt h.sv.srt _ _ _), hlk]; rfl
theorem VP.keep {i : Nat} {s : St} {k : ByteArray} {c : Int} (h : VP i s k c) : VI (i + 1) s := ⟨h.sv.mono (by omega), h.most, h.keys⟩
theorem VP.other {i : Nat} {s s' : St} {k : ByteArray} {c b : Int} (h : VP i s k c) (hp : del s k (c + 1 + 1) = (s', b)) : s' = s ∧ b = 30 := by
  rw [del_ver h.is (by rw [h.ver]; omega)] at hp
  simp only [Prod.mk.injEq] at hp
  exact ⟨hp.1.symm, hp.2.symm⟩
structure VD (i : Nat) (s : St) (k : ByteArray) (c : Int) : Prop where
  sv : SV (3 * i + 2) s
  most : s.most = 20
  keys : ∀ r ∈ s.recs, r.key ∈ nameTab
  cnt : s.count = c + 2
  no : isK s.recs k = false
theorem VP.gone {i : Nat} {s s' : St} {k : ByteArray} {c b : Int} (h : VP i s k c) (hp : del s k (c + 1) = (s', b)) : VD i s' k c ∧ b = 0 := by
  have hsv := h.sv.del k (c + 1)
  rw [hp] at hsv
  rw [del_ok h.is (by rw [h.ver]; simp)] at hp
  simp only [Prod.mk.injEq] at hp
  obtain ⟨rfl, rfl⟩ := hp
  refine ⟨⟨hsv, h.most, fun r hr => h.keys r (delR_mem hr), by have := h.cnt; simp only; omega, ?_⟩, rfl⟩
  simp only; rw [isK_look (delR_srt h.sv.srt _), look_del h.sv.srt k h.is, if_pos rfl]; rfl
theorem VD.none {i : Nat} {s s' : St} {k : ByteArray} {c n b : Int} (h : VD i s k c) (hp : del s k n = (s', b)) : s' = s ∧ b = 32 := by
  rw [del_none h.no] at hp
  simp only [Prod.mk.injEq] at hp
  exact ⟨hp.1.symm, hp.2.symm⟩
theorem VD.keep {i : Nat} {s : St} {k : ByteArray} {c : Int} (h : VD i s k c) : VI (i + 1) s := ⟨h.sv.mono (by omega), h.most, h.keys⟩
theorem VI.ver {i : Nat} {s : St} (h : VI i s) (k : ByteArray) : 0 ≤ verR s.recs k ∧ verR s.recs k ≤ s.count := by
  rw [verR_look h.sv.srt]; exact ⟨(verO_pos h.sv k).1, (verO_pos h.sv k).2.1⟩
theorem quo128 (b : UInt8) : IntKind.i64.wrap (IntKind.u8.wrap ((b.toNat : Int).tdiv 128)) = ((b.toNat / 128 : Nat) : Int) := by
  have := b.toNat_lt
  rw [Int.tdiv_eq_ediv_of_nonneg (by omega), wrap8_eq (by omega) (by omega), wrap64_eq (by omega) (by omega)]; omega
theorem rem5 (b : UInt8) : ((b.toNat : Int)).tmod 5 = ((b.toNat % 5 : Nat) : Int) := by rw [Int.tmod_eq_emod_of_nonneg (by omega)]; omega
theorem u8_at {c : List UInt8} {i : Nat} {x : UInt8} (h : c[i]? = some x) : (c.map u8A)[i]? = some (u8A x) := by rw [List.getElem?_map, h]; rfl
end Go.Proofs.Ytlklapledogdcaa.K
