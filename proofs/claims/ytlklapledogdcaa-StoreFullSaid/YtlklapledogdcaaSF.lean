/- The store's acts as the laws see them; names, and the chapter's example; what a store that is filled up holds. No condition. -/
import Derived.Test.YtlklapledogdcaaSD
import Derived.Test.YtlklapledogdcaaSE
namespace Go.Proofs.Ytlklapledogdcaa.K
open Go

def u8i (b : UInt8) : A := iv .u8 (b.toNat : Int)
theorem New_e (m : Int) : MF Try.prog 8 [iv .i64 m] [] (fun Hs' res => ∃ p r s, s = ⟨max m 0, [], 0⟩ ∧ Hs' = SH p r s ∧ res = .ptr p [] 0) :=
  mf_post (New_c m) fun _ _ ⟨p, r, h1, h2⟩ => ⟨p, r, _, rfl, h1, h2⟩
theorem Cas_e (p r : Nat) (s : St) (hw : SW s) (k : ByteArray) (n : Int) (v : List UInt8) (hv : v.length ≤ 100000000) :
    MF Try.prog 14 [.ptr p [] 0, sv k, iv .i64 n, .sl (v.map u8A)] (SH p r s) (fun Hs' res => ∃ r' s' a b, cas s k n v = (s', a, b) ∧ Hs' = SH p r' s' ∧ res = .tup [iv .i64 a, iv .u16 b]) :=
  mf_post (Cas_c p r s hw k n v hv) fun _ _ ⟨r', h1, h2⟩ => ⟨r', _, _, _, rfl, h1, h2⟩
theorem rem6 (b : UInt8) : ((b.toNat : Int)).tmod 6 = ((b.toNat % 6 : Nat) : Int) := by rw [Int.tmod_eq_emod_of_nonneg (by omega)]; omega
theorem wrapNat {x : Nat} (h : x ≤ 255) : IntKind.i64.wrap (x : Int) = (x : Int) := wrap64_eq (by omega) (by omega)
theorem addByte {i : Nat} (h : i < 9) : IntKind.u8.wrap (97 + IntKind.u8.wrap (i : Int)) = ((UInt8.ofNat (97 + i)).toNat : Int) := by
  rw [wrap8_mod, wrap8_mod, UInt8.toNat_ofNat']; omega
theorem SH_del (p r : Nat) (s : St) (k : ByteArray) : [⟨p, .box 58 (.agg [iv .i64 s.most, .osl r, iv .i64 (s.count + 1)])⟩, ⟨r, .row 41 3 ((recsA s.recs).take (lb s.recs k) ++ (recsA s.recs).drop (lb s.recs k + 1))⟩] = SH p r ⟨s.most, delR s.recs k, s.count + 1⟩ := by
  unfold SH; rw [← delR_A]
def nameTab : List ByteArray := [⟨#[]⟩, ⟨#[97]⟩, ⟨#[97, 47]⟩, ⟨#[97, 47, 49]⟩, ⟨#[97, 47, 50]⟩, ⟨#[98]⟩, ⟨#[117]⟩, ⟨#[97, 0]⟩]
def nameOf (b : UInt8) : ByteArray := nameTab.getD (b.toNat % 8) ⟨#[]⟩
theorem nameOf_at (b : UInt8) : (nameTab.map sv)[b.toNat % 8]? = some (sv (nameOf b)) := by
  have h : b.toNat % 8 < nameTab.length := Nat.mod_lt _ (by decide)
  rw [List.getElem?_map, List.getElem?_eq_getElem h]
  simp [nameOf, List.getD, h]
theorem nameOf_mem (b : UInt8) : nameOf b ∈ nameTab := by
  have h : b.toNat % 8 < nameTab.length := Nat.mod_lt _ (by decide)
  simp only [nameOf, List.getD, List.getElem?_eq_getElem h, Option.getD_some]
  exact List.getElem_mem h
theorem rem8 (b : UInt8) : ((b.toNat : Int)).tmod 8 = ((b.toNat % 8 : Nat) : Int) := by rw [Int.tmod_eq_emod_of_nonneg (by omega)]; omega

/-! ### The example -/
theorem isK_nil (k : ByteArray) : isK [] k = false := rfl
theorem verR_nil (k : ByteArray) : verR [] k = 0 := rfl
theorem isK_one (k : ByteArray) (n : Int) (v : List UInt8) : isK [⟨k, n, v⟩] k = true := by simp [isK, lb, sLt_irrefl]
theorem getR_one (k : ByteArray) (n : Int) (v : List UInt8) : getR [⟨k, n, v⟩] k = some ⟨k, n, v⟩ := by simp [getR, isK_one, lb, sLt_irrefl]
theorem verR_one (k : ByteArray) (n : Int) (v : List UInt8) : verR [⟨k, n, v⟩] k = n := by simp [verR, getR_one]
theorem valR_one (k : ByteArray) (n : Int) (v : List UInt8) : valR [⟨k, n, v⟩] k = v := by simp [valR, getR_one]
theorem kn1 (k : ByteArray) (b : UInt8) : cas ⟨max 5 0, [], 0⟩ k 0 [b] = (⟨max 5 0, [⟨k, 1, [b]⟩], 1⟩, 1, 0) := by
  rw [cas_put (by simp) (by simp [verR_nil]) (by simp [isK_nil]; omega)]
  simp [putR, isK_nil, lb]
theorem kn2 (k : ByteArray) (m : Int) (b c : UInt8) : cas ⟨m, [⟨k, 1, [b]⟩], 1⟩ k 0 [c] = (⟨m, [⟨k, 1, [b]⟩], 1⟩, 0, 30) := by
  rw [cas_ver (by simp) (by simp [verR_one])]
theorem kn3 (k : ByteArray) (m : Int) (b c : UInt8) : cas ⟨m, [⟨k, 1, [b]⟩], 1⟩ k 1 [c] = (⟨m, [⟨k, 2, [c]⟩], 2⟩, 2, 0) := by
  rw [cas_put (by simp) (by simp [verR_one]) (by simp [isK_one])]
  simp [putR, isK_one, lb, sLt_irrefl]

/-! ### A store that is filled up -/
def ky (i : Nat) : ByteArray := ⟨#[UInt8.ofNat (97 + i)]⟩
theorem ky_inj {i j : Nat} (hi : i < 9) (hj : j < 9) (h : ky i = ky j) : i = j := by
  simp only [ky, ByteArray.mk.injEq] at h
  have h2 : UInt8.ofNat (97 + i) = UInt8.ofNat (97 + j) := by simpa using h
  have h3 := congrArg UInt8.toNat h2
  simp only [UInt8.toNat_ofNat'] at h3
  omega
def put (s : St) (k : ByteArray) (v : List UInt8) : St × Int × Int := cas s k (verR s.recs k) v
structure FI (q i : Nat) (s : St) : Prop where
  sv : SV i s
  most : s.most = q
  len : s.recs.length = min i q
  keys : ∀ r ∈ s.recs, ∃ j, j < i ∧ r.key = ky j
  first : 0 < i → 0 < q → isK s.recs (ky 0) = true
theorem FI.no {q i : Nat} {s : St} (h : FI q i s) (hi : i < 9) : isK s.recs (ky i) = false := by
  rw [isK_look h.sv.srt]
  cases hl : look s.recs (ky i) with
  | none => rfl
  | some r =>
    have hk : r.key = ky i := by have := List.find?_some hl; simpa using this
    obtain ⟨j, hj, e⟩ := h.keys r (List.mem_of_find?_eq_some hl)
    have := ky_inj (by omega) hi (e.symm.trans hk)
    omega
theorem FI.step {q i : Nat} {s s' : St} {a b : Int} {v : List UInt8} (h : FI q i s) (hi : i < 9) (hv : ¬ 60000 < v.length) (hp : put s (ky i) v = (s', a, b)) : FI q (i + 1) s' ∧ b = if i < q then 0 else 31 := by
  have hn := h.no hi
  unfold put at hp
  have hsv := h.sv.cas (ky i) (verR s.recs (ky i)) v
  by_cases hq : i < q
  · have hf : ¬ (isK s.recs (ky i) = false ∧ s.most ≤ s.recs.length) := by rw [h.most, h.len]; omega
    rw [hp] at hsv
    rw [cas_put hv (by simp) hf] at hp
    simp only [Prod.mk.injEq] at hp
    obtain ⟨rfl, _, rfl⟩ := hp
    refine ⟨⟨hsv, h.most, ?_, fun r hr => ?_, fun _ h0 => ?_⟩, by rw [if_pos hq]⟩
    · simp only [putR_len, hn]; rw [if_neg (by simp), h.len]; omega
    · rcases putR_mem hr with hr | rfl
      · obtain ⟨j, hj, e⟩ := h.keys r hr; exact ⟨j, by omega, e⟩
      · exact ⟨i, by omega, rfl⟩
    · simp only
      rw [isK_look (putR_srt h.sv.srt _ _ _), look_put h.sv.srt]
      by_cases e : ky 0 = ky i
      · rw [if_pos e]; rfl
      · rw [if_neg e, ← isK_look h.sv.srt]
        refine h.first ?_ h0
        rcases Nat.eq_zero_or_pos i with h1 | h1
        · subst h1; exact absurd rfl e
        · exact h1
  · rw [cas_full hv (by simp) hn (by rw [h.most, h.len]; omega)] at hp
    simp only [Prod.mk.injEq] at hp
    obtain ⟨rfl, _, rfl⟩ := hp
    refine ⟨⟨h.sv.mono (by omega), h.most, by rw [h.len]; omega, fun r hr => ?_, fun h0 h1 => ?_⟩, by rw [if_neg hq]⟩
    · obtain ⟨j, hj, e⟩ := h.keys r hr; exact ⟨j, by omega, e⟩
    · exact h.first (by omega) h1
/-- Behind all of them: "a" is put again. -/
structure FE (q : Nat) (m : Nat) (s : St) : Prop where
  sv : SV m s
  most : s.most = q
  len : s.recs.length = q
  first : 0 < q → isK s.recs (ky 0) = true
theorem FI.end {q : Nat} {s : St} (h : FI q 9 s) (hq : q ≤ 5) : FE q 9 s := ⟨h.sv, h.most, by rw [h.len]; omega, h.first (by omega)⟩
theorem FE.step {q m : Nat} {s s' : St} {a b : Int} {v : List UInt8} (h : FE q m s) (hp : put s (ky 0) v = (s', a, b)) : FE q (m + 1) s' ∧ b = if 60000 < v.length then 3 else if 0 < q then 0 else 31 := by
  unfold put at hp
  have hsv := h.sv.cas (ky 0) (verR s.recs (ky 0)) v
  rw [hp] at hsv
  by_cases hv : 60000 < v.length
  · rw [cas_long hv] at hp
    simp only [Prod.mk.injEq] at hp
    obtain ⟨rfl, _, rfl⟩ := hp
    exact ⟨⟨hsv, h.most, h.len, h.first⟩, by rw [if_pos hv]⟩
  by_cases hq : 0 < q
  · have hk := h.first hq
    rw [cas_put hv (by simp) (by rw [hk]; simp)] at hp
    simp only [Prod.mk.injEq] at hp
    obtain ⟨rfl, _, rfl⟩ := hp
    refine ⟨⟨hsv, h.most, ?_, fun _ => ?_⟩, by rw [if_neg hv, if_pos hq]⟩
    · simp only [putR_len]; rw [if_pos hk, h.len]
    · simp only; rw [isK_look (putR_srt h.sv.srt _ _ _), look_put h.sv.srt, if_pos rfl]; rfl
  · have hl : s.recs = [] := List.eq_nil_of_length_eq_zero (by rw [h.len]; omega)
    rw [cas_full hv (by simp) (by rw [hl]; rfl) (by rw [h.most, h.len]; omega)] at hp
    simp only [Prod.mk.injEq] at hp
    obtain ⟨rfl, _, rfl⟩ := hp
    exact ⟨⟨hsv, h.most, h.len, h.first⟩, by rw [if_neg hv, if_neg hq]⟩
theorem FI.zero (q : Nat) : FI q 0 ⟨max (q : Int) 0, [], 0⟩ := ⟨.new _ _, by simp, by simp, by simp, by omega⟩
end Go.Proofs.Ytlklapledogdcaa.K
