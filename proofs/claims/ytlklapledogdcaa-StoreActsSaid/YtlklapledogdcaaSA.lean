/- The order of texts; records in their keys' order; where a key is. No condition. -/
import Derived.Test.YtlklapledogdcaaM6
namespace Go.Proofs.Ytlklapledogdcaa.K
open Go

/-! ### The order of texts -/
theorem bl_irrefl : ∀ a : List UInt8, Op.bytesLess a a = false
  | [] => rfl
  | a :: x => by simp [Op.bytesLess, bl_irrefl x]
theorem bl_trans : ∀ {a b c : List UInt8}, Op.bytesLess a b = true → Op.bytesLess b c = true → Op.bytesLess a c = true
  | _, [], _, h, _ => by cases ‹List UInt8› <;> simp [Op.bytesLess] at h
  | _, _ :: _, [], _, h => by simp [Op.bytesLess] at h
  | [], _ :: _, _ :: _, _, _ => rfl
  | a :: x, b :: y, c :: z, h, k => by
    simp only [Op.bytesLess, Bool.or_eq_true, Bool.and_eq_true, decide_eq_true_eq, beq_iff_eq] at *
    rcases h with h | ⟨rfl, h⟩
    · rcases k with k | ⟨rfl, k⟩
      · left; rw [UInt8.lt_iff_toNat_lt] at *; omega
      · left; exact h
    · rcases k with k | ⟨rfl, k⟩
      · left; exact k
      · right; exact ⟨rfl, bl_trans h k⟩
theorem bl_total : ∀ {a b : List UInt8}, Op.bytesLess a b = false → a ≠ b → Op.bytesLess b a = true
  | [], [], _, h => absurd rfl h
  | [], _ :: _, h, _ => by simp [Op.bytesLess] at h
  | _ :: _, [], _, _ => rfl
  | a :: x, b :: y, h, hne => by
    simp only [Op.bytesLess, Bool.or_eq_false_iff, Bool.and_eq_false_iff, decide_eq_false_iff_not, beq_eq_false_iff_ne, Bool.or_eq_true, Bool.and_eq_true, decide_eq_true_eq, beq_iff_eq] at *
    by_cases e : a = b
    · subst e
      right
      exact ⟨rfl, bl_total (by rcases h.2 with h | h; exact absurd rfl h; exact h) (fun h => hne (by rw [h]))⟩
    · left
      have : a.toNat ≠ b.toNat := fun h => e (UInt8.toNat_inj.1 h)
      rw [UInt8.lt_iff_toNat_lt] at *; omega
theorem ba_ext {a b : ByteArray} (h : a.toList = b.toList) : a = b := by
  rw [ByteArray.toList_eq, ByteArray.toList_eq] at h
  exact ByteArray.ext (Array.toList_inj.1 h)
theorem sLt_irrefl (a : ByteArray) : sLt a a = false := bl_irrefl _
theorem sLt_trans {a b c : ByteArray} (h : sLt a b = true) (k : sLt b c = true) : sLt a c = true := bl_trans h k
theorem sLt_total {a b : ByteArray} (h : sLt a b = false) (hne : a ≠ b) : sLt b a = true := bl_total h (fun e => hne (ba_ext e))
theorem sLt_asymm {a b : ByteArray} (h : sLt a b = true) : sLt b a = false := by
  cases e : sLt b a
  · rfl
  · have := sLt_trans h e; rw [sLt_irrefl] at this; cases this
/-- What cmp.Compare answers. -/
def cmpS (a b : ByteArray) : Int := bif sLt a b then -1 else bif (!(sLt a b || decide (a = b))) then 1 else 0
theorem cmpS_lt (a b : ByteArray) : decide (cmpS a b < 0) = sLt a b := by
  unfold cmpS
  cases sLt a b
  · by_cases e : a = b <;> simp [e]
  · simp
theorem cmpS_eq (a b : ByteArray) : decide (cmpS a b = 0) = decide (a = b) := by
  unfold cmpS
  cases h : sLt a b
  · by_cases e : a = b <;> simp [e]
  · have : a ≠ b := fun e => by subst e; rw [sLt_irrefl] at h; cases h
    simp [this]

/-! ### Records -/
structure Rc where
  key : ByteArray
  ver : Int
  val : List UInt8
def recA (r : Rc) : A := .agg [sv r.key, iv .i64 r.ver, .sl (r.val.map u8A)]
def recsA (l : List Rc) : List A := l.map recA
@[simp] theorem recsA_length (l : List Rc) : (recsA l).length = l.length := by simp [recsA]
theorem recsA_get {l : List Rc} {i : Nat} {r : Rc} (h : l[i]? = some r) : (recsA l)[i]? = some (recA r) := by simp [recsA, h]
theorem recsA_sz (l : List Rc) : ∀ a ∈ recsA l, sz a = 3 := by
  intro a ha
  obtain ⟨r, _, rfl⟩ := List.mem_map.1 ha
  rfl
def Srt (l : List Rc) : Prop := l.Pairwise fun a b => sLt a.key b.key = true
/-- The place of a key. -/
def lb : List Rc → ByteArray → Nat
  | [], _ => 0
  | r :: l, k => bif sLt r.key k then lb l k + 1 else 0
def isK (l : List Rc) (k : ByteArray) : Bool := match l[lb l k]? with | some r => decide (r.key = k) | none => false
theorem lb_le : ∀ (l : List Rc) (k : ByteArray), lb l k ≤ l.length
  | [], _ => Nat.le_refl _
  | r :: l, k => by
    unfold lb
    cases sLt r.key k
    · simp
    · simp only [cond_true, List.length_cons]; have := lb_le l k; omega
theorem lb_eq {k : ByteArray} : ∀ {l : List Rc} {i : Nat}, i ≤ l.length → (∀ q r, q < i → l[q]? = some r → sLt r.key k = true) → (∀ r, l[i]? = some r → sLt r.key k = false) → lb l k = i
  | [], i, h, _, _ => by simp at h; subst h; rfl
  | r :: l, 0, _, _, h => by unfold lb; rw [h r rfl]; rfl
  | r :: l, i + 1, hi, h1, h2 => by
    unfold lb
    rw [h1 0 r (by omega) rfl]
    simp only [cond_true]
    rw [lb_eq (l := l) (i := i) (by simpa using hi) (fun q s hq hs => h1 (q + 1) s (by omega) (by simpa using hs)) (fun s hs => h2 s (by simpa using hs))]
theorem srt_get {l : List Rc} (h : Srt l) {i j : Nat} {r s : Rc} (hi : l[i]? = some r) (hj : l[j]? = some s) (hij : i < j) : sLt r.key s.key = true := by
  obtain ⟨h1, rfl⟩ := List.getElem?_eq_some_iff.1 hi
  obtain ⟨h2, rfl⟩ := List.getElem?_eq_some_iff.1 hj
  exact (List.pairwise_iff_getElem.1 h) i j h1 h2 hij
theorem half (i j : Nat) (h : i + j ≤ 4000000000) : IntKind.i64.wrap ((IntKind.u64.wrap ((i : Int) + (j : Int))).fdiv (2 ^ (min (1 : Int).toNat IntKind.u64.bits))) = (((i + j) / 2 : Nat) : Int) := by
  have h1 : IntKind.u64.wrap ((i : Int) + (j : Int)) = ((i + j : Nat) : Int) := by
    simp only [IntKind.wrap, IntKind.bits, IntKind.signed]; simp; omega
  rw [h1]
  have h2 : ((i + j : Nat) : Int).fdiv (2 ^ (min (1 : Int).toNat IntKind.u64.bits)) = (((i + j) / 2 : Nat) : Int) := by
    simp only [IntKind.bits]
    rw [Int.fdiv_eq_ediv_of_nonneg _ (by decide)]
    rfl
  rw [h2, wrap64_eq (by omega) (by omega)]
end Go.Proofs.Ytlklapledogdcaa.K
