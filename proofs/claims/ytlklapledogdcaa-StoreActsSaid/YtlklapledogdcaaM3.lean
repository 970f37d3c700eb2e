/- Abstract states of a walk: numbers, truths, texts, places, loads, lengths, parts of slices. No condition. -/
import Derived.Test.YtlklapledogdcaaM2
namespace Go.Proofs.Ytlklapledogdcaa.K
open Go

section
variable {P : Program} {n : Nat} {Hs : List En} {Rs : Nat → Bool} {α : Nat → A} {d : Option Tmp} {ty : TypeId} {pos : String} {af : Array Edge} {gd : Option (Nat × Bool)}

theorem MY.to {o : Oper} {a a' : A} (h : MY P n Hs Rs α o a) (e : a = a') : MY P n Hs Rs α o a' := e ▸ h
abbrev iv (k : IntKind) (x : Int) : A := .v (.int k x)
abbrev tv (b : Bool) : A := .v (.bool b)
abbrev sv (s : ByteArray) : A := .v (.string s)

section ints
variable {k k' : IntKind} {a b : Int} {x y : Operand} {t t' : TypeId}
theorem my_add (hx : ea n α x = iv k a) (hy : ea n α y = iv k b) (ho : okC x = true := by rfl) (ho' : okC y = true := by rfl) : MY P n Hs Rs α ⟨d, .binOp .add t x y t', ty, pos, af, gd⟩ (iv k (k.wrap (a + b))) :=
  my_of fun _ _ hE => ⟨_, .v _ rfl, fun _ => y_add (ea_v hE hx ho) (ea_v hE hy ho')⟩
theorem my_sub (hx : ea n α x = iv k a) (hy : ea n α y = iv k b) (ho : okC x = true := by rfl) (ho' : okC y = true := by rfl) : MY P n Hs Rs α ⟨d, .binOp .sub t x y t', ty, pos, af, gd⟩ (iv k (k.wrap (a - b))) :=
  my_of fun _ _ hE => ⟨_, .v _ rfl, fun _ => y_sub (ea_v hE hx ho) (ea_v hE hy ho')⟩
theorem my_mul (hx : ea n α x = iv k a) (hy : ea n α y = iv k b) (ho : okC x = true := by rfl) (ho' : okC y = true := by rfl) : MY P n Hs Rs α ⟨d, .binOp .mul t x y t', ty, pos, af, gd⟩ (iv k (k.wrap (a * b))) :=
  my_of fun _ _ hE => ⟨_, .v _ rfl, fun _ => y_mul (ea_v hE hx ho) (ea_v hE hy ho')⟩
theorem my_add64 (hx : ea n α x = iv .i64 a) (hy : ea n α y = iv .i64 b) (h : -9223372036854775808 ≤ a + b ∧ a + b ≤ 9223372036854775807) (ho : okC x = true := by rfl) (ho' : okC y = true := by rfl) : MY P n Hs Rs α ⟨d, .binOp .add t x y t', ty, pos, af, gd⟩ (iv .i64 (a + b)) :=
  my_of fun _ _ hE => ⟨_, .v _ rfl, fun _ => y_add64 (ea_v hE hx ho) (ea_v hE hy ho') h⟩
theorem my_sub64 (hx : ea n α x = iv .i64 a) (hy : ea n α y = iv .i64 b) (h : -9223372036854775808 ≤ a - b ∧ a - b ≤ 9223372036854775807) (ho : okC x = true := by rfl) (ho' : okC y = true := by rfl) : MY P n Hs Rs α ⟨d, .binOp .sub t x y t', ty, pos, af, gd⟩ (iv .i64 (a - b)) :=
  my_of fun _ _ hE => ⟨_, .v _ rfl, fun _ => y_sub64 (ea_v hE hx ho) (ea_v hE hy ho') h⟩
theorem my_mul64 (hx : ea n α x = iv .i64 a) (hy : ea n α y = iv .i64 b) (h : -9223372036854775808 ≤ a * b ∧ a * b ≤ 9223372036854775807) (ho : okC x = true := by rfl) (ho' : okC y = true := by rfl) : MY P n Hs Rs α ⟨d, .binOp .mul t x y t', ty, pos, af, gd⟩ (iv .i64 (a * b)) :=
  my_of fun _ _ hE => ⟨_, .v _ rfl, fun _ => y_mul64 (ea_v hE hx ho) (ea_v hE hy ho') h⟩
theorem my_quo (hx : ea n α x = iv k a) (hy : ea n α y = iv k b) (hb : b ≠ 0) (ho : okC x = true := by rfl) (ho' : okC y = true := by rfl) : MY P n Hs Rs α ⟨d, .binOp .quo t x y t', ty, pos, af, gd⟩ (iv k (k.wrap (a.tdiv b))) :=
  my_of fun _ _ hE => ⟨_, .v _ rfl, fun _ => y_quo (ea_v hE hx ho) (ea_v hE hy ho') hb⟩
theorem my_rem (hx : ea n α x = iv k a) (hy : ea n α y = iv k b) (hb : b ≠ 0) (ho : okC x = true := by rfl) (ho' : okC y = true := by rfl) : MY P n Hs Rs α ⟨d, .binOp .rem t x y t', ty, pos, af, gd⟩ (iv k (a.tmod b)) :=
  my_of fun _ _ hE => ⟨_, .v _ rfl, fun _ => y_rem (ea_v hE hx ho) (ea_v hE hy ho') hb⟩
theorem my_and (hx : ea n α x = iv k a) (hy : ea n α y = iv k b) (ho : okC x = true := by rfl) (ho' : okC y = true := by rfl) : MY P n Hs Rs α ⟨d, .binOp .and t x y t', ty, pos, af, gd⟩ (iv k (k.wrap (BitVec.ofInt k.bits a &&& BitVec.ofInt k.bits b).toNat)) :=
  my_of fun _ _ hE => ⟨_, .v _ rfl, fun _ => y_and (ea_v hE hx ho) (ea_v hE hy ho')⟩
theorem my_or (hx : ea n α x = iv k a) (hy : ea n α y = iv k b) (ho : okC x = true := by rfl) (ho' : okC y = true := by rfl) : MY P n Hs Rs α ⟨d, .binOp .or t x y t', ty, pos, af, gd⟩ (iv k (k.wrap (BitVec.ofInt k.bits a ||| BitVec.ofInt k.bits b).toNat)) :=
  my_of fun _ _ hE => ⟨_, .v _ rfl, fun _ => y_or (ea_v hE hx ho) (ea_v hE hy ho')⟩
theorem my_xor (hx : ea n α x = iv k a) (hy : ea n α y = iv k b) (ho : okC x = true := by rfl) (ho' : okC y = true := by rfl) : MY P n Hs Rs α ⟨d, .binOp .xor t x y t', ty, pos, af, gd⟩ (iv k (k.wrap (BitVec.ofInt k.bits a ^^^ BitVec.ofInt k.bits b).toNat)) :=
  my_of fun _ _ hE => ⟨_, .v _ rfl, fun _ => y_xor (ea_v hE hx ho) (ea_v hE hy ho')⟩
theorem my_eql (hx : ea n α x = iv k a) (hy : ea n α y = iv k b) (ho : okC x = true := by rfl) (ho' : okC y = true := by rfl) : MY P n Hs Rs α ⟨d, .binOp .eql t x y t', ty, pos, af, gd⟩ (tv (decide (a = b))) :=
  my_of fun _ _ hE => ⟨_, .v _ rfl, fun _ => y_eql (ea_v hE hx ho) (ea_v hE hy ho')⟩
theorem my_neq (hx : ea n α x = iv k a) (hy : ea n α y = iv k b) (ho : okC x = true := by rfl) (ho' : okC y = true := by rfl) : MY P n Hs Rs α ⟨d, .binOp .neq t x y t', ty, pos, af, gd⟩ (tv (decide (a ≠ b))) :=
  my_of fun _ _ hE => ⟨_, .v _ rfl, fun _ => y_neq (ea_v hE hx ho) (ea_v hE hy ho')⟩
theorem my_lss (hx : ea n α x = iv k a) (hy : ea n α y = iv k b) (ho : okC x = true := by rfl) (ho' : okC y = true := by rfl) : MY P n Hs Rs α ⟨d, .binOp .lss t x y t', ty, pos, af, gd⟩ (tv (decide (a < b))) :=
  my_of fun _ _ hE => ⟨_, .v _ rfl, fun _ => y_lss (ea_v hE hx ho) (ea_v hE hy ho')⟩
theorem my_leq (hx : ea n α x = iv k a) (hy : ea n α y = iv k b) (ho : okC x = true := by rfl) (ho' : okC y = true := by rfl) : MY P n Hs Rs α ⟨d, .binOp .leq t x y t', ty, pos, af, gd⟩ (tv (decide (a ≤ b))) :=
  my_of fun _ _ hE => ⟨_, .v _ rfl, fun _ => y_leq (ea_v hE hx ho) (ea_v hE hy ho')⟩
theorem my_gtr (hx : ea n α x = iv k a) (hy : ea n α y = iv k b) (ho : okC x = true := by rfl) (ho' : okC y = true := by rfl) : MY P n Hs Rs α ⟨d, .binOp .gtr t x y t', ty, pos, af, gd⟩ (tv (decide (b < a))) :=
  my_of fun _ _ hE => ⟨_, .v _ rfl, fun _ => y_gtr (ea_v hE hx ho) (ea_v hE hy ho')⟩
theorem my_geq (hx : ea n α x = iv k a) (hy : ea n α y = iv k b) (ho : okC x = true := by rfl) (ho' : okC y = true := by rfl) : MY P n Hs Rs α ⟨d, .binOp .geq t x y t', ty, pos, af, gd⟩ (tv (decide (b ≤ a))) :=
  my_of fun _ _ hE => ⟨_, .v _ rfl, fun _ => y_geq (ea_v hE hx ho) (ea_v hE hy ho')⟩
theorem my_shr (hx : ea n α x = iv k a) (hy : ea n α y = iv k' b) (hb : 0 ≤ b) (ho : okC x = true := by rfl) (ho' : okC y = true := by rfl) : MY P n Hs Rs α ⟨d, .binOp .shr t x y t', ty, pos, af, gd⟩ (iv k (a.fdiv (2 ^ (min b.toNat k.bits)))) :=
  my_of fun _ _ hE => ⟨_, .v _ rfl, fun _ => y_shr (ea_v hE hx ho) (ea_v hE hy ho') hb⟩
theorem my_shl (hx : ea n α x = iv k a) (hy : ea n α y = iv k' b) (hb : 0 ≤ b) (ho : okC x = true := by rfl) (ho' : okC y = true := by rfl) : MY P n Hs Rs α ⟨d, .binOp .shl t x y t', ty, pos, af, gd⟩ (iv k (k.wrap (a * 2 ^ (min b.toNat k.bits)))) :=
  my_of fun _ _ hE => ⟨_, .v _ rfl, fun _ => y_shl (ea_v hE hx ho) (ea_v hE hy ho') hb⟩
theorem my_neg (hx : ea n α x = iv k a) (ho : okC x = true := by rfl) : MY P n Hs Rs α ⟨d, .unOp .neg t x, ty, pos, af, gd⟩ (iv k (k.wrap (0 - a))) :=
  my_of fun _ _ hE => ⟨_, .v _ rfl, fun _ => y_neg (ea_v hE hx ho)⟩
theorem my_conv (hs : ∃ u, P.underlying t = some u) (ht : P.underlying t' = some (.int k)) (hx : ea n α x = iv k' a) (ho : okC x = true := by rfl) : MY P n Hs Rs α ⟨d, .convert t t' x, ty, pos, af, gd⟩ (iv k (k.wrap a)) :=
  my_of fun _ _ hE => ⟨_, .v _ rfl, fun _ => y_conv_int hs ht (ea_v hE hx ho)⟩
theorem my_min (hx : ea n α x = iv k a) (hy : ea n α y = iv k b) (ho : okC x = true := by rfl) (ho' : okC y = true := by rfl) : MY P n Hs Rs α ⟨d, .call { callee := .builtin .min, args := #[x, y], argTypes := #[t, t'] }, ty, pos, af, gd⟩ (iv k (min a b)) :=
  my_of fun _ _ hE => ⟨_, .v _ rfl, fun _ => y_min (ea_v hE hx ho) (ea_v hE hy ho')⟩
theorem my_max (hx : ea n α x = iv k a) (hy : ea n α y = iv k b) (ho : okC x = true := by rfl) (ho' : okC y = true := by rfl) : MY P n Hs Rs α ⟨d, .call { callee := .builtin .max, args := #[x, y], argTypes := #[t, t'] }, ty, pos, af, gd⟩ (iv k (max a b)) :=
  my_of fun _ _ hE => ⟨_, .v _ rfl, fun _ => y_max (ea_v hE hx ho) (ea_v hE hy ho')⟩
end ints

theorem my_not {x : Operand} {t : TypeId} {b : Bool} (hx : ea n α x = tv b) (ho : okC x = true := by rfl) : MY P n Hs Rs α ⟨d, .unOp .not t x, ty, pos, af, gd⟩ (tv (!b)) := my_of fun _ _ hE => ⟨_, .v _ rfl, fun _ => y_not (ea_v hE hx ho)⟩
theorem my_beql {a b : Bool} {x y : Operand} {t t' : TypeId} (hu : P.underlying t = some .bool) (hx : ea n α x = tv a) (hy : ea n α y = tv b) (ho : okC x = true := by rfl) (ho' : okC y = true := by rfl) : MY P n Hs Rs α ⟨d, .binOp .eql t x y t', ty, pos, af, gd⟩ (tv (a == b)) :=
  my_of fun _ _ hE => ⟨_, .v _ rfl, fun _ => y_beql hu (ea_v hE hx ho) (ea_v hE hy ho')⟩

theorem y_bneq {ρ : Env} {w : World} {a b : Bool} {x y : Operand} {t t' : TypeId} (hu : P.underlying t = some .bool) (hx : ev n ρ x = .bool a) (hy : ev n ρ y = .bool b) : Y P n ρ ⟨d, .binOp .neq t x y t', ty, pos, af, gd⟩ w (.bool (!(a == b))) := by
  have he : ∀ m, (Op.equalIn (m + 1) t (.bool a) (.bool b)).run P w = .ok (a == b) w := fun m => by
    unfold Op.equalIn
    simp [underlying, hu]
  have hb : (binOp .neq t (.bool a) (.bool b)).run P w = .ok (.bool (!(a == b))) w := by
    unfold binOp Op.equal
    have := he (Op.maxDepth - 1)
    rw [show Op.maxDepth - 1 + 1 = Op.maxDepth from rfl] at this
    simp [this]
  refine ⟨?_⟩
  simp only [execOp, hx, hy, Sem.run_bind, run_eqGuard_bool, Result.andThen_ok, hb, Sem.run_pure]
theorem my_bneq {a b : Bool} {x y : Operand} {t t' : TypeId} (hu : P.underlying t = some .bool) (hx : ea n α x = tv a) (hy : ea n α y = tv b) (ho : okC x = true := by rfl) (ho' : okC y = true := by rfl) : MY P n Hs Rs α ⟨d, .binOp .neq t x y t', ty, pos, af, gd⟩ (tv (!(a == b))) :=
  my_of fun _ _ hE => ⟨_, .v _ rfl, fun _ => y_bneq hu (ea_v hE hx ho) (ea_v hE hy ho')⟩

section strs
variable {a b : ByteArray} {x y : Operand} {t t' : TypeId}
theorem my_seql (hx : ea n α x = sv a) (hy : ea n α y = sv b) (ho : okC x = true := by rfl) (ho' : okC y = true := by rfl) : MY P n Hs Rs α ⟨d, .binOp .eql t x y t', ty, pos, af, gd⟩ (tv (decide (a = b))) := my_of fun _ _ hE => ⟨_, .v _ rfl, fun _ => y_seql (ea_v hE hx ho) (ea_v hE hy ho')⟩
theorem my_sneq (hx : ea n α x = sv a) (hy : ea n α y = sv b) (ho : okC x = true := by rfl) (ho' : okC y = true := by rfl) : MY P n Hs Rs α ⟨d, .binOp .neq t x y t', ty, pos, af, gd⟩ (tv (decide (a ≠ b))) := my_of fun _ _ hE => ⟨_, .v _ rfl, fun _ => y_sneq (ea_v hE hx ho) (ea_v hE hy ho')⟩
/-- The order of texts. -/
def sLt (a b : ByteArray) : Bool := Op.bytesLess a.toList b.toList
theorem y_sop {ρ : Env} {w : World} {op : BinOp} {r : Bool} (hx : ev n ρ x = .string a) (hy : ev n ρ y = .string b) (h : (Op.stringOp op a b).run P w = .ok (.bool r) w) (hop : op ≠ .shl ∧ op ≠ .shr) : Y P n ρ ⟨d, .binOp op t x y t', ty, pos, af, gd⟩ w (.bool r) := by
  have hb : (binOp op t (.string a) (.string b)).run P w = .ok (.bool r) w := by
    unfold binOp
    cases op <;> first | exact h | (exact absurd rfl hop.1) | (exact absurd rfl hop.2)
  refine ⟨?_⟩
  simp only [execOp, hx, hy, Sem.run_bind, run_eqGuard_str, Result.andThen_ok, hb, Sem.run_pure]
theorem my_slss (hx : ea n α x = sv a) (hy : ea n α y = sv b) (ho : okC x = true := by rfl) (ho' : okC y = true := by rfl) : MY P n Hs Rs α ⟨d, .binOp .lss t x y t', ty, pos, af, gd⟩ (tv (sLt a b)) :=
  my_of fun _ _ hE => ⟨_, .v _ rfl, fun _ => y_sop (ea_v hE hx ho) (ea_v hE hy ho') rfl (by decide)⟩
theorem my_sgtr (hx : ea n α x = sv a) (hy : ea n α y = sv b) (ho : okC x = true := by rfl) (ho' : okC y = true := by rfl) : MY P n Hs Rs α ⟨d, .binOp .gtr t x y t', ty, pos, af, gd⟩ (tv (!(sLt a b || decide (a = b)))) :=
  my_of fun _ _ hE => ⟨_, .v _ rfl, fun _ => y_sop (ea_v hE hx ho) (ea_v hE hy ho') (by simp only [Op.stringOp, toList_beq]; rfl) (by decide)⟩
theorem my_sgeq (hx : ea n α x = sv a) (hy : ea n α y = sv b) (ho : okC x = true := by rfl) (ho' : okC y = true := by rfl) : MY P n Hs Rs α ⟨d, .binOp .geq t x y t', ty, pos, af, gd⟩ (tv (!(sLt a b))) :=
  my_of fun _ _ hE => ⟨_, .v _ rfl, fun _ => y_sop (ea_v hE hx ho) (ea_v hE hy ho') rfl (by decide)⟩
theorem my_sleq (hx : ea n α x = sv a) (hy : ea n α y = sv b) (ho : okC x = true := by rfl) (ho' : okC y = true := by rfl) : MY P n Hs Rs α ⟨d, .binOp .leq t x y t', ty, pos, af, gd⟩ (tv (sLt a b || decide (a = b))) :=
  my_of fun _ _ hE => ⟨_, .v _ rfl, fun _ => y_sop (ea_v hE hx ho) (ea_v hE hy ho') (by simp only [Op.stringOp, toList_beq]; rfl) (by decide)⟩
theorem my_sadd (hx : ea n α x = sv a) (hy : ea n α y = sv b) (hl : a.size + b.size ≤ 1000000000) (ho : okC x = true := by rfl) (ho' : okC y = true := by rfl) : MY P n Hs Rs α ⟨d, .binOp .add t x y t', ty, pos, af, gd⟩ (sv (a ++ b)) :=
  my_of fun _ _ hE => ⟨_, .v _ rfl, fun w => by
    have h1 := ea_v hE hx ho
    have h2 := ea_v hE hy ho'
    refine ⟨?_⟩
    have : ¬ ((a.size + b.size : Nat) : Int) > IntKind.i64.max := by simp [IntKind.max, IntKind.signed, IntKind.bits]; omega
    simp only [execOp, h1, h2, Sem.run_bind, run_eqGuard_str, Result.andThen_ok, binOp, Op.stringOp, this, if_false, Sem.run_pure]⟩
theorem my_lenStr {t : TypeId} (hu : P.underlying t = some .string) (hx : ea n α x = sv a) (ho : okC x = true := by rfl) : MY P n Hs Rs α ⟨d, .call { callee := .builtin .len, args := #[x], argTypes := #[t] }, ty, pos, af, gd⟩ (iv .i64 a.size) :=
  my_of fun _ _ hE => ⟨_, .v _ rfl, fun _ => y_lenStr hu (ea_v hE hx ho)⟩
end strs

theorem my_extract {x : Operand} {i : Nat} {xs : List A} {a : A} (hx : ea n α x = .tup xs) (hi : xs[i]? = some a) (ho : okC x = true := by rfl) : MY P n Hs Rs α ⟨d, .extract x i, ty, pos, af, gd⟩ a := my_of fun g ρ hE => by
  have h := hE.ev n x ho
  rw [hx] at h
  generalize hv0 : ev n ρ x = v at h
  cases h with
  | tup h =>
    rename_i vs
    have key : ∀ (xs : List A) (vs : List Value) (i : Nat), RVs g xs vs → xs[i]? = some a → ∃ v, vs[i]? = some v ∧ RV g a v := by
      intro xs
      induction xs with
      | nil => intro vs i _ h; simp at h
      | cons x xs ih =>
        intro vs i h hi
        cases h with
        | cons h h' =>
          cases i with
          | zero => simp at hi; subst hi; exact ⟨_, rfl, h⟩
          | succ i => simp at hi; simpa using ih _ i h' hi
    obtain ⟨v, hv, hr⟩ := key xs vs i h hi
    exact ⟨v, hr, fun _ => y_extract hv0 (by simpa using hv)⟩

theorem ptr_at {g : G} {k : Nat} {p : List Nat} {off : Nat} {v : Value} (h : RV g (.ptr k p off) v) : ∃ b o, v = .pointer (some ⟨b, o + off, none⟩) ∧ ∀ p' off', RV g (.ptr k p' off') (.pointer (some ⟨b, o + off', none⟩)) := by
  cases h with
  | ptr p off h => exact ⟨_, _, rfl, fun p' off' => .ptr p' off' h⟩
  | pte p off h => exact ⟨_, _, rfl, fun p' off' => .pte p' off' h⟩
theorem my_nil {x : Operand} {k : Nat} {p : List Nat} {off : Nat} (hx : ea n α x = .ptr k p off) (ho : okC x = true := by rfl) : MY P n Hs Rs α ⟨d, .nilCheck x, ty, pos, af, gd⟩ (.ptr k p off) := my_of fun g ρ hE => by
  have h := hE.ev n x ho
  rw [hx] at h
  obtain ⟨b, o, hv, h'⟩ := ptr_at h
  exact ⟨_, h' p off, fun _ => y_nil hv⟩
theorem my_nilF {x : Operand} {a : A} (hx : ea n α x = .fp a) (ho : okC x = true := by rfl) : MY P n Hs Rs α ⟨d, .nilCheck x, ty, pos, af, gd⟩ (.fp a) := my_of fun g ρ hE => by
  have h := hE.ev n x ho
  rw [hx] at h
  generalize hv : ev n ρ x = v at h
  cases h with
  | fp h h' => exact ⟨_, .fp h h', fun _ => y_nil hv⟩
theorem my_field {s : TypeId} {x : Operand} {i sz off' k off : Nat} {p : List Nat} {fs : Array Field} {f : Field} {ti : TypeInfo} (hu : P.underlying s = some (.struct fs)) (hf : fs[i]? = some f) (hi : P.info? f.type = some ti) (hs : ti.size = sz) (hz : (sz == 0) = false)
    (hx : ea n α x = .ptr k p off) (hoff : off + f.offset = off') (ho : okC x = true := by rfl) : MY P n Hs Rs α ⟨d, .fieldAddr s x i, ty, pos, af, gd⟩ (.ptr k (p ++ [i]) off') := my_of fun g ρ hE => by
  have h := hE.ev n x ho
  rw [hx] at h
  obtain ⟨b, o, hv, h'⟩ := ptr_at h
  refine ⟨_, h' _ _, fun _ => ?_⟩
  have := y_fieldAddr (P := P) (w := ‹World›) (d := d) (ty := ty) (pos := pos) (af := af) (g := gd) hu hf hi hs hz hv
  rw [add_mk, Nat.add_assoc, hoff] at this
  exact this
/-- A field of what is written no more. -/
theorem my_fieldF {s : TypeId} {x : Operand} {i sz' : Nat} {xs : List A} {a : A} {fs : Array Field} {f : Field} {ti : TypeInfo} (hu : P.underlying s = some (.struct fs)) (hf : fs[i]? = some f) (hi : P.info? f.type = some ti) (hs : ti.size = sz') (hz : (sz' == 0) = false)
    (hx : ea n α x = .fp (.agg xs)) (ha : xs[i]? = some a) (hoff : szL (xs.take i) = f.offset) (ho : okC x = true := by rfl) : MY P n Hs Rs α ⟨d, .fieldAddr s x i, ty, pos, af, gd⟩ (.fp a) := my_of fun g ρ hE => by
  have h := hE.ev n x ho
  rw [hx] at h
  generalize hv : ev n ρ x = v at h
  cases h with
  | fp h h' =>
    rename_i cs ad
    cases h' with
    | agg h' =>
      obtain ⟨c, pre, post, rfl, h1, h2, h3⟩ := h'.get ha
      have hsub := h.sub pre.length c.length
      rw [List.drop_left, List.take_left, h1.len, hoff] at hsub
      exact ⟨_, .fp hsub h2, fun _ => y_fieldAddr hu hf hi hs hz hv⟩
theorem my_index {t : TypeId} {x ix : Operand} {len sz off' k off : Nat} {p : List Nat} {kk : IntKind} {i : Int} {e : TypeId} {ti : TypeInfo} (hu : P.underlying t = some (.array len e)) (hi : P.info? e = some ti) (hs : ti.size = sz)
    (hx : ea n α x = .ptr k p off) (hix : ea n α ix = iv kk i) (h0 : 0 ≤ i) (h1 : i < len) (hoff : off + i.toNat * sz = off') (ho : okC x = true := by rfl) (ho' : okC ix = true := by rfl) :
    MY P n Hs Rs α ⟨d, .indexAddr t x ix, ty, pos, af, gd⟩ (.ptr k (p ++ [i.toNat]) off') := my_of fun g ρ hE => by
  have h := hE.ev n x ho
  rw [hx] at h
  obtain ⟨b, o, hv, h'⟩ := ptr_at h
  refine ⟨_, h' _ _, fun _ => ?_⟩
  have := y_indexAddrA (P := P) (w := ‹World›) (d := d) (ty := ty) (pos := pos) (af := af) (g := gd) hu hi hs hv (ea_v hE hix ho') h0 h1
  rw [add_mk, Nat.add_assoc, hoff] at this
  exact this
/-- An element of a slice of one's own. -/
theorem my_indexO {t : TypeId} {x ix : Operand} {sz' off' k q : Nat} {E : TypeId} {xs : List A} {kk : IntKind} {i : Int} {e : TypeId} {ti : TypeInfo} (hu : P.underlying t = some (.slice e)) (hi : P.info? e = some ti) (hs : ti.size = sz') (hq : Hs[q]? = some ⟨k, .row E sz' xs⟩)
    (hx : ea n α x = .osl k) (hix : ea n α ix = iv kk i) (h0 : 0 ≤ i) (h1 : i < xs.length) (hoff : i.toNat * sz' = off') (ho : okC x = true := by rfl) (ho' : okC ix = true := by rfl) :
    MY P n Hs Rs α ⟨d, .indexAddr t x ix, ty, pos, af, gd⟩ (.ptr k [i.toNat] off') := .of fun w0 S0 g ρ w hH hE => by
  have h := hE.ev n x ho
  rw [hx] at h
  generalize hv : ev n ρ x = v at h
  obtain ⟨v', cs, hm, hown, hr, hsz⟩ := hH.ob q _ hq
  cases h with
  | osl h h' =>
    rw [hm] at h; cases h
    rcases hown.2 with ⟨_, h⟩ | ⟨b, cap, cur, rfl, _⟩
    · omega
    · refine ⟨.pointer (some ⟨b, 0 + off', none⟩), .pte _ _ hm, fun w' _ => ?_⟩
      have := y_indexAddr (P := P) (w := w') (d := d) (ty := ty) (pos := pos) (af := af) (g := gd) hu hi hs hv (ea_v hE hix ho') h0 h1
      rw [add_mk, hoff] at this
      exact this
/-- An element of a slice that is written no more. -/
theorem my_indexS {t : TypeId} {x ix : Operand} {sz' : Nat} {xs : List A} {a : A} {kk : IntKind} {i : Int} {e : TypeId} {ti : TypeInfo} (hu : P.underlying t = some (.slice e)) (hi : P.info? e = some ti) (hs : ti.size = sz')
    (hx : ea n α x = .sl xs) (hix : ea n α ix = iv kk i) (h0 : 0 ≤ i) (ha : xs[i.toNat]? = some a) (hz : sz a = sz') (ho : okC x = true := by rfl) (ho' : okC ix = true := by rfl) :
    MY P n Hs Rs α ⟨d, .indexAddr t x ix, ty, pos, af, gd⟩ (.fp a) := my_of fun g ρ hE => by
  have h := hE.ev n x ho
  rw [hx] at h
  generalize hv : ev n ρ x = v at h
  have hlt := (List.getElem?_eq_some_iff.1 ha).1
  cases h with
  | nil => simp at hlt
  | sl s ad c hc hsz hcs hl =>
    obtain ⟨c', pre, post, rfl, h1, h2, h3⟩ := hl.get ha
    have hsub := hcs.sub pre.length c'.length
    have hp : pre.length = i.toNat * sz' := by
      rw [h1.len, szL_uni (fun z hz => hsz z (List.mem_of_mem_take hz)), List.length_take, Nat.min_eq_left (by omega), ← hz, hsz a (List.mem_of_getElem? ha)]
    rw [List.drop_left, List.take_left, hp] at hsub
    exact ⟨_, .fp hsub h2, fun _ => y_indexAddr hu hi hs hv (ea_v hE hix ho') h0 (by omega)⟩

/-! ### Loads -/
/-- The value of cells that read as a. -/
def vOf (a : A) (cs : List Value) : Value := bif aggA a then .agg cs.toArray else cs.headD undef
theorem RC.vOf {g : G} {a : A} {cs : List Value} (h : RC g a cs) : RV g a (K.vOf a cs) := by
  unfold K.vOf
  cases hA : aggA a with
  | true => exact h.vala hA
  | false => obtain ⟨x, rfl, hx, _⟩ := h.val hA; exact hx
theorem y_loadA {t : TypeId} {x : Operand} {ρ : Env} {w : World} {g : G} {ad : Addr} {a : A} {cs : List Value} {u : TypeDesc} {m : Nat} (hu : P.underlying t = some u) (hag : aggU u = aggA a) (hi : aggA a = true → ∃ ti, P.info? t = some ti ∧ ti.size = m) (hm : sz a = m) (hr : RC g a cs)
    (hx : ev n ρ x = .pointer (some ad)) (hc : K.Cs w ad cs) : Y P n ρ ⟨d, .load t x, ty, pos, af, gd⟩ w (K.vOf a cs) := by
  unfold K.vOf
  cases hA : aggA a with
  | true =>
    obtain ⟨ti, h1, h2⟩ := hi hA
    exact y_load hx (ld_agg hu (by rw [hag, hA]) h1 (by rw [h2, ← hm, hr.len]) hc)
  | false =>
    obtain ⟨v, rfl, hv, _⟩ := hr.val hA
    refine y_load hx (ld_one hu (by rw [hag, hA]) ?_)
    have := hc 0 v rfl
    simpa [Addr.add] using this
theorem my_load {t : TypeId} {x : Operand} {u : TypeDesc} {m k off q : Nat} {p : List Nat} {ob : Ob} {tr a : A} (hu : P.underlying t = some u) (hx : ea n α x = .ptr k p off) (hq : Hs[q]? = some ⟨k, ob⟩) (htr : treeOf ob = some tr) (hg : getA tr p = some a) (hoff : offA tr p = off)
    (hag : aggU u = aggA a) (hi : aggA a = true → ∃ ti, P.info? t = some ti ∧ ti.size = m) (hm : sz a = m) (hR : Rs q = true) (ho : okC x = true := by rfl) : MY P n Hs Rs α ⟨d, .load t x, ty, pos, af, gd⟩ a := .of fun w0 S0 g ρ w hH hE => by
  have h := hE.ev n x ho
  rw [hx] at h
  obtain ⟨b, cs, rest, T, hv, hc, hb, hl1, hl2⟩ := (hH.ob q _ hq).at hH.fro htr h
  obtain ⟨pre, c, post, rfl, hp, hr, _⟩ := get_RC p hc hg
  refine ⟨_, hr.vOf, fun w' hS => ?_⟩
  have hb' : w'.heap[b]? = some (.cells (pre ++ (c ++ (post ++ rest))).toArray T (0, 0)) := by
    have e : (pre ++ (c ++ post) ++ rest) = (pre ++ (c ++ (post ++ rest))) := by simp
    rw [e] at hb hl2
    by_cases hl : ob.live
    · rw [hS.ob q _ b hR hq hl (hl1 hl)]; exact hb
    · exact hS.fro _ _ (hl2 hl)
  have hcs := cs_block hb'
  rw [hp, hoff] at hcs
  exact y_loadA hu hag hi hm hr hv hcs
theorem my_loadF {t : TypeId} {x : Operand} {u : TypeDesc} {m : Nat} {a : A} (hu : P.underlying t = some u) (hx : ea n α x = .fp a) (hag : aggU u = aggA a) (hi : aggA a = true → ∃ ti, P.info? t = some ti ∧ ti.size = m) (hm : sz a = m) (ho : okC x = true := by rfl) :
    MY P n Hs Rs α ⟨d, .load t x, ty, pos, af, gd⟩ a := .of fun w0 S0 g ρ w hH hE => by
  have h := hE.ev n x ho
  rw [hx] at h
  generalize hv : ev n ρ x = v at h
  cases h with
  | fp h h' => exact ⟨_, h'.vOf, fun w' hS => y_loadA hu hag hi hm h' hv (hS.fro.cs h)⟩

/-! ### Slices -/
theorem my_lenS {x : Operand} {t e : TypeId} {xs : List A} (hu : P.underlying t = some (.slice e)) (hx : ea n α x = .sl xs) (ho : okC x = true := by rfl) : MY P n Hs Rs α ⟨d, .call { callee := .builtin .len, args := #[x], argTypes := #[t] }, ty, pos, af, gd⟩ (iv .i64 xs.length) := my_of fun g ρ hE => by
  have h := hE.ev n x ho
  rw [hx] at h
  generalize hv : ev n ρ x = v at h
  cases h with
  | nil => exact ⟨_, .v _ rfl, fun _ => y_lenS hu hv⟩
  | sl s a c hc hs hcs h => exact ⟨_, .v _ rfl, fun _ => y_lenS hu hv⟩
theorem my_lenO {x : Operand} {t e : TypeId} {k q s : Nat} {E : TypeId} {xs : List A} (hu : P.underlying t = some (.slice e)) (hx : ea n α x = .osl k) (hq : Hs[q]? = some ⟨k, .row E s xs⟩) (ho : okC x = true := by rfl) :
    MY P n Hs Rs α ⟨d, .call { callee := .builtin .len, args := #[x], argTypes := #[t] }, ty, pos, af, gd⟩ (iv .i64 xs.length) := .of fun w0 S0 g ρ w hH hE => by
  have h := hE.ev n x ho
  rw [hx] at h
  generalize hv : ev n ρ x = v at h
  obtain ⟨v', cs, hm, hown, hr, hsz⟩ := hH.ob q _ hq
  cases h with
  | osl h h' =>
    rw [hm] at h; cases h
    rcases hown.2 with ⟨rfl, h⟩ | ⟨b, cap, cur, rfl, _⟩
    · refine ⟨_, .v (.int .i64 (xs.length : Int)) rfl, fun _ _ => ?_⟩
      rw [h]; exact y_lenS hu hv
    · exact ⟨_, .v _ rfl, fun _ _ => y_lenS hu hv⟩
/-- s[:h] within the length. -/
theorem my_loO {t : TypeId} {x lo : Operand} {kk : IntKind} {i : Int} {e : TypeId} {sz' k q n' off' : Nat} {E : TypeId} {ti : TypeInfo} {xs : List A} (hu : P.underlying t = some (.slice e)) (hti : P.info? e = some ti) (hsz : ti.size = sz') (hq : Hs[q]? = some ⟨k, .row E sz' xs⟩) (hx : ea n α x = .osl k) (hh : ea n α lo = iv kk i) (h0 : 0 ≤ i) (h1 : i ≤ xs.length)
    (hn : xs.length - i.toNat = n') (hoff : i.toNat * sz' = off') (ho : okC x = true := by rfl) (ho' : okC lo = true := by rfl) : MY P n Hs Rs α ⟨d, .slice t x (some lo) none none, ty, pos, af, gd⟩ (.seg k off' n') := .of fun w0 S0 g ρ w hH hE => by
  have h := hE.ev n x ho
  rw [hx] at h
  generalize hv : ev n ρ x = v at h
  obtain ⟨v', cs, hm, hown, hr, hs⟩ := hH.ob q _ hq
  cases h with
  | osl h h' =>
    rw [hm] at h; cases h
    rcases hown.2 with ⟨rfl, h⟩ | ⟨b, cap, cur, rfl, hle, _⟩
    · have hi0 : i = 0 := by omega
      subst hi0
      refine ⟨.slice none 0 0, ?_, fun w' _ => y_sliceLo hu hti hsz hv (ea_v hE hh ho') (by decide) (by decide)⟩
      have : n' = 0 := by omega
      rw [this]; exact .sgn _
    · have hY := fun w' => y_sliceLo (P := P) (w := w') (d := d) (ty := ty) (pos := pos) (af := af) (g := gd) hu hti hsz hv (ea_v hE hh ho') h0 (by omega)
      rw [hn] at hY
      by_cases hc : cap = i.toNat
      · rw [if_pos hc] at hY
        exact ⟨_, .sgs _ _ (by omega) (fun h => by omega) hm, fun w' _ => hY w'⟩
      · rw [if_neg hc] at hY
        refine ⟨_, .sgs _ _ (c := cap - i.toNat) (o' := 0 + off') (by omega) (fun _ => rfl) hm, fun w' _ => ?_⟩
        have := hY w'
        rwa [Option.map_some, add_mk, hoff] at this
theorem my_lenG {x : Operand} {t e : TypeId} {k off n' : Nat} (hu : P.underlying t = some (.slice e)) (hx : ea n α x = .seg k off n') (ho : okC x = true := by rfl) : MY P n Hs Rs α ⟨d, .call { callee := .builtin .len, args := #[x], argTypes := #[t] }, ty, pos, af, gd⟩ (iv .i64 n') := my_of fun g ρ hE => by
  have h := hE.ev n x ho
  rw [hx] at h
  generalize hv : ev n ρ x = v at h
  cases h with
  | seg off n hc ho h => exact ⟨_, .v _ rfl, fun _ => y_lenS hu hv⟩
  | sgs off n hc ho h => exact ⟨_, .v _ rfl, fun _ => y_lenS hu hv⟩
  | sgn off => exact ⟨_, .v _ rfl, fun _ => y_lenS hu hv⟩
theorem my_indexG {t : TypeId} {x ix : Operand} {sz' off off' k n' : Nat} {kk : IntKind} {i : Int} {e : TypeId} {ti : TypeInfo} (p : List Nat) (hu : P.underlying t = some (.slice e)) (hi : P.info? e = some ti) (hs : ti.size = sz')
    (hx : ea n α x = .seg k off n') (hix : ea n α ix = iv kk i) (h0 : 0 ≤ i) (h1 : i < n') (hoff : off + i.toNat * sz' = off') (ho : okC x = true := by rfl) (ho' : okC ix = true := by rfl) :
    MY P n Hs Rs α ⟨d, .indexAddr t x ix, ty, pos, af, gd⟩ (.ptr k p off') := my_of fun g ρ hE => by
  have h := hE.ev n x ho
  rw [hx] at h
  generalize hv : ev n ρ x = v at h
  cases h with
  | seg off n hc ho2 h =>
    refine ⟨_, .ptr p off' h, fun w' => ?_⟩
    have := y_indexAddr (P := P) (w := w') (d := d) (ty := ty) (pos := pos) (af := af) (g := gd) hu hi hs hv (ea_v hE hix ho') h0 h1
    rwa [add_mk, ho2 (by omega), Nat.add_assoc, hoff] at this
  | sgs off n hc ho2 h =>
    refine ⟨_, .pte p off' h, fun w' => ?_⟩
    have := y_indexAddr (P := P) (w := w') (d := d) (ty := ty) (pos := pos) (af := af) (g := gd) hu hi hs hv (ea_v hE hix ho') h0 h1
    rwa [add_mk, ho2 (by omega), Nat.add_assoc, hoff] at this
  | sgn off => omega
theorem my_hiS {t : TypeId} {x hi : Operand} {kk : IntKind} {i : Int} {e : TypeId} {ti : TypeInfo} {xs : List A} (hu : P.underlying t = some (.slice e)) (hti : P.info? e = some ti) (hx : ea n α x = .sl xs) (hh : ea n α hi = iv kk i) (h0 : 0 ≤ i) (h1 : i ≤ xs.length) (ho : okC x = true := by rfl) (ho' : okC hi = true := by rfl) :
    MY P n Hs Rs α ⟨d, .slice t x none (some hi) none, ty, pos, af, gd⟩ (.sl (xs.take i.toNat)) := my_of fun g ρ hE => by
  have h := hE.ev n x ho
  rw [hx] at h
  generalize hv : ev n ρ x = v at h
  cases h with
  | nil =>
    have hi0 : i = 0 := by simp at h1; omega
    subst hi0
    exact ⟨_, .nil, fun _ => y_sliceHi hu hti hv (ea_v hE hh ho') (by decide) (by decide)⟩
  | sl s a c hc hs hcs h =>
    rename_i cs
    have hsp : RL g (xs.take i.toNat ++ xs.drop i.toNat) cs := by rw [List.take_append_drop]; exact h
    obtain ⟨c1, c2, rfl, h2, h3⟩ := hsp.split
    have hlen : (xs.take i.toNat).length = i.toNat := by rw [List.length_take]; omega
    refine ⟨_, .sl s a c (by rw [hlen]; omega) (fun y hy => hs y (List.mem_of_mem_take hy)) (fun j u hj => hcs j u (by rw [List.getElem?_append_left (List.getElem?_eq_some_iff.1 hj).1]; exact hj)) h2, fun _ => ?_⟩
    rw [hlen]
    exact y_sliceHi hu hti hv (ea_v hE hh ho') h0 (by omega)
/-- s[l:] -/
theorem my_loS {t : TypeId} {x lo : Operand} {kk : IntKind} {i : Int} {e : TypeId} {sz' : Nat} {ti : TypeInfo} {xs : List A} (hu : P.underlying t = some (.slice e)) (hti : P.info? e = some ti) (hsz : ti.size = sz') (hz : ∀ y ∈ xs, sz y = sz') (hx : ea n α x = .sl xs) (hh : ea n α lo = iv kk i) (h0 : 0 ≤ i) (h1 : i ≤ xs.length)
    (ho : okC x = true := by rfl) (ho' : okC lo = true := by rfl) : MY P n Hs Rs α ⟨d, .slice t x (some lo) none none, ty, pos, af, gd⟩ (.sl (xs.drop i.toNat)) := my_of fun g ρ hE => by
  have h := hE.ev n x ho
  rw [hx] at h
  generalize hv : ev n ρ x = v at h
  cases h with
  | nil =>
    have hi0 : i = 0 := by simp at h1; omega
    subst hi0
    exact ⟨_, .nil, fun _ => y_sliceLo hu hti hsz hv (ea_v hE hh ho') (by decide) (by decide)⟩
  | sl s a c hc hs hcs h =>
    rename_i cs
    have hsp : RL g (xs.take i.toNat ++ xs.drop i.toNat) cs := by rw [List.take_append_drop]; exact h
    obtain ⟨c1, c2, rfl, h2, h3⟩ := hsp.split
    have hlen : (xs.drop i.toNat).length = xs.length - i.toNat := List.length_drop
    have hc1 : c1.length = i.toNat * s := by rw [h2.len, szL_uni (fun z hz => hs z (List.mem_of_mem_take hz)), List.length_take, Nat.min_eq_left (by omega)]
    have hY := fun w' => y_sliceLo (P := P) (w := w') (d := d) (ty := ty) (pos := pos) (af := af) (g := gd) hu hti hsz hv (ea_v hE hh ho') h0 (by omega)
    have hss : xs ≠ [] → s = sz' := fun hne => by
      cases xs with
      | nil => exact absurd rfl hne
      | cons y ys => rw [← hs y (by simp), hz y (by simp)]
    have hcs2 : g.Cs (a.add (i.toNat * s)) c2 := fun j u hj => by
      rw [add_add, ← hc1]
      exact hcs _ u (by rw [List.getElem?_append_right (by omega)]; simpa using hj)
    by_cases hcap : c = i.toNat
    · rw [if_pos hcap] at hY
      have hn0 : xs.drop i.toNat = [] := List.drop_eq_nil_of_le (by omega)
      rw [hn0] at h3 hlen ⊢
      cases h3
      have hl0 : xs.length - i.toNat = 0 := by omega
      rw [hl0] at hY
      exact ⟨_, .sl 0 a (c - i.toNat) (by simp) (by simp) (fun j u hj => by simp at hj) .nil, hY⟩
    · rw [if_neg hcap] at hY
      simp only [Option.map_some] at hY
      by_cases hne : xs = []
      · subst hne
        have hi0 : i.toNat = 0 := by simp at h1; omega
        refine ⟨_, .sl s (a.add (i.toNat * sz')) (c - i.toNat) (by simp) (by simp) ?_ h3, fun w' => by simpa using hY w'⟩
        rw [List.drop_nil] at h3
        cases h3
        exact fun j u hj => by simp at hj
      · rw [← hss hne] at hY
        refine ⟨_, .sl s _ (c - i.toNat) (by rw [hlen]; omega) (fun y hy => hs y (List.mem_of_mem_drop hy)) hcs2 h3, fun w' => by rw [hlen]; exact hY w'⟩
end
end Go.Proofs.Ytlklapledogdcaa.K
