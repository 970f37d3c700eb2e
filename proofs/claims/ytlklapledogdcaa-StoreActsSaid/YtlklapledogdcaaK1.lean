/- Values of operations: one lemma a kind of operation, over the layer K0; worlds that extend worlds; cells at an address. No condition. -/
import Derived.Test.YtlklapledogdcaaK0
namespace Go.Proofs.Ytlklapledogdcaa.K
open Go

/-! ### Worlds -/

/-- w' is w with new blocks, and with writes to the blocks of S alone. -/
structure Fr (S : Nat → Prop) (w w' : World) : Prop where
  os : w'.os = w.os
  tape : w'.tape = w.tape
  output : w'.output = w.output
  size : w.heap.size ≤ w'.heap.size
  block : ∀ b, b < w.heap.size → ¬ S b → w'.heap[b]? = w.heap[b]?

def none' : Nat → Prop := fun _ => False
abbrev Ext (w w' : World) : Prop := Fr none' w w'

theorem Fr.refl (S : Nat → Prop) (w : World) : Fr S w w := ⟨rfl, rfl, rfl, Nat.le_refl _, fun _ _ _ => rfl⟩
theorem Fr.trans {S : Nat → Prop} {a b c : World} (h : Fr S a b) (g : Fr S b c) : Fr S a c :=
  ⟨g.os.trans h.os, g.tape.trans h.tape, g.output.trans h.output, Nat.le_trans h.size g.size,
    fun i hi hn => (g.block i (Nat.lt_of_lt_of_le hi h.size) hn).trans (h.block i hi hn)⟩
theorem Fr.mono {S S' : Nat → Prop} {a b : World} (h : Fr S a b) (hs : ∀ i, i < a.heap.size → S i → S' i) : Fr S' a b :=
  ⟨h.os, h.tape, h.output, h.size, fun i hi hn => h.block i hi (fun hS => hn (hs i hi hS))⟩
/-- Two steps, the second of which writes to blocks of S or to new ones. -/
theorem Fr.trans' {S S' : Nat → Prop} {a b c : World} (h : Fr S a b) (g : Fr S' b c) (hs : ∀ i, i < a.heap.size → S' i → S i) : Fr S a c :=
  ⟨g.os.trans h.os, g.tape.trans h.tape, g.output.trans h.output, Nat.le_trans h.size g.size,
    fun i hi hn => (g.block i (Nat.lt_of_lt_of_le hi h.size) (fun hS => hn (hs i hi hS))).trans (h.block i hi hn)⟩
theorem Fr.drew {S : Nat → Prop} {a b : World} (h : Fr S a b) : Fr S a b.drew := ⟨h.os, h.tape, h.output, h.size, h.block⟩
theorem Fr.drew1 (S : Nat → Prop) (a : World) : Fr S a a.drew := (Fr.refl S a).drew
theorem Fr.alloc1 (S : Nat → Prop) (a : World) (o : Obj) : Fr S a (a.alloc o) :=
  ⟨rfl, rfl, rfl, by simp, fun b hb _ => Go.RowKit.Below.heap_alloc a o b hb⟩
theorem Fr.alloc {S : Nat → Prop} {a b : World} (h : Fr S a b) (o : Obj) : Fr S a (b.alloc o) := h.trans (Fr.alloc1 S b o)
theorem heap_setCell_ne (w : World) (a : Addr) (u : Value) (b : Nat) (h : b ≠ a.block) : (w.setCell a u).heap[b]? = w.heap[b]? := by
  simp only [World.setCell, Array.getElem?_modify]
  rw [if_neg (by omega)]
theorem Fr.setCell {S : Nat → Prop} {a b : World} (h : Fr S a b) (p : Addr) (u : Value) (hp : p.block < a.heap.size → S p.block) : Fr S a (b.setCell p u) :=
  ⟨h.os, h.tape, h.output, by simpa [World.setCell] using h.size, fun i hi hn => by
    have hne : i ≠ p.block := fun e => hn (e ▸ hp (e ▸ hi))
    exact (heap_setCell_ne b p u i hne).trans (h.block i hi hn)⟩
theorem Fr.grown {S : Nat → Prop} {w w' : World} {row : Option Nat} (hg : w.grownBy w' row) (hS : ∀ b, row = some b → S b) : Fr S w w' :=
  ⟨hg.os, hg.tape, hg.output, hg.size, fun b hb hn => hg.block b hb (fun e => hn (hS b e.symm))⟩
theorem Fr.below {B : Nat} {w w' : World} (h : Fr (fun b => B ≤ b) w w') (_hB : B ≤ w.heap.size) : Go.RowKit.Below B w w' :=
  ⟨h.os, h.tape, h.output, h.size, fun i hi => h.block i (by omega) (by omega)⟩
theorem Ext.below {w w' : World} (h : Ext w w') : Go.RowKit.Below w.heap.size w w' :=
  ⟨h.os, h.tape, h.output, h.size, fun i hi => h.block i hi (fun h => h)⟩
theorem Ext.fr {S : Nat → Prop} {w w' : World} (h : Ext w w') : Fr S w w' := h.mono (fun _ _ h => h.elim)

theorem Fr.cell {S : Nat → Prop} {w w' : World} (h : Fr S w w') {p : Addr} {v : Value} (hc : w.cell? p = some v) (hn : ¬ S p.block) : w'.cell? p = some v := by
  rw [World.cell?_of_block (h.block p.block (World.block_lt_of_cell? w p hc) hn)]; exact hc
theorem Fr.frozen {S : Nat → Prop} {w w' : World} (h : Fr S w w') {p : Addr} (hp : p.block < w.heap.size) (hn : ¬ S p.block) : w'.frozen? p = w.frozen? p :=
  World.frozen?_of_block (h.block p.block hp hn)

/-! ### Cells at an address -/

/-- From a on lie the cells cs. -/
def Cs (w : World) (a : Addr) (cs : List Value) : Prop := ∀ j v, cs[j]? = some v → w.cell? (a.add j) = some v

theorem add_block (a : Addr) (n : Nat) : (a.add n).block = a.block := by unfold Addr.add; split <;> rfl
theorem add_add (a : Addr) (m n : Nat) : (a.add m).add n = a.add (m + n) := by
  unfold Addr.add
  by_cases h : m = 0
  · simp [h]
  · by_cases h' : n = 0
    · simp [h, h']
    · simp [h, h', Nat.add_assoc]

theorem Cs.nil (w : World) (a : Addr) : Cs w a [] := fun _ _ h => by simp at h
theorem Cs.keep {S : Nat → Prop} {w w' : World} {a : Addr} {cs : List Value} (h : Cs w a cs) (hf : Fr S w w') (hn : ¬ S a.block) : Cs w' a cs :=
  fun j v hj => hf.cell (h j v hj) (by rw [add_block]; exact hn)
theorem Cs.sub {w : World} {a : Addr} {cs : List Value} (h : Cs w a cs) (i m : Nat) : Cs w (a.add i) ((cs.drop i).take m) := fun j v hj => by
  rw [add_add]
  refine h (i + j) v ?_
  rw [List.getElem?_take] at hj
  split at hj
  · rw [List.getElem?_drop] at hj; exact hj
  · cases hj
theorem Cs.at {w : World} {a : Addr} {cs : List Value} (h : Cs w a cs) {i : Nat} {v : Value} (hi : cs[i]? = some v) : w.cell? (a.add i) = some v := h i v hi
theorem Cs.append_left {w : World} {a : Addr} {xs ys : List Value} (h : Cs w a (xs ++ ys)) : Cs w a xs := fun j v hj => h j v (by
  rw [List.getElem?_append_left (List.getElem?_eq_some_iff.1 hj).1]; exact hj)
theorem Cs.append_right {w : World} {a : Addr} {xs ys : List Value} (h : Cs w a (xs ++ ys)) : Cs w (a.add xs.length) ys := fun j v hj => by
  rw [add_add]; exact h _ v (by rw [List.getElem?_append_right (by omega)]; simpa using hj)

/-- A new block's cells. -/
theorem Cs.new (w : World) (cs : Array Value) (T : TypeId) : Cs (w.alloc (.cells cs T)) ⟨w.heap.size, 0, none⟩ cs.toList := fun j v hj => by
  have hb : (w.alloc (.cells cs T)).heap[w.heap.size]? = some (.cells cs T (0, 0)) := heap_alloc_new w _
  have hs : ((⟨w.heap.size, 0, none⟩ : Addr).add j) = ⟨w.heap.size, j, none⟩ := by unfold Addr.add; split <;> simp_all
  rw [hs]
  simp only [World.cell?, hb]
  simpa using hj

/-! ### Operations that leave a value -/
section
variable {P : Program} {n : Nat} {ρ : Env} {w : World} {d : Option Tmp} {ty : TypeId} {pos : String} {af : Array Edge} {g : Option (Nat × Bool)}

theorem y_move {x : Operand} : Y P n ρ ⟨d, .move x, ty, pos, af, g⟩ w (ev n ρ x) := .of rfl
theorem y_assign {x : Operand} : Y P n ρ ⟨d, .assign x, ty, pos, af, g⟩ w (ev n ρ x) := .of rfl

theorem y_pickT {c a b : Operand} (hc : ev n ρ c = .bool true) : Y P n ρ ⟨d, .pick c a b, ty, pos, af, g⟩ w (ev n ρ a) := by
  refine ⟨?_⟩
  simp [execOp, hc, asBool]
theorem y_pickF {c a b : Operand} (hc : ev n ρ c = .bool false) : Y P n ρ ⟨d, .pick c a b, ty, pos, af, g⟩ w (ev n ρ b) := by
  refine ⟨?_⟩
  simp [execOp, hc, asBool]

theorem run_eqGuard_int (op : BinOp) (t : TypeId) (x y : Operand) (k k' : IntKind) (a b : Int) : (eqGuard op t x y (.int k a) (.int k' b)).run P w = .ok () w := by
  unfold eqGuard; cases op <;> rfl
theorem run_eqGuard_str (op : BinOp) (t : TypeId) (x y : Operand) (a b : ByteArray) : (eqGuard op t x y (.string a) (.string b)).run P w = .ok () w := by
  unfold eqGuard; cases op <;> rfl
theorem run_eqGuard_bool (op : BinOp) (t : TypeId) (x y : Operand) (a b : Bool) : (eqGuard op t x y (.bool a) (.bool b)).run P w = .ok () w := by
  unfold eqGuard; cases op <;> rfl

section ints
variable {k : IntKind} {a b : Int} {x y : Operand} {t t' : TypeId}
theorem y_bin {op : BinOp} {v : Value} (hx : ev n ρ x = .int k a) (hy : ev n ρ y = .int k b) (hv : (binOp op t (.int k a) (.int k b)).run P w = .ok v w) :
    Y P n ρ ⟨d, .binOp op t x y t', ty, pos, af, g⟩ w v := by
  refine ⟨?_⟩
  simp only [execOp, hx, hy, Sem.run_bind, run_eqGuard_int, Result.andThen_ok, hv, Sem.run_pure]
theorem y_add (hx : ev n ρ x = .int k a) (hy : ev n ρ y = .int k b) : Y P n ρ ⟨d, .binOp .add t x y t', ty, pos, af, g⟩ w (.int k (k.wrap (a + b))) :=
  y_bin hx hy (by simp [binOp, Op.intArith])
theorem y_sub (hx : ev n ρ x = .int k a) (hy : ev n ρ y = .int k b) : Y P n ρ ⟨d, .binOp .sub t x y t', ty, pos, af, g⟩ w (.int k (k.wrap (a - b))) :=
  y_bin hx hy (by simp [binOp, Op.intArith])
theorem y_mul (hx : ev n ρ x = .int k a) (hy : ev n ρ y = .int k b) : Y P n ρ ⟨d, .binOp .mul t x y t', ty, pos, af, g⟩ w (.int k (k.wrap (a * b))) :=
  y_bin hx hy (by simp [binOp, Op.intArith])
theorem wrap64_eq {a : Int} (h : -9223372036854775808 ≤ a) (h' : a ≤ 9223372036854775807) : IntKind.i64.wrap a = a := by
  simp only [IntKind.wrap, IntKind.bits, IntKind.signed]; simp; omega
theorem wrap8_eq {a : Int} (h : 0 ≤ a) (h' : a ≤ 255) : IntKind.u8.wrap a = a := by
  simp only [IntKind.wrap, IntKind.bits, IntKind.signed]; simp; omega
theorem wrap16_eq {a : Int} (h : 0 ≤ a) (h' : a ≤ 65535) : IntKind.u16.wrap a = a := by
  simp only [IntKind.wrap, IntKind.bits, IntKind.signed]; simp; omega
theorem wrap8_mod (a : Int) : IntKind.u8.wrap a = a % 256 := by
  simp only [IntKind.wrap, IntKind.bits, IntKind.signed]; simp
theorem y_add64 (hx : ev n ρ x = .int .i64 a) (hy : ev n ρ y = .int .i64 b) (h : -9223372036854775808 ≤ a + b ∧ a + b ≤ 9223372036854775807) :
    Y P n ρ ⟨d, .binOp .add t x y t', ty, pos, af, g⟩ w (.int .i64 (a + b)) := by
  have := y_add (P := P) (w := w) (d := d) (ty := ty) (pos := pos) (af := af) (g := g) (t := t) (t' := t') hx hy
  rwa [wrap64_eq h.1 h.2] at this
theorem y_sub64 (hx : ev n ρ x = .int .i64 a) (hy : ev n ρ y = .int .i64 b) (h : -9223372036854775808 ≤ a - b ∧ a - b ≤ 9223372036854775807) :
    Y P n ρ ⟨d, .binOp .sub t x y t', ty, pos, af, g⟩ w (.int .i64 (a - b)) := by
  have := y_sub (P := P) (w := w) (d := d) (ty := ty) (pos := pos) (af := af) (g := g) (t := t) (t' := t') hx hy
  rwa [wrap64_eq h.1 h.2] at this
theorem y_mul64 (hx : ev n ρ x = .int .i64 a) (hy : ev n ρ y = .int .i64 b) (h : -9223372036854775808 ≤ a * b ∧ a * b ≤ 9223372036854775807) :
    Y P n ρ ⟨d, .binOp .mul t x y t', ty, pos, af, g⟩ w (.int .i64 (a * b)) := by
  have := y_mul (P := P) (w := w) (d := d) (ty := ty) (pos := pos) (af := af) (g := g) (t := t) (t' := t') hx hy
  rwa [wrap64_eq h.1 h.2] at this
theorem y_quo (hx : ev n ρ x = .int k a) (hy : ev n ρ y = .int k b) (hb : b ≠ 0) : Y P n ρ ⟨d, .binOp .quo t x y t', ty, pos, af, g⟩ w (.int k (k.wrap (a.tdiv b))) :=
  y_bin hx hy (by simp [binOp, Op.intDiv, hb])
theorem y_rem (hx : ev n ρ x = .int k a) (hy : ev n ρ y = .int k b) (hb : b ≠ 0) : Y P n ρ ⟨d, .binOp .rem t x y t', ty, pos, af, g⟩ w (.int k (a.tmod b)) :=
  y_bin hx hy (by simp [binOp, Op.intDiv, hb])
/-- A remainder of what is not negative. -/
theorem y_rem' (hx : ev n ρ x = .int k a) (hy : ev n ρ y = .int k b) (hb : b ≠ 0) (ha : 0 ≤ a) : Y P n ρ ⟨d, .binOp .rem t x y t', ty, pos, af, g⟩ w (.int k (a % b)) := by
  have := y_rem (P := P) (w := w) (d := d) (ty := ty) (pos := pos) (af := af) (g := g) (t := t) (t' := t') hx hy hb
  rwa [Int.tmod_eq_emod_of_nonneg ha] at this
theorem y_and (hx : ev n ρ x = .int k a) (hy : ev n ρ y = .int k b) :
    Y P n ρ ⟨d, .binOp .and t x y t', ty, pos, af, g⟩ w (.int k (k.wrap (BitVec.ofInt k.bits a &&& BitVec.ofInt k.bits b).toNat)) :=
  y_bin hx hy (by simp [binOp, Op.intBits])
theorem y_or (hx : ev n ρ x = .int k a) (hy : ev n ρ y = .int k b) :
    Y P n ρ ⟨d, .binOp .or t x y t', ty, pos, af, g⟩ w (.int k (k.wrap (BitVec.ofInt k.bits a ||| BitVec.ofInt k.bits b).toNat)) :=
  y_bin hx hy (by simp [binOp, Op.intBits])
theorem y_xor (hx : ev n ρ x = .int k a) (hy : ev n ρ y = .int k b) :
    Y P n ρ ⟨d, .binOp .xor t x y t', ty, pos, af, g⟩ w (.int k (k.wrap (BitVec.ofInt k.bits a ^^^ BitVec.ofInt k.bits b).toNat)) :=
  y_bin hx hy (by simp [binOp, Op.intBits])
theorem y_eql (hx : ev n ρ x = .int k a) (hy : ev n ρ y = .int k b) : Y P n ρ ⟨d, .binOp .eql t x y t', ty, pos, af, g⟩ w (.bool (decide (a = b))) :=
  y_bin hx hy (by simp [binOp, Op.intCmp]; by_cases h : a = b <;> simp [h])
theorem y_neq (hx : ev n ρ x = .int k a) (hy : ev n ρ y = .int k b) : Y P n ρ ⟨d, .binOp .neq t x y t', ty, pos, af, g⟩ w (.bool (decide (a ≠ b))) :=
  y_bin hx hy (by simp [binOp, Op.intCmp]; by_cases h : a = b <;> simp [h])
theorem y_lss (hx : ev n ρ x = .int k a) (hy : ev n ρ y = .int k b) : Y P n ρ ⟨d, .binOp .lss t x y t', ty, pos, af, g⟩ w (.bool (decide (a < b))) :=
  y_bin hx hy (by simp [binOp, Op.intCmp])
theorem y_leq (hx : ev n ρ x = .int k a) (hy : ev n ρ y = .int k b) : Y P n ρ ⟨d, .binOp .leq t x y t', ty, pos, af, g⟩ w (.bool (decide (a ≤ b))) :=
  y_bin hx hy (by simp [binOp, Op.intCmp])
theorem y_gtr (hx : ev n ρ x = .int k a) (hy : ev n ρ y = .int k b) : Y P n ρ ⟨d, .binOp .gtr t x y t', ty, pos, af, g⟩ w (.bool (decide (b < a))) :=
  y_bin hx hy (by simp [binOp, Op.intCmp])
theorem y_geq (hx : ev n ρ x = .int k a) (hy : ev n ρ y = .int k b) : Y P n ρ ⟨d, .binOp .geq t x y t', ty, pos, af, g⟩ w (.bool (decide (b ≤ a))) :=
  y_bin hx hy (by simp [binOp, Op.intCmp])
theorem y_shr {k' : IntKind} (hx : ev n ρ x = .int k a) (hy : ev n ρ y = .int k' b) (hb : 0 ≤ b) :
    Y P n ρ ⟨d, .binOp .shr t x y t', ty, pos, af, g⟩ w (.int k (a.fdiv (2 ^ (min b.toNat k.bits)))) := by
  have hb' : ¬ b < 0 := by omega
  refine ⟨?_⟩
  simp only [execOp, hx, hy, Sem.run_bind, run_eqGuard_int, Result.andThen_ok, binOp, Op.shift, hb', if_false, Sem.run_pure]
theorem y_shl {k' : IntKind} (hx : ev n ρ x = .int k a) (hy : ev n ρ y = .int k' b) (hb : 0 ≤ b) :
    Y P n ρ ⟨d, .binOp .shl t x y t', ty, pos, af, g⟩ w (.int k (k.wrap (a * 2 ^ (min b.toNat k.bits)))) := by
  have hb' : ¬ b < 0 := by omega
  refine ⟨?_⟩
  simp only [execOp, hx, hy, Sem.run_bind, run_eqGuard_int, Result.andThen_ok, binOp, Op.shift, hb', if_false, Sem.run_pure]
theorem y_neg (hx : ev n ρ x = .int k a) : Y P n ρ ⟨d, .unOp .neg t x, ty, pos, af, g⟩ w (.int k (k.wrap (0 - a))) := by
  refine ⟨?_⟩
  simp [execOp, hx, Op.unary, Op.intArith]
theorem y_conv_int (hs : ∃ u, P.underlying t = some u) (ht : P.underlying t' = some (.int k)) {k' : IntKind} (hx : ev n ρ x = .int k' a) :
    Y P n ρ ⟨d, .convert t t' x, ty, pos, af, g⟩ w (.int k (k.wrap a)) := by
  obtain ⟨u, hu⟩ := hs
  refine ⟨?_⟩
  simp only [execOp, hx, Go.convert, underlying, Sem.run_bind, run_program, Result.andThen_ok, hu, ht, Sem.run_pure, Conv.intToInt]
end ints

theorem y_not {x : Operand} {t : TypeId} {b : Bool} (hx : ev n ρ x = .bool b) : Y P n ρ ⟨d, .unOp .not t x, ty, pos, af, g⟩ w (.bool (!b)) := by
  refine ⟨?_⟩
  simp [execOp, hx, Op.unary]

theorem toList_beq (a b : ByteArray) : (a.toList == b.toList) = decide (a = b) := by
  by_cases h : a = b
  · subst h; simp
  · have : ¬ a.toList = b.toList := by
      intro e
      apply h
      rw [ByteArray.toList_eq, ByteArray.toList_eq] at e
      exact ByteArray.ext (Array.toList_inj.1 e)
    simp [h, this]

section strs
variable {a b : ByteArray} {x y : Operand} {t t' : TypeId}
theorem y_seql (hx : ev n ρ x = .string a) (hy : ev n ρ y = .string b) : Y P n ρ ⟨d, .binOp .eql t x y t', ty, pos, af, g⟩ w (.bool (decide (a = b))) := by
  refine ⟨?_⟩
  simp only [execOp, hx, hy, Sem.run_bind, run_eqGuard_str, Result.andThen_ok, binOp, Op.stringOp, Sem.run_pure, toList_beq]
theorem y_sneq (hx : ev n ρ x = .string a) (hy : ev n ρ y = .string b) : Y P n ρ ⟨d, .binOp .neq t x y t', ty, pos, af, g⟩ w (.bool (decide (a ≠ b))) := by
  refine ⟨?_⟩
  simp only [execOp, hx, hy, Sem.run_bind, run_eqGuard_str, Result.andThen_ok, binOp, Op.stringOp, Sem.run_pure, toList_beq]
  simp
end strs

theorem y_beql {a b : Bool} {x y : Operand} {t t' : TypeId} (hu : P.underlying t = some .bool) (hx : ev n ρ x = .bool a) (hy : ev n ρ y = .bool b) :
    Y P n ρ ⟨d, .binOp .eql t x y t', ty, pos, af, g⟩ w (.bool (a == b)) := by
  have he : ∀ m, (Op.equalIn (m + 1) t (.bool a) (.bool b)).run P w = .ok (a == b) w := fun m => by
    unfold Op.equalIn
    simp [underlying, hu]
  have hb : (binOp .eql t (.bool a) (.bool b)).run P w = .ok (.bool (a == b)) w := by
    unfold binOp Op.equal
    have := he (Op.maxDepth - 1)
    rw [show Op.maxDepth - 1 + 1 = Op.maxDepth from rfl] at this
    simp [this]
  refine ⟨?_⟩
  simp only [execOp, hx, hy, Sem.run_bind, run_eqGuard_bool, Result.andThen_ok, hb, Sem.run_pure]

theorem y_nil {x : Operand} {a : Addr} (hx : ev n ρ x = .pointer (some a)) : Y P n ρ ⟨d, .nilCheck x, ty, pos, af, g⟩ w (.pointer (some a)) := by
  refine ⟨?_⟩
  simp [execOp, hx]
theorem y_func {f : Fn} {first cap : Array Operand} {vs us : Array Value} (h1 : first.map (ev n ρ) = vs) (h2 : cap.map (ev n ρ) = us) :
    Y P n ρ ⟨d, .makeFunc f first cap, ty, pos, af, g⟩ w (.func f vs us) := by
  refine ⟨?_⟩
  simp [execOp, h1, h2, Instr.makeFunc]
theorem y_iface {x : Operand} {t : TypeId} {u : TypeDesc} {v : Value} (hu : P.underlying t = some u) (hn : (match u with | .interface _ => false | _ => true) = true) (hx : ev n ρ x = v) :
    Y P n ρ ⟨d, .makeInterface t x, ty, pos, af, g⟩ w (.iface t v) := by
  refine ⟨?_⟩
  simp only [execOp, Instr.makeInterface, underlying, hu, hx, Sem.run_bind, run_program, Result.andThen_ok, Sem.run_pure]
  cases u <;> simp_all
theorem y_extract {x : Operand} {i : Nat} {vs : Array Value} {v : Value} (hx : ev n ρ x = .tuple vs) (hv : vs[i]? = some v) : Y P n ρ ⟨d, .extract x i, ty, pos, af, g⟩ w v := by
  refine ⟨?_⟩
  simp [execOp, hx, Instr.extract, hv]

theorem y_fieldAddr {s : TypeId} {x : Operand} {i sz : Nat} {a : Addr} {fs : Array Field} {f : Field} {ti : TypeInfo} (hu : P.underlying s = some (.struct fs)) (hf : fs[i]? = some f)
    (hi : P.info? f.type = some ti) (hs : ti.size = sz) (hz : (sz == 0) = false) (hx : ev n ρ x = .pointer (some a)) :
    Y P n ρ ⟨d, .fieldAddr s x i, ty, pos, af, g⟩ w (.pointer (some (a.add f.offset))) := by
  have hz' : ¬ ti.size = 0 := by rw [hs]; simpa using hz
  refine ⟨?_⟩
  simp only [execOp, Instr.fieldAt, underlying, hu, hx, Sem.run_bind, run_program, Result.andThen_ok, Sem.run_pure, hf, Instr.sureAddr, fieldPlace, sizeOf, typeInfo, hi]
  simp [hz']

theorem y_indexAddr {t : TypeId} {x ix : Operand} {a : Addr} {len cap sz : Nat} {k : IntKind} {i : Int} {e : TypeId} {ti : TypeInfo} (hu : P.underlying t = some (.slice e)) (hi : P.info? e = some ti) (hs : ti.size = sz)
    (hx : ev n ρ x = .slice (some a) len cap) (hix : ev n ρ ix = .int k i) (h0 : 0 ≤ i) (h1 : i < len) :
    Y P n ρ ⟨d, .indexAddr t x ix, ty, pos, af, g⟩ w (.pointer (some (a.add (i.toNat * sz)))) := by
  refine ⟨?_⟩
  simp only [execOp, Instr.indexAt, asIntOf, underlying, hu, hx, hix, Sem.run_bind, run_program, Result.andThen_ok, Sem.run_pure, sizeOf, typeInfo]
  simp [h0, h1, hs, hi]
theorem y_indexAddrA {t : TypeId} {x ix : Operand} {a : Addr} {len sz : Nat} {k : IntKind} {i : Int} {e : TypeId} {ti : TypeInfo} (hu : P.underlying t = some (.array len e)) (hi : P.info? e = some ti) (hs : ti.size = sz)
    (hx : ev n ρ x = .pointer (some a)) (hix : ev n ρ ix = .int k i) (h0 : 0 ≤ i) (h1 : i < len) :
    Y P n ρ ⟨d, .indexAddr t x ix, ty, pos, af, g⟩ w (.pointer (some (a.add (i.toNat * sz)))) := by
  refine ⟨?_⟩
  simp only [execOp, Instr.indexAt, asIntOf, underlying, hu, hx, hix, Sem.run_bind, run_program, Result.andThen_ok, Sem.run_pure, sizeOf, typeInfo, Instr.sureAddr]
  simp [h0, h1, hs, hi]

theorem y_lenS {x : Operand} {t : TypeId} {e : TypeId} {a : Option Addr} {l c : Nat} (hu : P.underlying t = some (.slice e)) (hx : ev n ρ x = .slice a l c) :
    Y P n ρ ⟨d, .call { callee := .builtin .len, args := #[x], argTypes := #[t] }, ty, pos, af, g⟩ w (.int .i64 l) := by
  refine ⟨?_⟩
  simp [execOp, resolve, invoke, builtin, Builtin.len_, underlying, hu, hx, goInt]
theorem y_lenStr {x : Operand} {t : TypeId} {s : ByteArray} (hu : P.underlying t = some .string) (hx : ev n ρ x = .string s) :
    Y P n ρ ⟨d, .call { callee := .builtin .len, args := #[x], argTypes := #[t] }, ty, pos, af, g⟩ w (.int .i64 s.size) := by
  refine ⟨?_⟩
  simp [execOp, resolve, invoke, builtin, Builtin.len_, underlying, hu, hx, goInt]
theorem y_min {x y : Operand} {t t' : TypeId} {k : IntKind} {a b : Int} (hx : ev n ρ x = .int k a) (hy : ev n ρ y = .int k b) :
    Y P n ρ ⟨d, .call { callee := .builtin .min, args := #[x, y], argTypes := #[t, t'] }, ty, pos, af, g⟩ w (.int k (min a b)) := by
  have : (if b < a then b else a) = min a b := by rw [Int.min_def]; split <;> split <;> omega
  refine ⟨?_⟩
  simp [execOp, resolve, invoke, builtin, Builtin.min_, Builtin.min2, hx, hy, this]
theorem y_max {x y : Operand} {t t' : TypeId} {k : IntKind} {a b : Int} (hx : ev n ρ x = .int k a) (hy : ev n ρ y = .int k b) :
    Y P n ρ ⟨d, .call { callee := .builtin .max, args := #[x, y], argTypes := #[t, t'] }, ty, pos, af, g⟩ w (.int k (max a b)) := by
  have : (if a < b then b else a) = max a b := by rw [Int.max_def]; split <;> split <;> omega
  refine ⟨?_⟩
  simp [execOp, resolve, invoke, builtin, Builtin.max_, Builtin.max2, hx, hy, this]

/-! ### Loads -/

def Ld (P : Program) (w : World) (t : TypeId) (a : Addr) (v : Value) : Prop := (loadVar t a).run P w = .ok v w

theorem y_load {t : TypeId} {x : Operand} {a : Addr} {v : Value} (hx : ev n ρ x = .pointer (some a)) (hl : Ld P w t a v) : Y P n ρ ⟨d, .load t x, ty, pos, af, g⟩ w v := by
  unfold Ld at hl
  refine ⟨?_⟩
  simp only [execOp, Instr.loadAt, hx, Instr.sureAddr, Sem.run_bind, Sem.run_pure, Result.andThen_ok, hl]

def aggU : TypeDesc → Bool
  | .struct _ | .array _ _ => true
  | _ => false

theorem run_isAgg {t : TypeId} {u : TypeDesc} (hu : P.underlying t = some u) : (isAgg t).run P w = .ok (aggU u) w := by
  simp only [isAgg, underlying, Sem.run_bind, run_program, Result.andThen_ok, hu, Sem.run_pure]
  cases u <;> rfl

theorem ld_one {t : TypeId} {u : TypeDesc} {a : Addr} {v : Value} (hu : P.underlying t = some u) (hn : aggU u = false) (hc : w.cell? a = some v) : Ld P w t a v := by
  simp only [Ld, loadVar, Sem.run_bind, run_isAgg hu, Result.andThen_ok, hn]
  simp [hc]

theorem run_loadCellsFrom (a : Addr) : ∀ (cs : List Value) (i : Nat) (acc : Array Value), (∀ j v, cs[j]? = some v → w.cell? (a.add (i + j)) = some v) →
    (loadCellsFrom a i cs.length acc).run P w = .ok (acc ++ cs.toArray) w
  | [], i, acc, _ => by simp [loadCellsFrom]
  | c :: cs, i, acc, h => by
    have h0 := h 0 c rfl
    simp only [Nat.add_zero] at h0
    simp only [List.length_cons, loadCellsFrom, Sem.run_bind, run_load, h0, Result.andThen_ok]
    rw [run_loadCellsFrom a cs (i + 1) _ (fun j v hj => by
      have := h (j + 1) v (by simpa using hj)
      rwa [show i + 1 + j = i + (j + 1) by omega])]
    simp

theorem run_loadCells {a : Addr} {cs : List Value} (h : Cs w a cs) : (loadCells a cs.length).run P w = .ok cs.toArray w := by
  have := run_loadCellsFrom (P := P) (w := w) a cs 0 #[] (fun j v hj => by simpa using h j v hj)
  simpa [loadCells] using this

theorem ld_agg {t : TypeId} {u : TypeDesc} {a : Addr} {cs : List Value} {ti : TypeInfo} (hu : P.underlying t = some u) (hn : aggU u = true) (hi : P.info? t = some ti) (hs : ti.size = cs.length)
    (hc : Cs w a cs) : Ld P w t a (.agg cs.toArray) := by
  simp only [Ld, loadVar, Sem.run_bind, run_isAgg hu, Result.andThen_ok, hn, if_true, sizeOf, typeInfo, run_program, hi, Sem.run_pure, hs, run_loadCells hc]
end
end Go.Proofs.Ytlklapledogdcaa.K
