/- The writer of bytes: what its struct and its buffer are, how they change. Numbers as bytes. No condition. -/
import Derived.Test.YthpocekigliomaaK3
namespace Go.Proofs.Ythpocekigliomaa.K
open Go

theorem Y.cast {P : Program} {n : Nat} {ρ : Env} {o : Oper} {w : World} {v v' : Value} (h : Y P n ρ o w v) (e : v = v') : Y P n ρ o w v' := e ▸ h

def bv (b : UInt8) : Value := .int .u8 b.toNat
def bvs (l : List UInt8) : List Value := l.map bv
@[simp] theorem bvs_length (l : List UInt8) : (bvs l).length = l.length := by simp [bvs]
theorem bvs_append (l m : List UInt8) : bvs (l ++ m) = bvs l ++ bvs m := by simp [bvs]
theorem bvs_one (l : List UInt8) : ∀ u ∈ bvs l, u.oneCell' = true := by
  intro u hu
  simp only [bvs, List.mem_map] at hu
  obtain ⟨b, _, rfl⟩ := hu
  rfl
theorem strCells_bvs (s : ByteArray) : Go.Lib.strCells s = bvs s.data.toList := rfl

theorem own_keep {S : Nat → Prop} {w w' : World} {e sz m : Nat} {v : Value} {xs : List Value} (h : w.ownsRow 0 e sz v m xs) (hf : Fr S w w') (hn : ∀ b, ownB v b → ¬ S b) : w'.ownsRow 0 e sz v m xs := by
  refine ⟨h.1, ?_⟩
  rcases h.2 with h | ⟨g, cap, cur, rfl, h1, h2, h3⟩
  · exact .inl h
  · exact .inr ⟨g, cap, cur, rfl, h1, by rw [hf.block g (Array.getElem?_eq_some_iff.1 h2).1 (hn g rfl)]; exact h2, h3⟩
theorem own_lt {w : World} {e sz m : Nat} {v : Value} {xs : List Value} (h : w.ownsRow 0 e sz v m xs) {b : Nat} (hb : ownB v b) : b < w.heap.size := (h.lt b hb).2

/-- The blocks that a writer at p, whose buffer is v, may write to. -/
def WB (p : Addr) (v : Value) (b : Nat) : Prop := b = p.block ∨ ownB v b

/-- The writer at p has buffer v, which holds the bytes l. -/
structure Wr (w : World) (p : Addr) (v : Value) (l : List UInt8) : Prop where
  cell : w.cell? p = some v
  free : w.frozen? p = false
  own : w.ownsRow 0 5 1 v l.length (bvs l)
  ne : ¬ ownB v p.block

theorem Wr.lt {w : World} {p : Addr} {v : Value} {l : List UInt8} (h : Wr w p v l) : p.block < w.heap.size := World.block_lt_of_cell? w p h.cell
theorem Wr.wblt {w : World} {p : Addr} {v : Value} {l : List UInt8} (h : Wr w p v l) {b : Nat} (hb : WB p v b) : b < w.heap.size := by
  rcases hb with rfl | hb
  · exact h.lt
  · exact own_lt h.own hb
theorem Wr.keep {S : Nat → Prop} {w w' : World} {p : Addr} {v : Value} {l : List UInt8} (h : Wr w p v l) (hf : Fr S w w') (hn : ∀ b, WB p v b → ¬ S b) : Wr w' p v l :=
  ⟨hf.cell h.cell (hn _ (.inl rfl)), by rw [hf.frozen h.lt (hn _ (.inl rfl))]; exact h.free, own_keep h.own hf (fun b hb => hn b (.inr hb)), h.ne⟩
theorem Wr.ext {w w' : World} {p : Addr} {v : Value} {l : List UInt8} (h : Wr w p v l) (hf : Ext w w') : Wr w' p v l := h.keep hf (fun _ _ h => h)

/-- What a writer's step does to the world. -/
structure WS (p : Addr) (w : World) (v : Value) (w' : World) (v' : Value) : Prop where
  fr : Fr (WB p v) w w'
  fresh : v'.ownBlock = v.ownBlock ∨ ∀ b, ownB v' b → w.heap.size ≤ b

theorem WS.refl (p : Addr) (w : World) (v : Value) : WS p w v w v := ⟨Fr.refl _ _, .inl rfl⟩
theorem WS.ext {p : Addr} {w w' : World} (v : Value) (h : Ext w w') : WS p w v w' v := ⟨h.fr, .inl rfl⟩
theorem WS.trans {p : Addr} {w w1 w2 : World} {v v1 v2 : Value} (h : WS p w v w1 v1) (g : WS p w1 v1 w2 v2) : WS p w v w2 v2 := by
  refine ⟨h.fr.trans' g.fr (fun i hi hs => ?_), ?_⟩
  · rcases hs with rfl | hs
    · exact .inl rfl
    · rcases h.fresh with e | e
      · right; unfold ownB at *; rw [← e]; exact hs
      · have := e i hs; omega
  · rcases g.fresh with e | e
    · rcases h.fresh with e' | e'
      · exact .inl (e.trans e')
      · exact .inr fun b hb => e' b (by unfold ownB at *; rw [← e]; exact hb)
    · exact .inr fun b hb => Nat.le_trans h.fr.size (e b hb)
/-- A block that the writer does not write stays one. -/
theorem WS.not {p : Addr} {w w' : World} {v v' : Value} (h : WS p w v w' v') {b : Nat} (hn : ¬ WB p v b) (hb : b < w.heap.size) : ¬ WB p v' b := by
  rintro (e | e)
  · exact hn (.inl e)
  · rcases h.fresh with f | f
    · exact hn (.inr (by unfold ownB at *; rw [← f]; exact e))
    · have := f b e; omega

/-- The three steps of 'w.b = append(w.b, ..)'. -/
theorem wr_append {w w1 w2 : World} {p : Addr} {v v2 : Value} {l bs : List UInt8} (h : Wr w p v l) (h1 : Ext w w1) (ho : w2.ownsRow 0 5 1 v2 (l.length + bs.length) (bvs l ++ bvs bs))
    (hf : Fr (ownB v) w1 w2) (hfr : v2.ownBlock = v.ownBlock ∨ ∀ b, ownB v2 b → w1.heap.size ≤ b) :
    w2.cell? p = some v ∧ w2.frozen? p = false ∧ Wr (w2.setCell p v2) p v2 (l ++ bs) ∧ WS p w v (w2.setCell p v2) v2 := by
  have hw1 := h.ext h1
  have hc : w2.cell? p = some v := hf.cell hw1.cell h.ne
  have hfz : w2.frozen? p = false := by rw [hf.frozen hw1.lt h.ne]; exact hw1.free
  have hne : ¬ ownB v2 p.block := by
    intro hb
    rcases hfr with e | e
    · exact h.ne (by unfold ownB at *; rw [← e]; exact hb)
    · have h2 := e _ hb; have h3 := hw1.lt; omega
  have hset : Fr (· = p.block) w2 (w2.setCell p v2) := (Fr.refl _ _).setCell p v2 (fun _ => rfl)
  refine ⟨hc, hfz, ⟨?_, ?_, ?_, hne⟩, ⟨?_, ?_⟩⟩
  · exact World.cell?_setCell_same w2 p v2 hc
  · rw [World.frozen?_setCell]; exact hfz
  · have := own_keep ho hset (fun b hb e => hne (e ▸ hb))
    rw [List.length_append, bvs_append]; exact this
  · exact (h1.fr.trans (hf.mono fun _ _ hb => .inr hb)).trans' hset (fun i _ hi => .inl hi)
  · rcases hfr with e | e
    · exact .inl e
    · exact .inr fun b hb => Nat.le_trans h1.size (e b hb)

/-! ### Numbers -/

/-- A number as bytes of seven bits. -/
def num (n : Nat) : List UInt8 := if n < 128 then [UInt8.ofNat n] else UInt8.ofNat (n % 128 + 128) :: num (n / 128)
termination_by n
theorem num_lt {n : Nat} (h : n < 128) : num n = [UInt8.ofNat n] := by rw [num]; simp [h]
theorem num_ge {n : Nat} (h : 128 ≤ n) : num n = UInt8.ofNat (n % 128 + 128) :: num (n / 128) := by rw [num]; simp [Nat.not_lt.2 h]
/-- What is written of an int. -/
def clamp (x : Int) : Nat := (max 0 (min x 1099511627776)).toNat
def numI (x : Int) : List UInt8 := num (clamp x)
theorem clamp_le (x : Int) : clamp x ≤ 1099511627776 := by unfold clamp; omega
theorem num_length_le : ∀ (m n : Nat), n < 128 ^ (m + 1) → (num n).length ≤ m + 1
  | 0, n, h => by rw [num_lt (by simpa using h)]; simp
  | m + 1, n, h => by
    by_cases hn : n < 128
    · rw [num_lt hn]; simp
    · rw [num_ge (by omega)]
      have := num_length_le m (n / 128) (by rw [Nat.div_lt_iff_lt_mul (by decide)]; rw [Nat.pow_succ] at h; exact h)
      simp; omega
theorem numI_length (x : Int) : (numI x).length ≤ 6 := num_length_le 5 _ (Nat.lt_of_le_of_lt (clamp_le x) (by decide))

theorem or_byte (k : Nat) : IntKind.u8.wrap ((BitVec.ofInt 8 (IntKind.u8.wrap (k : Int)) ||| BitVec.ofInt 8 128).toNat : Int) = ((UInt8.ofNat (k % 128 + 128)).toNat : Int) := by
  have h : ∀ m : Nat, m < 256 → (BitVec.ofInt 8 (m : Int) ||| BitVec.ofInt 8 128).toNat = m % 128 + 128 := by decide +kernel
  rw [wrap8_mod (k : Int)]
  have e : ((k : Int) % 256) = ((k % 256 : Nat) : Int) := by omega
  rw [e, h _ (Nat.mod_lt _ (by decide)), wrap8_eq (by omega) (by omega)]
  have : (UInt8.ofNat (k % 128 + 128)).toNat = k % 128 + 128 := by rw [UInt8.toNat_ofNat']; omega
  rw [this]; omega
theorem low_byte {k : Nat} (h : k < 128) : IntKind.u8.wrap (k : Int) = ((UInt8.ofNat k).toNat : Int) := by
  rw [wrap8_eq (by omega) (by omega), UInt8.toNat_ofNat']; omega
theorem shr7 (k : Nat) : ((k : Int).fdiv (2 ^ (min (7 : Int).toNat IntKind.i64.bits))) = ((k / 128 : Nat) : Int) := by
  have : (2 : Int) ^ (min (7 : Int).toNat IntKind.i64.bits) = 128 := by decide
  rw [this, Int.fdiv_eq_ediv_of_nonneg _ (by decide)]; omega
end Go.Proofs.Ythpocekigliomaa.K
