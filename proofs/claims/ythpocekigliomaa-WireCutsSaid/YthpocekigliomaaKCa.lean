/- What the laws draw: numbers and keys. Condition: the bytes are there. -/
import Derived.Test.YthpocekigliomaaKC
namespace Go.Proofs.Ythpocekigliomaa.K
open Go

set_option maxRecDepth 100000 in
set_option maxHeartbeats 1000000 in
theorem number_c {v : Value} {c : By} {B : Nat → Prop} {w : World} (hb : SlR w B v 1 c.length (bvs c)) {i : Nat} (hi : i ≤ 1000000) :
    Ret Try.prog 53 #[v, .int .i64 (i : Int)] w (fun u w' => u = i64 (nm c i) ∧ Ext w w') := by
  refine k_enter2 Try.func53 rfl Try.ntmps53 rfl ?_
  obtain ⟨va, vc, rfl⟩ := hb.form
  refine k_seq ?_
  refine k_region ?_
  refine kl_val (y_assign) rfl rfl rfl ?_
  refine kl_nil ?_
  refine x_seq ?_
  refine k_seq ?_
  refine k_seq ?_
  refine k_region ?_
  refine kl_val (y_move) rfl rfl rfl ?_
  refine kl_val (y_lenS Try.underlying22 rfl) rfl rfl rfl ?_
  refine kl_val (y_eql rfl rfl) rfl rfl rfl ?_
  refine kl_nil ?_
  refine x_seq ?_
  refine k_condp rfl (fun h0 => ?_) (fun h0 => ?_)
  · skip
    refine k_seq ?_
    refine k_region ?_
    refine kl_val (y_move) rfl rfl rfl ?_
    refine kl_val (y_assign) rfl rfl rfl ?_
    refine kl_nil ?_
    refine x_seq ?_
    refine k_ret ?_
    refine x_seqR ?_
    exact k_ret1 rfl rfl ⟨_, rfl, by rw [nm_zero (by omega)]; rfl, Fr.refl _ _⟩
  · skip
    refine k_skip ?_
    refine x_seq ?_
    refine k_seq ?_
    refine k_region ?_
    refine kl_val (y_move) rfl rfl rfl ?_
    refine kl_val (y_move) rfl rfl rfl ?_
    refine kl_val (y_move) rfl rfl rfl ?_
    refine kl_val (y_lenS Try.underlying22 rfl) rfl rfl rfl ?_
    refine kl_val (Y.cast (v' := .int .i64 ((i % c.length : Nat) : Int)) (y_rem' rfl rfl (by omega) (by omega)) (congrArg (Value.int .i64) (by omega))) rfl rfl rfl ?_
    have hj : i % c.length < c.length := Nat.mod_lt _ (by omega)
    obtain ⟨a, cap, hv, hc⟩ := hb.bytes hj
    obtain ⟨rfl, rfl⟩ : va = some a ∧ vc = cap := by simpa using hv
    obtain ⟨x, hx⟩ : ∃ x, x = c.getD (i % c.length) 0 := ⟨_, rfl⟩
    rw [← hx] at hc
    have hxl := x.toNat_lt
    refine kl_val (y_indexAddrN Try.underlying22 I5 S5 rfl rfl hj) rfl rfl rfl ?_
    refine kl_val (y_load rfl (ld_one Try.underlying5 rfl hc)) rfl rfl rfl ?_
    refine kl_val (Y.cast (v' := .int .i64 (x.toNat : Int)) (y_conv_int ⟨_, Try.underlying5⟩ Try.underlying3 rfl) (congrArg (Value.int .i64) (wrapByte x))) rfl rfl rfl ?_
    refine kl_val (y_assign) rfl rfl rfl ?_
    refine kl_nil ?_
    refine x_seq ?_
    refine k_seq ?_
    refine k_seq ?_
    refine k_region ?_
    refine kl_val (y_move) rfl rfl rfl ?_
    refine kl_val (y_gtr rfl rfl) rfl rfl rfl ?_
    refine kl_nil ?_
    refine x_seq ?_
    refine k_condp rfl (fun h2 => ?_) (fun h2 => ?_)
    · skip
      refine k_seq ?_
      refine k_region ?_
      refine kl_ow rfl (ow_sliceC Try.underlying178 I3 Z3 S3 rfl rfl (cells := poolV.toArray) (by kernel_rfl) (by decide) (by decide) rfl (fun w1 b hb1 hf1 he1 hz1 => ?_))
      have hb1 : Bx w1 b _ poolV := hb1
      refine kl_val (y_move) rfl rfl rfl ?_
      refine kl_val (Y.cast (v' := .int .i64 ((x.toNat % 6 : Nat) : Int)) (y_rem' rfl rfl (by omega) (by omega)) (congrArg (Value.int .i64) (by omega))) rfl rfl rfl ?_
      refine kl_val (y_indexAddrN Try.underlying178 I3 S3 rfl rfl (Nat.mod_lt _ (by decide))) rfl rfl rfl ?_
      refine kl_val (y_load rfl (ld_one Try.underlying3 rfl (hb1.cs.at (i := x.toNat % 6 * 1) (by rw [Nat.mul_one]; exact pool_at (Nat.mod_lt _ (by decide)))))) rfl rfl rfl ?_
      refine kl_val (y_assign) rfl rfl rfl ?_
      refine kl_nil ?_
      refine x_seq ?_
      refine k_ret ?_
      refine x_seqR ?_
      exact k_ret1 rfl rfl ⟨_, rfl, by rw [nm_pool (by omega) (by rw [← hx]; omega), ← hx]; rfl, hf1⟩
    · skip
      refine k_skip ?_
      refine x_seq ?_
      refine k_seq ?_
      refine k_region ?_
      refine kl_val (y_move) rfl rfl rfl ?_
      refine kl_val (Y.cast (v' := .int .i64 ((x.toNat % 20 : Nat) : Int)) (y_rem' rfl rfl (by omega) (by omega)) (congrArg (Value.int .i64) (by omega))) rfl rfl rfl ?_
      refine kl_val (y_assign) rfl rfl rfl ?_
      refine kl_nil ?_
      refine x_seq ?_
      refine k_ret ?_
      exact k_ret1 rfl rfl ⟨_, rfl, by rw [nm_small (by omega) (by rw [← hx]; omega), ← hx]; rfl, Fr.refl _ _⟩

set_option maxRecDepth 100000 in
set_option maxHeartbeats 1000000 in
theorem key_c {v : Value} {c : By} {B : Nat → Prop} {w : World} (hb : SlR w B v 1 c.length (bvs c)) {i : Nat} (hi : i ≤ 1000000) :
    Ret Try.prog 54 #[v, .int .i64 (i : Int)] w (fun u w' => u = .agg (bvs (keyOf c i)).toArray ∧ Ext w w') := by
  refine k_enter2 Try.func54 rfl Try.ntmps54 rfl ?_
  have hE : Ext w w := Fr.refl _ _
  refine k_seq ?_
  refine k_region ?_
  refine kl_ow rfl (ow_alloc I34 Z34 rfl (fun w1 b hb0 hf0 he0 hz0 => ?_))
  have hE := hf0
  replace hb := hb.keep hf0 (fun _ _ h => h)
  replace hb0 := bx_eq hb0 (show _ = List.replicate 32 (Value.int .u8 0) from rfl)
  refine kl_nil ?_
  refine x_seq ?_
  refine k_seq ?_
  refine k_region ?_
  refine kl_val (y_move) rfl rfl rfl ?_
  refine kl_val (y_move) rfl rfl rfl ?_
  refine kl_ow rfl (ow_call2 fn53 rfl rfl rfl rfl (number_c hb (i := i) (by omega)) (kret_ret (fun u w2 ⟨hu, hE'⟩ => ?_)))
  subst hu
  have hn := nm_le (c := c) (i := i) (by omega)
  replace hb := hb.keep hE' (fun _ _ h => h)
  replace hE := hE.trans hE'
  replace hb0 := hb0.keep hE' (fun h => h)
  refine kl_val (Y.cast (v' := bv (UInt8.ofNat (nm c i))) (y_conv_int ⟨_, Try.underlying3⟩ Try.underlying5 rfl) (byteNat _)) rfl rfl rfl ?_
  refine kl_val (y_move) rfl rfl rfl ?_
  refine kl_val (Y.cast (v' := bv (UInt8.ofNat i)) (y_conv_int ⟨_, Try.underlying3⟩ Try.underlying5 rfl) (byteNat _)) rfl rfl rfl ?_
  refine kl_val (y_build (cells := (bvs (keyOf c i)).toArray) rfl (by kernel_rfl)) rfl rfl rfl ?_
  refine kl_ow rfl (ow_store (b := b) (o := 0) I34 S34 rfl (v := .agg (bvs (keyOf c i)).toArray) (xs := bvs (keyOf c i)) rfl hb0 rfl (by rw [bvs_length, keyOf_len]) (by rw [bvs_length, keyOf_len]; simp) (bvs_one _) (fun w3 hb3 hf3 hz3 => ?_))
  replace hb3 := bx_eq hb3 (splice_all (by rw [bvs_length, keyOf_len]; simp))
  replace hE := ext_store hE hf3 (by omega)
  refine kl_nil ?_
  refine x_seq ?_
  refine k_ret ?_
  exact k_retC rfl rfl (ld_aggB Try.underlying34 rfl I34 S34 (by rw [bvs_length, keyOf_len]) hb3.cs) ⟨_, rfl, rfl, hE⟩

end Go.Proofs.Ythpocekigliomaa.K
