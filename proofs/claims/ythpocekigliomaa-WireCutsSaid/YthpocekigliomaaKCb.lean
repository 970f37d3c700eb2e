/- What the laws draw: envelopes. Condition: the bytes are there. -/
import Derived.Test.YthpocekigliomaaKCa
namespace Go.Proofs.Ythpocekigliomaa.K
open Go

set_option maxRecDepth 100000 in
set_option maxHeartbeats 1000000 in
theorem Envelope_c {v : Value} {c : By} {B : Nat → Prop} {w : World} (hb : SlR w B v 1 c.length (bvs c)) (hB : ∀ b, B b → b < w.heap.size) {i : Nat} (hi : i ≤ 500000) :
    Ret Try.prog 12 #[v, .int .i64 (i : Int)] w (fun u w' => (∃ cs, u = .agg cs.toArray ∧ EnvR w' B cs (chEnv c i)) ∧ Ext w w') := by
  refine k_enter2 Try.func12 rfl Try.ntmps12 rfl ?_
  have hE : Ext w w := Fr.refl _ _
  refine k_seq ?_
  refine k_region ?_
  refine kl_ow rfl (ow_alloc I38 Z38 rfl (fun w1 b0 hb0 hf0 he0 hz0 => ?_))
  have hE := hf0
  replace hb := hb.keep hf0 (fun _ _ h => h)
  replace hb0 := bx_eq hb0 (show _ = ([Value.int .i64 0, Value.int .i64 0, Value.bool false] ++ List.replicate 32 (Value.int .u8 0) ++ [Value.int .i64 0, Value.int .i64 0] ++ List.replicate 32 (Value.int .u8 0) ++ [Value.int .i64 0, Value.int .i64 0, Value.slice none 0 0] : List Value) from rfl)
  refine kl_nil ?_
  refine x_seq ?_
  refine k_seq ?_
  refine k_region ?_
  refine kl_val (y_move) rfl rfl rfl ?_
  refine kl_val (y_move) rfl rfl rfl ?_
  refine kl_ow rfl (ow_call2 fn53 rfl rfl rfl rfl (number_c hb (i := i) (by omega)) (kret_ret (fun u w2 ⟨hu, hE'⟩ => ?_)))
  subst hu
  have hn := nm_le (c := c) (i := i) (by omega)
  replace hb := hb.keep hE' (fun _ _ h => h)
  replace hE := hE.trans hE'
  replace hb0 := hb0.keep hE' (fun h => h)
  refine kl_val (y_move) rfl rfl rfl ?_
  refine kl_val (y_move) rfl rfl rfl ?_
  refine kl_val (Y.cast (v' := .int .i64 ((i + 1 : Nat) : Int)) (y_add64 rfl rfl (by omega)) (congrArg (Value.int .i64) (by omega))) rfl rfl rfl ?_
  refine kl_ow rfl (ow_call2 fn53 rfl rfl rfl rfl (number_c hb (i := i + 1) (by omega)) (kret_ret (fun u w3 ⟨hu, hE'⟩ => ?_)))
  subst hu
  have hn := nm_le (c := c) (i := i + 1) (by omega)
  replace hb := hb.keep hE' (fun _ _ h => h)
  replace hE := hE.trans hE'
  replace hb0 := hb0.keep hE' (fun h => h)
  refine kl_val (y_move) rfl rfl rfl ?_
  refine kl_val (y_move) rfl rfl rfl ?_
  refine kl_val (Y.cast (v' := .int .i64 ((i + 2 : Nat) : Int)) (y_add64 rfl rfl (by omega)) (congrArg (Value.int .i64) (by omega))) rfl rfl rfl ?_
  refine kl_ow rfl (ow_call2 fn53 rfl rfl rfl rfl (number_c hb (i := i + 2) (by omega)) (kret_ret (fun u w4 ⟨hu, hE'⟩ => ?_)))
  subst hu
  have hn := nm_le (c := c) (i := i + 2) (by omega)
  replace hb := hb.keep hE' (fun _ _ h => h)
  replace hE := hE.trans hE'
  replace hb0 := hb0.keep hE' (fun h => h)
  refine kl_val (Y.cast (v' := .int .i64 ((nm c (i + 2) % 2 : Nat) : Int)) (y_rem' rfl rfl (by omega) (by omega)) (congrArg (Value.int .i64) (by omega))) rfl rfl rfl ?_
  refine kl_val (yb (b := decide (nm c (i + 2) % 2 = 1)) (y_eql rfl rfl) (by rw [decide_eq_decide]; omega)) rfl rfl rfl ?_
  refine kl_val (y_move) rfl rfl rfl ?_
  refine kl_val (y_move) rfl rfl rfl ?_
  refine kl_val (Y.cast (v' := .int .i64 ((i + 3 : Nat) : Int)) (y_add64 rfl rfl (by omega)) (congrArg (Value.int .i64) (by omega))) rfl rfl rfl ?_
  refine kl_ow rfl (ow_call2 fn54 rfl rfl rfl rfl (key_c hb (i := i + 3) (by omega)) (kret_ret (fun u w5 ⟨hu, hE'⟩ => ?_)))
  subst hu
  replace hb := hb.keep hE' (fun _ _ h => h)
  replace hE := hE.trans hE'
  replace hb0 := hb0.keep hE' (fun h => h)
  refine kl_val (y_move) rfl rfl rfl ?_
  refine kl_val (y_move) rfl rfl rfl ?_
  refine kl_val (Y.cast (v' := .int .i64 ((i + 4 : Nat) : Int)) (y_add64 rfl rfl (by omega)) (congrArg (Value.int .i64) (by omega))) rfl rfl rfl ?_
  refine kl_ow rfl (ow_call2 fn53 rfl rfl rfl rfl (number_c hb (i := i + 4) (by omega)) (kret_ret (fun u w6 ⟨hu, hE'⟩ => ?_)))
  subst hu
  have hn := nm_le (c := c) (i := i + 4) (by omega)
  replace hb := hb.keep hE' (fun _ _ h => h)
  replace hE := hE.trans hE'
  replace hb0 := hb0.keep hE' (fun h => h)
  refine kl_val (y_move) rfl rfl rfl ?_
  refine kl_val (y_move) rfl rfl rfl ?_
  refine kl_val (Y.cast (v' := .int .i64 ((i + 5 : Nat) : Int)) (y_add64 rfl rfl (by omega)) (congrArg (Value.int .i64) (by omega))) rfl rfl rfl ?_
  refine kl_ow rfl (ow_call2 fn53 rfl rfl rfl rfl (number_c hb (i := i + 5) (by omega)) (kret_ret (fun u w7 ⟨hu, hE'⟩ => ?_)))
  subst hu
  have hn := nm_le (c := c) (i := i + 5) (by omega)
  replace hb := hb.keep hE' (fun _ _ h => h)
  replace hE := hE.trans hE'
  replace hb0 := hb0.keep hE' (fun h => h)
  refine kl_val (Y.cast (v' := .int .i64 ((min (nm c (i + 5)) 1099511627775 : Nat) : Int)) (y_min rfl rfl) (congrArg (Value.int .i64) (by omega))) rfl rfl rfl ?_
  refine kl_val (y_sub64 rfl rfl (by omega)) rfl rfl rfl ?_
  refine kl_val (y_build (cells := (envCells (chEnv0 c i) (.slice none 0 0)).toArray) rfl (by kernel_rfl)) rfl rfl rfl ?_
  have hlt0 := hb0.lt
  refine kl_ow rfl (ow_alloc I38 Z38 rfl (fun w8 b5 hb5 hf5 he5 hz5 => ?_))
  replace hb := hb.keep hf5 (fun _ _ h => h)
  replace hb0 := hb0.keep hf5 (fun h => h)
  have hsz := hE.size
  replace hE := hE.trans hf5
  replace hb5 := bx_eq hb5 (show _ = ([Value.int .i64 0, Value.int .i64 0, Value.bool false] ++ List.replicate 32 (Value.int .u8 0) ++ [Value.int .i64 0, Value.int .i64 0] ++ List.replicate 32 (Value.int .u8 0) ++ [Value.int .i64 0, Value.int .i64 0, Value.slice none 0 0] : List Value) from rfl)
  have hR0 : EnvR w8 B (envCells (chEnv0 c i) (.slice none 0 0)) (chEnv0 c i) := envR_mk (chEnv_eph c i) rfl (SlR.nil _ _ _)
  have hR1 : EnvR w8 B (envCells (chEnv1 c i) (.slice none 0 0)) (chEnv1 c i) := envR_mk (chEnv_eph c i) (chEnv_head c i) (SlR.nil _ _ _)
  refine kl_ow rfl (ow_store (b := b5) (o := 0) I38 S38 rfl (v := .agg (envCells (chEnv0 c i) (.slice none 0 0)).toArray) (xs := envCells (chEnv0 c i) (.slice none 0 0)) rfl hb5 rfl hR0.length (by rw [hR0.length]; simp) hR0.one (fun w9 hb9 hf9 hz9 => ?_))
  replace hb5 := bx_eq hb9 (splice_all (by rw [hR0.length]; simp))
  replace hb := hb.keep hf9 (fun j hj => by have := hB j hj; omega)
  replace hb0 := hb0.keep hf9 (by omega)
  replace hE := ext_store hE hf9 (by omega)
  refine kl_nil ?_
  refine x_seq ?_
  refine k_seq ?_
  refine k_region ?_
  refine kl_val (y_move) rfl rfl rfl ?_
  refine kl_val (y_move) rfl rfl rfl ?_
  refine kl_val (Y.cast (v' := .int .i64 ((i + 6 : Nat) : Int)) (y_add64 rfl rfl (by omega)) (congrArg (Value.int .i64) (by omega))) rfl rfl rfl ?_
  refine kl_ow rfl (ow_call2 fn54 rfl rfl rfl rfl (key_c hb (i := i + 6) (by omega)) (kret_ret (fun u wa ⟨hu, hE'⟩ => ?_)))
  subst hu
  replace hb := hb.keep hE' (fun _ _ h => h)
  replace hE := hE.trans hE'
  replace hb0 := hb0.keep hE' (fun h => h)
  replace hb5 := hb5.keep hE' (fun h => h)
  refine kl_val (y_move) rfl rfl rfl ?_
  refine kl_val (y_move) rfl rfl rfl ?_
  refine kl_val (Y.cast (v' := .int .i64 ((i + 7 : Nat) : Int)) (y_add64 rfl rfl (by omega)) (congrArg (Value.int .i64) (by omega))) rfl rfl rfl ?_
  refine kl_ow rfl (ow_call2 fn53 rfl rfl rfl rfl (number_c hb (i := i + 7) (by omega)) (kret_ret (fun u wb ⟨hu, hE'⟩ => ?_)))
  subst hu
  have hn := nm_le (c := c) (i := i + 7) (by omega)
  replace hb := hb.keep hE' (fun _ _ h => h)
  replace hE := hE.trans hE'
  replace hb0 := hb0.keep hE' (fun h => h)
  replace hb5 := hb5.keep hE' (fun h => h)
  refine kl_val (y_move) rfl rfl rfl ?_
  refine kl_val (y_move) rfl rfl rfl ?_
  refine kl_val (Y.cast (v' := .int .i64 ((i + 8 : Nat) : Int)) (y_add64 rfl rfl (by omega)) (congrArg (Value.int .i64) (by omega))) rfl rfl rfl ?_
  refine kl_ow rfl (ow_call2 fn53 rfl rfl rfl rfl (number_c hb (i := i + 8) (by omega)) (kret_ret (fun u wc ⟨hu, hE'⟩ => ?_)))
  subst hu
  have hn := nm_le (c := c) (i := i + 8) (by omega)
  replace hb := hb.keep hE' (fun _ _ h => h)
  replace hE := hE.trans hE'
  replace hb0 := hb0.keep hE' (fun h => h)
  replace hb5 := hb5.keep hE' (fun h => h)
  refine kl_val (y_build (cells := (hdrCells (chEnv c i).head).toArray) rfl (by kernel_rfl)) rfl rfl rfl ?_
  refine kl_val (y_fieldAddr Try.underlying38 rfl I36 S36 rfl rfl) rfl rfl rfl ?_
  refine kl_ow rfl (ow_store (b := b5) (o := 37) I36 S36 rfl (v := .agg (hdrCells (chEnv c i).head).toArray) (xs := hdrCells (chEnv c i).head) rfl hb5 rfl (hdr_len (chEnv_head c i)) (by rw [hdr_len (chEnv_head c i), hR0.length]; omega) (One'.append (bvs_one _) ((One'.single rfl).append (One'.single rfl))) (fun wd hbd hfd hzd => ?_))
  replace hb5 := bx_eq hbd ((env_head (x := chEnv0 c i) (chEnv_eph c i) rfl (chEnv_head c i)).trans (show _ = envCells (chEnv1 c i) (.slice none 0 0) from rfl))
  replace hb := hb.keep hfd (fun j hj => by have := hB j hj; omega)
  replace hb0 := hb0.keep hfd (by omega)
  replace hE := ext_store hE hfd (by omega)
  refine kl_nil ?_
  refine x_seq ?_
  refine k_seq ?_
  refine k_region ?_
  refine kl_val (y_move) rfl rfl rfl ?_
  refine kl_val (y_move) rfl rfl rfl ?_
  obtain ⟨va, vc, rfl⟩ := hb.form
  refine kl_val (y_lenS Try.underlying22 rfl) rfl rfl rfl ?_
  refine kl_val (y_move) rfl rfl rfl ?_
  refine kl_val (y_move) rfl rfl rfl ?_
  refine kl_val (Y.cast (v' := .int .i64 ((i + 9 : Nat) : Int)) (y_add64 rfl rfl (by omega)) (congrArg (Value.int .i64) (by omega))) rfl rfl rfl ?_
  refine kl_ow rfl (ow_call2 fn53 rfl rfl rfl rfl (number_c hb (i := i + 9) (by omega)) (kret_ret (fun u we ⟨hu, hE'⟩ => ?_)))
  subst hu
  have hn := nm_le (c := c) (i := i + 9) (by omega)
  replace hb := hb.keep hE' (fun _ _ h => h)
  replace hE := hE.trans hE'
  replace hb0 := hb0.keep hE' (fun h => h)
  replace hb5 := hb5.keep hE' (fun h => h)
  refine kl_val (Y.cast (v' := .int .i64 ((nm c (i + 9) % 10 : Nat) : Int)) (y_rem' rfl rfl (by omega) (by omega)) (congrArg (Value.int .i64) (by omega))) rfl rfl rfl ?_
  refine kl_val (Y.cast (v' := .int .i64 ((min c.length (nm c (i + 9) % 10) : Nat) : Int)) (y_min rfl rfl) (congrArg (Value.int .i64) (by omega))) rfl rfl rfl ?_
  have hcap := hb.cap
  have htk := (hb.take (min c.length (nm c (i + 9) % 10)) (Nat.min_le_left _ _)).2
  refine kl_val (Y.cast (v' := .slice va (min c.length (nm c (i + 9) % 10)) vc) (y_sliceHi Try.underlying22 I5 rfl rfl (by omega) (by omega)) (by simp)) rfl rfl rfl ?_
  refine kl_val (y_fieldAddr Try.underlying38 rfl I22 S22 rfl rfl) rfl rfl rfl ?_
  refine kl_ow rfl (ow_store (b := b5) (o := 71) I22 S22 rfl (v := .slice va (min c.length (nm c (i + 9) % 10)) vc) (xs := [.slice va (min c.length (nm c (i + 9) % 10)) vc]) rfl hb5 rfl rfl (by rw [hR1.length]; simp) (One'.single rfl) (fun wf hbf hff hzf => ?_))
  replace hb5 := bx_eq hbf ((env_body (x := chEnv1 c i) (chEnv_eph c i) (chEnv_head c i)).trans (show _ = envCells (chEnv c i) _ from rfl))
  replace htk := htk.keep hff (fun j hj => by have := hB j hj; omega)
  replace hb0 := hb0.keep hff (by omega)
  replace hE := ext_store hE hff (by omega)
  have hR : EnvR wf B _ (chEnv c i) := envR_mk (chEnv_eph c i) (chEnv_head c i) htk
  refine kl_nil ?_
  refine x_seq ?_
  refine k_seq ?_
  refine k_region ?_
  refine kl_val (y_load rfl (ld_aggB Try.underlying38 rfl I38 S38 hR.length hb5.cs)) rfl rfl rfl ?_
  refine kl_ow rfl (ow_store (b := b0) (o := 0) I38 S38 rfl (v := .agg (envCells (chEnv c i) _).toArray) rfl hb0 rfl hR.length (by rw [hR.length]; simp) hR.one (fun wg hbg hfg hzg => ?_))
  replace hb0 := bx_eq hbg (splice_all (by rw [hR.length]; simp))
  replace hE := ext_store hE hfg (by omega)
  replace hR := hR.keep hfg (fun j hj => by have := hB j hj; omega)
  refine kl_nil ?_
  refine x_seq ?_
  refine k_ret ?_
  exact k_retC rfl rfl (ld_aggB Try.underlying38 rfl I38 S38 hR.length hb0.cs) ⟨_, rfl, ⟨_, rfl, hR⟩, hE⟩

end Go.Proofs.Ythpocekigliomaa.K
