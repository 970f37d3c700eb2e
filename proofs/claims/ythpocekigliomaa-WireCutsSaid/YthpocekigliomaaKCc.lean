/- What the laws draw: one-time keys, lists. Condition: the bytes are there. -/
import Derived.Test.YthpocekigliomaaKCa
namespace Go.Proofs.Ythpocekigliomaa.K
open Go

set_option maxRecDepth 100000 in
set_option maxHeartbeats 1000000 in
theorem Prekeys_c {v : Value} {c : By} {B : Nat → Prop} {w : World} (hb : SlR w B v 1 c.length (bvs c)) (hB : ∀ b, B b → b < w.heap.size) {i : Nat} (hi : i ≤ 500000) :
    Ret Try.prog 57 #[v, .int .i64 (i : Int)] w (fun u w' => SlX IdKeyR 33 w' (Nw w w') u (chPres c i) ∧ Ext w w') := by
  refine k_enter2 Try.func57 rfl Try.ntmps57 rfl ?_
  refine k_seq ?_
  refine k_region ?_
  refine kl_val (y_assign) rfl rfl rfl ?_
  refine kl_nil ?_
  refine x_seq ?_
  refine k_seq ?_
  refine k_region ?_
  refine kl_val (y_assign) rfl rfl rfl ?_
  refine kl_nil ?_
  refine x_seq ?_
  refine k_seq ?_
  refine k_seq ?_
  refine k_region ?_
  refine kl_val (y_assign) rfl rfl rfl ?_
  refine kl_nil ?_
  refine x_seq ?_
  refine k_block ?_
  refine k_loop (fun m ρ w' => ∃ (j : Nat) (out : Value), ρ 0 = v ∧ ρ 1 = .int .i64 (i : Int) ∧ ρ 5 = out ∧ ρ 6 = .int .i64 (j : Int) ∧ j ≤ nm c i % 4 ∧ m = nm c i % 4 - j ∧ Ext w w' ∧ SlR w' B v 1 c.length (bvs c) ∧ OwnX IdKeyR 33 49 w' (New w) out ((List.range j).map (chPre c i))) (nm c i % 4) ⟨0, .slice none 0 0, rfl, rfl, rfl, rfl, by omega, rfl, Fr.refl _ _, hb, OwnX.nil⟩ ?_
  clear hb
  rintro m ρ w1 ⟨j, out, e0, e1, e5, e6, hj, rfl, hE, hb, hX⟩
  obtain ⟨σ, rfl⟩ : ∃ σ, ρ = upd (upd (upd (upd σ 0 v) 1 (.int .i64 (i : Int))) 5 out) 6 (.int .i64 (j : Int)) := ⟨ρ, by rw [upd_self ρ e0, upd_self ρ e1, upd_self ρ e5, upd_self ρ e6]⟩
  clear e0 e1 e5 e6
  refine k_seq ?_
  refine k_seq ?_
  refine k_region ?_
  refine kl_val (y_move) rfl rfl rfl ?_
  refine kl_val (y_move) rfl rfl rfl ?_
  refine kl_val (y_move) rfl rfl rfl ?_
  refine kl_ow rfl (ow_call2 fn53 rfl rfl rfl rfl (number_c hb (i := i) (by omega)) (kret_ret (fun u w2 ⟨hu, hE'⟩ => ?_)))
  subst hu
  have hn := nm_le (c := c) (i := i) (by omega)
  replace hb := hb.keep hE' (fun _ _ h => h)
  replace hE := hE.trans hE'
  replace hX := hX.keep hE' (fun _ _ h => h) (fun _ _ h => ⟨h.len, h.eq⟩)
  refine kl_val (Y.cast (v' := .int .i64 ((nm c i % 4 : Nat) : Int)) (y_rem' rfl rfl (by omega) (by omega)) (congrArg (Value.int .i64) (by omega))) rfl rfl rfl ?_
  refine kl_val (y_lss rfl rfl) rfl rfl rfl ?_
  refine kl_nil ?_
  refine x_seq ?_
  refine k_condp rfl (fun hlt => ?_) (fun hlt => ?_)
  · skip
    refine k_skip ?_
    refine x_seq ?_
    refine k_seq ?_
    refine k_block ?_
    refine k_region ?_
    refine kl_val (y_move) rfl rfl rfl ?_
    refine kl_val (y_move) rfl rfl rfl ?_
    refine kl_val (y_move) rfl rfl rfl ?_
    refine kl_val (y_move) rfl rfl rfl ?_
    refine kl_val (Y.cast (v' := .int .i64 ((i + j : Nat) : Int)) (y_add64 rfl rfl (by omega)) (congrArg (Value.int .i64) (by omega))) rfl rfl rfl ?_
    refine kl_val (Y.cast (v' := .int .i64 ((i + j + 1 : Nat) : Int)) (y_add64 rfl rfl (by omega)) (congrArg (Value.int .i64) (by omega))) rfl rfl rfl ?_
    refine kl_ow rfl (ow_call2 fn53 rfl rfl rfl rfl (number_c hb (i := i + j + 1) (by omega)) (kret_ret (fun u w3 ⟨hu, hE'⟩ => ?_)))
    subst hu
    have hn := nm_le (c := c) (i := i + j + 1) (by omega)
    replace hb := hb.keep hE' (fun _ _ h => h)
    replace hE := hE.trans hE'
    replace hX := hX.keep hE' (fun _ _ h => h) (fun _ _ h => ⟨h.len, h.eq⟩)
    refine kl_val (y_move) rfl rfl rfl ?_
    refine kl_val (y_move) rfl rfl rfl ?_
    refine kl_val (y_move) rfl rfl rfl ?_
    refine kl_val (Y.cast (v' := .int .i64 ((i + j : Nat) : Int)) (y_add64 rfl rfl (by omega)) (congrArg (Value.int .i64) (by omega))) rfl rfl rfl ?_
    refine kl_val (Y.cast (v' := .int .i64 ((i + j + 2 : Nat) : Int)) (y_add64 rfl rfl (by omega)) (congrArg (Value.int .i64) (by omega))) rfl rfl rfl ?_
    refine kl_ow rfl (ow_call2 fn54 rfl rfl rfl rfl (key_c hb (i := i + j + 2) (by omega)) (kret_ret (fun u w4 ⟨hu, hE'⟩ => ?_)))
    subst hu
    replace hb := hb.keep hE' (fun _ _ h => h)
    replace hE := hE.trans hE'
    replace hX := hX.keep hE' (fun _ _ h => h) (fun _ _ h => ⟨h.len, h.eq⟩)
    refine kl_val (y_build (cells := ([i64 (nm c (i + j + 1))] ++ bvs (keyOf c (i + j + 2))).toArray) rfl (by kernel_rfl)) rfl rfl rfl ?_
    refine kl_ow rfl (ow_slice1 Try.underlying50 I49 Z49 S49 rfl rfl (v := .agg ([i64 (nm c (i + j + 1))] ++ bvs (keyOf c (i + j + 2))).toArray) rfl (by decide) (by decide) rfl (fun w5 b5 hb5 hf5 he5 hz5 => ?_))
    replace hb := hb.keep hf5 (fun _ _ h => h)
    replace hE := hE.trans hf5
    replace hX := hX.keep hf5 (fun _ _ h => h) (fun _ _ h => ⟨h.len, h.eq⟩)
    refine kl_ow rfl (ow_appendX Try.underlying50 I49 Z49 S49 rfl (by decide) (by rw [B49]; decide) rfl hX rfl (cs := ([i64 (nm c (i + j + 1))] ++ bvs (keyOf c (i + j + 2)))) (x := chPre c i j) (bx_eq hb5 (by simp [Value.cells])) (by simp [keyOf_len]) (idk_one _ _) ⟨keyOf_len _ _, rfl⟩ (fun q hq => Nat.le_trans hE.size hq) (by simp; omega) rfl (fun v' w' hf hle cs x hR => ⟨hR.len, hR.eq⟩) (fun out' w6 hX' hf6 => ?_))
    replace hb := hb.keep hf6 (fun q hq h => by have := hX.new _ h; have := hB q hq; unfold New at *; omega)
    replace hE := hE.trans' hf6 (fun q hq h => absurd (hX.new _ h) (by unfold New; omega))
    replace hX := hX'
    refine kl_val (y_assign) rfl rfl rfl ?_
    refine kl_nil ?_
    refine x_blk ?_
    refine x_seq ?_
    refine k_region ?_
    refine kl_val (y_move) rfl rfl rfl ?_
    refine kl_val (Y.cast (v' := .int .i64 ((j + 1 : Nat) : Int)) (y_add64 rfl rfl (by omega)) (congrArg (Value.int .i64) (by omega))) rfl rfl rfl ?_
    refine kl_val (y_assign) rfl rfl rfl ?_
    refine kl_nil ?_
    refine x_lpN (nm c i % 4 - (j + 1)) (by omega) ⟨j + 1, out', rfl, rfl, rfl, rfl, by omega, rfl, hE, hb, by rw [← range_next]; exact hX⟩
  · skip
    obtain rfl : j = nm c i % 4 := by omega
    refine k_exit ?_
    refine x_seqX ?_
    refine x_lpX ?_
    refine x_blkX ?_
    refine x_seq ?_
    refine k_seq ?_
    refine k_region ?_
    refine kl_val (y_move) rfl rfl rfl ?_
    refine kl_val (y_assign) rfl rfl rfl ?_
    refine kl_nil ?_
    refine x_seq ?_
    refine k_ret ?_
    exact k_ret1 rfl rfl ⟨_, rfl, hX.sl (fun _ _ h => ⟨h.len, h.eq⟩), hE⟩

set_option maxRecDepth 100000 in
set_option maxHeartbeats 1000000 in
theorem List_c {v : Value} {c : By} {B : Nat → Prop} {w : World} (hb : SlR w B v 1 c.length (bvs c)) (hB : ∀ b, B b → b < w.heap.size) :
    Ret Try.prog 36 #[v] w (fun u w' => (∃ cs, u = .agg cs.toArray ∧ LstR w' (Nw w w') cs (chList c)) ∧ Ext w w') := by
  refine k_enter1 Try.func36 rfl Try.ntmps36 rfl ?_
  have hE : Ext w w := Fr.refl _ _
  refine k_seq ?_
  refine k_region ?_
  refine kl_ow rfl (ow_alloc I47 Z47 rfl (fun w1 b0 hb0 hf0 he0 hz0 => ?_))
  have hE := hf0
  replace hb := hb.keep hf0 (fun _ _ h => h)
  replace hb0 := bx_eq hb0 (show _ = ([Value.int .i64 0, Value.int .i64 0] ++ List.replicate 32 (Value.int .u8 0) ++ [Value.slice none 0 0] ++ List.replicate 64 (Value.int .u8 0) : List Value) from rfl)
  refine kl_nil ?_
  refine x_seq ?_
  refine k_seq ?_
  refine k_region ?_
  refine kl_val (y_move) rfl rfl rfl ?_
  refine kl_ow rfl (ow_call2 fn53 rfl rfl rfl rfl (number_c hb (i := 1) (by omega)) (kret_ret (fun u w2 ⟨hu, hE'⟩ => ?_)))
  subst hu
  have hn := nm_le (c := c) (i := 1) (by omega)
  replace hb := hb.keep hE' (fun _ _ h => h)
  replace hE := hE.trans hE'
  replace hb0 := hb0.keep hE' (fun h => h)
  refine kl_val (y_move) rfl rfl rfl ?_
  refine kl_ow rfl (ow_call2 fn53 rfl rfl rfl rfl (number_c hb (i := 2) (by omega)) (kret_ret (fun u w3 ⟨hu, hE'⟩ => ?_)))
  subst hu
  have hn := nm_le (c := c) (i := 2) (by omega)
  replace hb := hb.keep hE' (fun _ _ h => h)
  replace hE := hE.trans hE'
  replace hb0 := hb0.keep hE' (fun h => h)
  refine kl_val (y_move) rfl rfl rfl ?_
  refine kl_ow rfl (ow_call2 fn54 rfl rfl rfl rfl (key_c hb (i := 3) (by omega)) (kret_ret (fun u w4 ⟨hu, hE'⟩ => ?_)))
  subst hu
  replace hb := hb.keep hE' (fun _ _ h => h)
  replace hE := hE.trans hE'
  replace hb0 := hb0.keep hE' (fun h => h)
  refine kl_val (y_move) rfl rfl rfl ?_
  refine kl_ow rfl (ow_call2 fn53 rfl rfl rfl rfl (number_c hb (i := 4) (by omega)) (kret_ret (fun u w5 ⟨hu, hE'⟩ => ?_)))
  subst hu
  have hn := nm_le (c := c) (i := 4) (by omega)
  replace hb := hb.keep hE' (fun _ _ h => h)
  replace hE := hE.trans hE'
  replace hb0 := hb0.keep hE' (fun h => h)
  refine kl_val (Y.cast (v' := bv (UInt8.ofNat (nm c 4))) (y_conv_int ⟨_, Try.underlying3⟩ Try.underlying5 rfl) (byteNat _)) rfl rfl rfl ?_
  refine kl_val (y_build (cells := (bvs (sigOf c 4)).toArray) rfl (by kernel_rfl)) rfl rfl rfl ?_
  refine kl_val (y_build (cells := (lstCells (chList0 c) (.slice none 0 0)).toArray) rfl (by kernel_rfl)) rfl rfl rfl ?_
  have hlt0 := hb0.lt
  refine kl_ow rfl (ow_alloc I47 Z47 rfl (fun w6 b3 hb3 hf3 he3 hz3 => ?_))
  replace hb := hb.keep hf3 (fun _ _ h => h)
  replace hb0 := hb0.keep hf3 (fun h => h)
  have hsz := hE.size
  replace hE := hE.trans hf3
  replace hb3 := bx_eq hb3 (show _ = ([Value.int .i64 0, Value.int .i64 0] ++ List.replicate 32 (Value.int .u8 0) ++ [Value.slice none 0 0] ++ List.replicate 64 (Value.int .u8 0) : List Value) from rfl)
  refine kl_ow rfl (ow_store (b := b3) (o := 0) I47 S47 rfl (v := .agg (lstCells (chList0 c) (.slice none 0 0)).toArray) (xs := lstCells (chList0 c) (.slice none 0 0)) rfl hb3 rfl (lst_len (x := chList0 c) (keyOf_len _ _) (sigOf_len _ _)) (by rw [(lst_len (x := chList0 c) (keyOf_len _ _) (sigOf_len _ _))]; simp) (lst_one rfl) (fun wA hb9 hf9 hz9 => ?_))
  replace hb3 := bx_eq hb9 (splice_all (by rw [(lst_len (x := chList0 c) (keyOf_len _ _) (sigOf_len _ _))]; simp))
  replace hb := hb.keep hf9 (fun j hj e => by have e' : j = b3 := e; have := hB j hj; omega)
  replace hb0 := hb0.keep hf9 (fun e => by have e' : b0 = b3 := e; omega)
  replace hE := ext_store hE hf9 (by omega)
  have h03 : b0 ≠ b3 := by omega
  have h3A : b3 < wA.heap.size := hb3.lt
  have h0A : b0 < wA.heap.size := hb0.lt
  have hwb : w.heap.size ≤ b0 ∧ w.heap.size ≤ b3 := by omega
  clear hlt0 hsz he0 hz0 he3 hz3 hf9 hf3 hf0 hz9
  refine kl_nil ?_
  refine x_seq ?_
  refine k_seq ?_
  refine k_seq ?_
  refine k_region ?_
  refine kl_val (y_assign) rfl rfl rfl ?_
  refine kl_nil ?_
  refine x_seq ?_
  refine k_block ?_
  refine k_loop (fun m ρ w' => ∃ (j : Nat) (dv : Value), ρ 0 = v ∧ ρ 2 = .pointer (some ⟨b0, 0, none⟩) ∧ ρ 3 = .pointer (some ⟨b3, 0, none⟩) ∧ ρ 4 = .int .i64 (j : Int) ∧ j ≤ nm c 5 % 5 ∧ m = nm c 5 % 5 - j ∧ Ext w w' ∧ SlR w' B v 1 c.length (bvs c) ∧ Bx w' b0 47 ([Value.int .i64 0, Value.int .i64 0] ++ List.replicate 32 (Value.int .u8 0) ++ [Value.slice none 0 0] ++ List.replicate 64 (Value.int .u8 0) : List Value) ∧ Bx w' b3 47 (lstCells (chList0 c) dv) ∧ OwnX IdKeyR 33 122 w' (New wA) dv ((List.range j).map (chDev c)) ∧ wA.heap.size ≤ w'.heap.size) (nm c 5 % 5) ⟨0, .slice none 0 0, rfl, rfl, rfl, rfl, by omega, rfl, hE, hb, hb0, hb3, OwnX.nil, Nat.le_refl _⟩ ?_
  have hEA := hE.size
  clear hb hb0 hb3 hE
  rintro m ρ w1 ⟨j, dv, e0, e2, e3, e4, hj, rfl, hE, hb, hb0, hb3, hX, hsA⟩
  obtain ⟨σ, rfl⟩ : ∃ σ, ρ = upd (upd (upd (upd σ 0 v) 2 (.pointer (some ⟨b0, 0, none⟩))) 3 (.pointer (some ⟨b3, 0, none⟩))) 4 (.int .i64 (j : Int)) := ⟨ρ, by rw [upd_self ρ e0, upd_self ρ e2, upd_self ρ e3, upd_self ρ e4]⟩
  clear e0 e2 e3 e4
  refine k_seq ?_
  refine k_seq ?_
  refine k_region ?_
  refine kl_val (y_move) rfl rfl rfl ?_
  refine kl_val (y_move) rfl rfl rfl ?_
  refine kl_ow rfl (ow_call2 fn53 rfl rfl rfl rfl (number_c hb (i := 5) (by omega)) (kret_ret (fun u w2 ⟨hu, hE'⟩ => ?_)))
  subst hu
  have hn := nm_le (c := c) (i := 5) (by omega)
  replace hb := hb.keep hE' (fun _ _ h => h)
  replace hE := hE.trans hE'
  replace hb0 := hb0.keep hE' (fun h => h)
  replace hb3 := hb3.keep hE' (fun h => h)
  replace hX := hX.keep hE' (fun _ _ h => h) (fun _ _ h => ⟨h.len, h.eq⟩)
  replace hsA := Nat.le_trans hsA hE'.size
  refine kl_val (Y.cast (v' := .int .i64 ((nm c 5 % 5 : Nat) : Int)) (y_rem' rfl rfl (by omega) (by omega)) (congrArg (Value.int .i64) (by omega))) rfl rfl rfl ?_
  refine kl_val (y_lss rfl rfl) rfl rfl rfl ?_
  refine kl_nil ?_
  refine x_seq ?_
  refine k_condp rfl (fun hlt => ?_) (fun hlt => ?_)
  · skip
    refine k_skip ?_
    refine x_seq ?_
    refine k_seq ?_
    refine k_block ?_
    refine k_regionD (S := fun w' => w'.cell? ((⟨b3, 0, none⟩ : Addr).add 34) = some dv) [14] [(0, true), (1, true), (2, true), (3, true), (4, true), (6, true), (7, true), (8, true), (5, false), (9, false), (10, true), (11, false), (12, false), (13, true), (14, false)] mixed (fun _ _ _ _ _ h => h) (by kernel_rfl) ?_
    have hE' : Ext w2 w2.drew := Fr.drew1 _ _
    have hS5 : w2.drew.cell? ((⟨b3, 0, none⟩ : Addr).add 34) = some dv := hE'.cell (hb3.cs.at (lst_get (keyOf_len _ _))) (fun h => h)
    replace hb : SlR w2.drew B v 1 _ _ := hb.keep hE' (fun _ _ h => h)
    replace hE := hE.trans hE'
    replace hb0 := hb0.keep hE' (fun h => h)
    replace hb3 := hb3.keep hE' (fun h => h)
    replace hX := hX.keep hE' (fun _ _ h => h) (fun _ _ h => ⟨h.len, h.eq⟩)
    replace hsA := Nat.le_trans hsA hE'.size
    refine kr_val rfl (hS5) (fun w' hS' => y_fieldAddr Try.underlying47 rfl I43 S43 rfl rfl) rfl rfl rfl ?_
    refine kr_val rfl (hS5) (fun w' hS' => y_load rfl (ld_one Try.underlying43 rfl hS')) rfl rfl rfl ?_
    refine kr_val rfl (hS5) (fun w' hS' => y_move) rfl rfl rfl ?_
    refine kr_val rfl (hS5) (fun w' hS' => y_move) rfl rfl rfl ?_
    refine kr_val rfl (hS5) (fun w' hS' => Y.cast (v' := .int .i64 ((6 + j : Nat) : Int)) (y_add64 rfl rfl (by omega)) (congrArg (Value.int .i64) (by omega))) rfl rfl rfl ?_
    refine kr_val rfl (hS5) (fun w' hS' => y_move) rfl rfl rfl ?_
    refine kr_val rfl (hS5) (fun w' hS' => y_move) rfl rfl rfl ?_
    refine kr_val rfl (hS5) (fun w' hS' => Y.cast (v' := .int .i64 ((7 + j : Nat) : Int)) (y_add64 rfl rfl (by omega)) (congrArg (Value.int .i64) (by omega))) rfl rfl rfl ?_
    refine kr_ow rfl rfl (ow_call2 fn53 rfl rfl rfl rfl (number_c hb (i := 6 + j) (by omega)) (kret_ret (fun u w3 ⟨hu, hE'⟩ => ?_)))
    subst hu
    have hn := nm_le (c := c) (i := 6 + j) (by omega)
    replace hb := hb.keep hE' (fun _ _ h => h)
    replace hE := hE.trans hE'
    replace hb0 := hb0.keep hE' (fun h => h)
    replace hb3 := hb3.keep hE' (fun h => h)
    replace hX := hX.keep hE' (fun _ _ h => h) (fun _ _ h => ⟨h.len, h.eq⟩)
    replace hsA := Nat.le_trans hsA hE'.size
    replace hS5 := hE'.cell hS5 (fun h => h)
    refine ⟨(fun _ => hS5), ?_⟩
    refine kr_ow rfl rfl (ow_call2 fn54 rfl rfl rfl rfl (key_c hb (i := 7 + j) (by omega)) (kret_ret (fun u w4 ⟨hu, hE'⟩ => ?_)))
    subst hu
    replace hb := hb.keep hE' (fun _ _ h => h)
    replace hE := hE.trans hE'
    replace hb0 := hb0.keep hE' (fun h => h)
    replace hb3 := hb3.keep hE' (fun h => h)
    replace hX := hX.keep hE' (fun _ _ h => h) (fun _ _ h => ⟨h.len, h.eq⟩)
    replace hsA := Nat.le_trans hsA hE'.size
    replace hS5 := hE'.cell hS5 (fun h => h)
    refine ⟨(fun _ => hS5), ?_⟩
    refine kr_val rfl (hS5) (fun w' hS' => y_build (cells := ([i64 (nm c (6 + j))] ++ bvs (keyOf c (7 + j))).toArray) rfl (by kernel_rfl)) rfl rfl rfl ?_
    refine kr_ow rfl rfl (ow_slice1 Try.underlying43 I122 Z122 S122 rfl rfl (v := .agg ([i64 (nm c (6 + j))] ++ bvs (keyOf c (7 + j))).toArray) rfl (by decide) (by decide) rfl (fun w5 b5 hb5 hf5 he5 hz5 => ?_))
    replace hb := hb.keep hf5 (fun _ _ h => h)
    replace hE := hE.trans hf5
    replace hb0 := hb0.keep hf5 (fun h => h)
    replace hb3 := hb3.keep hf5 (fun h => h)
    replace hX := hX.keep hf5 (fun _ _ h => h) (fun _ _ h => ⟨h.len, h.eq⟩)
    replace hsA := Nat.le_trans hsA hf5.size
    replace hS5 := hf5.cell hS5 (fun h => h)
    refine ⟨(fun _ => hS5), ?_⟩
    refine kr_ow rfl rfl (ow_appendX Try.underlying43 I122 Z122 S122 rfl (by decide) (by rw [B122]; decide) rfl hX rfl (cs := ([i64 (nm c (6 + j))] ++ bvs (keyOf c (7 + j)))) (x := chDev c j) (bx_eq hb5 (by simp [Value.cells])) (by simp [keyOf_len]) (idk_one _ _) ⟨keyOf_len _ _, rfl⟩ (fun q hq => Nat.le_trans hsA hq) (by simp; omega) rfl (fun v' w' hf hle cs x hR => ⟨hR.len, hR.eq⟩) (fun dv' w6 hX' hf6 => ?_))
    have hno : ∀ q, ownB dv q → wA.heap.size ≤ q := fun q h => hX.new _ h
    replace hb := hb.keep hf6 (fun q hq h => by have := hno q h; have := hB q hq; omega)
    replace hb0 := hb0.keep hf6 (fun h => by have := hno _ h; omega)
    replace hb3 := hb3.keep hf6 (fun h => by have := hno _ h; omega)
    replace hS5 := hf6.cell hS5 (fun h => by have := hno _ h; exact absurd this (Nat.not_le.2 h3A))
    replace hE := hE.trans' hf6 (fun q hq h => by have := hno q h; omega)
    replace hsA := Nat.le_trans hsA hf6.size
    replace hX := hX'
    clear hno
    refine ⟨(fun _ => hS5), ?_⟩
    refine kr_val rfl (hS5) (fun w' hS' => y_fieldAddr Try.underlying47 rfl I43 S43 rfl rfl) rfl rfl rfl ?_
    refine kr_ow rfl rfl (ow_store (b := b3) (o := 34) I43 S43 rfl (v := dv') (xs := [dv']) rfl hb3 hX.one.2 rfl (by rw [(lst_len (x := chList0 c) (keyOf_len _ _) (sigOf_len _ _))]; simp) (One'.single hX.one.1) (fun w7 hb7 hf7 hz7 => ?_))
    replace hb3 := bx_eq hb7 (lst_dev (x := chList0 c) (keyOf_len _ _))
    replace hb := hb.keep hf7 (fun q hq e => by have e' : q = b3 := e; have := hB q hq; omega)
    replace hb0 := hb0.keep hf7 (fun e => h03 e)
    replace hE := ext_store hE hf7 hwb.2
    replace hX := hX.keep hf7 (fun q hq e => by have e' : q = b3 := e; unfold New at hq; omega) (fun _ _ h => ⟨h.len, h.eq⟩)
    replace hsA := Nat.le_trans hsA hf7.size
    refine ⟨(fun h => absurd h (by decide)), ?_⟩
    refine kr_nil ?_
    refine x_blk ?_
    refine x_seq ?_
    refine k_region ?_
    refine kl_val (y_move) rfl rfl rfl ?_
    refine kl_val (Y.cast (v' := .int .i64 ((j + 1 : Nat) : Int)) (y_add64 rfl rfl (by omega)) (congrArg (Value.int .i64) (by omega))) rfl rfl rfl ?_
    refine kl_val (y_assign) rfl rfl rfl ?_
    refine kl_nil ?_
    refine x_lpN (nm c 5 % 5 - (j + 1)) (by omega) ⟨j + 1, dv', rfl, rfl, rfl, rfl, by omega, rfl, hE, hb, hb0, hb3, by rw [← range_next]; exact hX, hsA⟩
  · skip
    obtain rfl : j = nm c 5 % 5 := by omega
    refine k_exit ?_
    refine x_seqX ?_
    refine x_lpX ?_
    refine x_blkX ?_
    refine x_seq ?_
    refine k_seq ?_
    refine k_region ?_
    refine kl_val (y_load rfl (ld_aggB Try.underlying47 rfl I47 S47 (lst_len (x := chList0 c) (keyOf_len _ _) (sigOf_len _ _)) hb3.cs)) rfl rfl rfl ?_
    refine kl_ow rfl (ow_store (b := b0) (o := 0) I47 S47 rfl (v := .agg (lstCells (chList0 c) dv).toArray) (xs := lstCells (chList0 c) dv) rfl hb0 rfl (lst_len (x := chList0 c) (keyOf_len _ _) (sigOf_len _ _)) (by rw [(lst_len (x := chList0 c) (keyOf_len _ _) (sigOf_len _ _))]; simp) (lst_one hX.one.1) (fun wg hbg hfg hzg => ?_))
    replace hb0 := bx_eq hbg (splice_all (by rw [(lst_len (x := chList0 c) (keyOf_len _ _) (sigOf_len _ _))]; simp))
    replace hE := ext_store hE hfg hwb.1
    replace hX := hX.keep hfg (fun q hq e => by have e' : q = b0 := e; unfold New at hq; omega) (fun _ _ h => ⟨h.len, h.eq⟩)
    have hR : LstR wg (Nw w wg) (lstCells (chList0 c) dv) (chList c) := ⟨keyOf_len _ _, sigOf_len _ _, ⟨dv, (hX.sl (fun _ _ h => ⟨h.len, h.eq⟩)).mono (fun q hq => ⟨Nat.le_trans hEA hq.1, hq.2⟩) (fun _ _ h => ⟨h.len, h.eq⟩), rfl⟩⟩
    refine kl_nil ?_
    refine x_seq ?_
    refine k_ret ?_
    exact k_retC rfl rfl (ld_aggB Try.underlying47 rfl I47 S47 (lst_len (x := chList0 c) (keyOf_len _ _) (sigOf_len _ _)) hb0.cs) ⟨_, rfl, ⟨_, rfl, hR⟩, hE⟩

end Go.Proofs.Ythpocekigliomaa.K
