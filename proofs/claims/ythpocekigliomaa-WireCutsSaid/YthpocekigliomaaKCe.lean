/- What the laws draw: accounts. Condition: the bytes are there. -/
import Derived.Test.YthpocekigliomaaKG
import Derived.Test.YthpocekigliomaaKCd
namespace Go.Proofs.Ythpocekigliomaa.K
open Go

set_option maxRecDepth 100000 in
set_option maxHeartbeats 1000000 in
theorem Account_c {v : Value} {c : By} {B : Nat → Prop} {w : World} (hb : SlR w B v 1 c.length (bvs c)) (hB : ∀ b, B b → b < w.heap.size) :
    Ret Try.prog 29 #[v] w (fun u w' => (∃ cs, u = .agg cs.toArray ∧ AcctR w' (fun b => b < w'.heap.size) cs (chAcct c)) ∧ Ext w w') := by
  refine k_enter1 Try.func29 rfl Try.ntmps29 rfl ?_
  have hE : Ext w w := Fr.refl _ _
  refine k_seq ?_
  refine k_region ?_
  refine kl_ow rfl (ow_alloc I72 Z72 rfl (fun w1 b0 hb0 hf0 he0 hz0 => ?_))
  have hE := hf0
  replace hb := hb.keep hf0 (fun _ _ h => h)
  replace hb0 := bx_eq hb0 (show _ = ([Value.int .i64 0, Value.string ByteArray.empty, Value.int .i64 0, Value.int .i64 0, Value.int .i64 0, Value.int .i64 0] ++ List.replicate 32 (Value.int .u8 0) ++ [Value.slice none 0 0] ++ List.replicate 64 (Value.int .u8 0) ++ [Value.slice none 0 0, Value.slice none 0 0] : List Value) from rfl)
  refine kl_nil ?_
  refine x_seq ?_
  refine k_seq ?_
  refine k_region ?_
  refine kl_val (y_move) rfl rfl rfl ?_
  refine kl_ow rfl (ow_call2 fn53 rfl rfl rfl rfl (number_c hb (i := 0) (by omega)) (kret_ret (fun u w2 ⟨hu, hE'⟩ => ?_)))
  subst hu
  have hn := nm_le (c := c) (i := 0) (by omega)
  replace hb := hb.keep hE' (fun _ _ h => h)
  replace hE := hE.trans hE'
  replace hb0 := hb0.keep hE' (fun h => h)
  have := hE'.size
  refine kl_val (y_move) rfl rfl rfl ?_
  refine kl_ow rfl (ow_call2 fn53 rfl rfl rfl rfl (number_c hb (i := 1) (by omega)) (kret_ret (fun u w3 ⟨hu, hE'⟩ => ?_)))
  subst hu
  have hn := nm_le (c := c) (i := 1) (by omega)
  replace hb := hb.keep hE' (fun _ _ h => h)
  replace hE := hE.trans hE'
  replace hb0 := hb0.keep hE' (fun h => h)
  have := hE'.size
  refine kl_val (Y.cast (v' := .int .i64 ((nm c 1 % 3 : Nat) : Int)) (y_rem' rfl rfl (by omega) (by omega)) (congrArg (Value.int .i64) (by omega))) rfl rfl rfl ?_
  refine kl_val (y_move) rfl rfl rfl ?_
  refine kl_ow rfl (ow_call2 fn53 rfl rfl rfl rfl (number_c hb (i := 2) (by omega)) (kret_ret (fun u w4 ⟨hu, hE'⟩ => ?_)))
  subst hu
  have hn := nm_le (c := c) (i := 2) (by omega)
  replace hb := hb.keep hE' (fun _ _ h => h)
  replace hE := hE.trans hE'
  replace hb0 := hb0.keep hE' (fun h => h)
  have := hE'.size
  refine kl_val (y_move) rfl rfl rfl ?_
  refine kl_ow rfl (ow_call1 fn36 rfl rfl rfl (List_c hb (fun j hj => by have := hB j hj; have := hE.size; omega)) (kret_ret (fun u w5 ⟨⟨lc, hu, hL⟩, hE'⟩ => ?_)))
  subst hu
  replace hb := hb.keep hE' (fun _ _ h => h)
  replace hE := hE.trans hE'
  replace hb0 := hb0.keep hE' (fun h => h)
  have := hE'.size
  obtain ⟨lv, rfl, hL, _, _⟩ := hL.open
  have hlv := hL.one
  refine kl_val (y_build (cells := (acctCells (chAcct c) lv (.slice none 0 0) (.slice none 0 0)).toArray) rfl (by kernel_rfl)) rfl rfl rfl ?_
  have hlt0 := hb0.lt
  have hsz := hE.size
  refine kl_ow rfl (ow_alloc I72 Z72 rfl (fun w8 b3 hb3 hf3 he3 hz3 => ?_))
  replace hb := hb.keep hf3 (fun _ _ h => h)
  replace hb0 := hb0.keep hf3 (fun h => h)
  replace hL := hL.keep hf3 (fun _ _ h => h) (fun _ _ h => ⟨h.len, h.eq⟩)
  replace hE := hE.trans hf3
  replace hb3 := bx_eq hb3 (show _ = ([Value.int .i64 0, Value.string ByteArray.empty, Value.int .i64 0, Value.int .i64 0, Value.int .i64 0, Value.int .i64 0] ++ List.replicate 32 (Value.int .u8 0) ++ [Value.slice none 0 0] ++ List.replicate 64 (Value.int .u8 0) ++ [Value.slice none 0 0, Value.slice none 0 0] : List Value) from rfl)
  refine kl_ow rfl (ow_store (b := b3) (o := 0) I72 S72 rfl (v := .agg (acctCells (chAcct c) lv (.slice none 0 0) (.slice none 0 0)).toArray) (xs := acctCells (chAcct c) lv (.slice none 0 0) (.slice none 0 0)) rfl hb3 rfl (acct_len (chAcct_i c) (chAcct_g c)) (by rw [(acct_len (chAcct_i c) (chAcct_g c))]; simp) (acct_one hlv.1 rfl rfl) (fun wA hb9 hf9 hz9 => ?_))
  replace hb3 := bx_eq hb9 (splice_all (by rw [(acct_len (chAcct_i c) (chAcct_g c))]; simp))
  replace hb := hb.keep hf9 (fun j hj e => by have e' : j = b3 := e; have := hB j hj; omega)
  replace hb0 := hb0.keep hf9 (fun e => by have e' : b0 = b3 := e; omega)
  replace hL := (hL.mono (B' := (fun q => q < wA.heap.size ∧ q ≠ b3 ∧ q ≠ b0)) (fun q hq => ⟨by have := hq.2; omega, by have := hq.2; omega, by have := hq.1; omega⟩) (fun _ _ h => ⟨h.len, h.eq⟩)).keep hf9 (fun q hq e => hq.2.1 e) (fun _ _ h => ⟨h.len, h.eq⟩)
  replace hE := ext_store hE hf9 (by omega)
  have h03 : b0 ≠ b3 := by omega
  have hwb : w.heap.size ≤ b0 ∧ w.heap.size ≤ b3 := by omega
  have h3A : b3 < wA.heap.size := hb3.lt
  have h0A : b0 < wA.heap.size := hb0.lt
  have hEA := hE.size
  clear hlt0 hsz he0 hz0 he3 hz3 hf9 hf3 hf0 hz9
  refine kl_nil ?_
  refine x_seq ?_
  refine k_seq ?_
  refine k_seq ?_
  refine k_region ?_
  refine kl_val (y_assign) rfl rfl rfl ?_
  refine kl_nil ?_
  refine x_seq ?_
  refine k_block ?_
  refine k_loop (fun m ρ w' => ∃ (j : Nat) (sv tv : Value) (T : Nat → Prop), ρ 0 = v ∧ ρ 2 = .pointer (some ⟨b0, 0, none⟩) ∧ ρ 3 = .pointer (some ⟨b3, 0, none⟩) ∧ ρ 4 = .int .i64 (j : Int) ∧ j ≤ nm c 4 % 4 ∧ m = nm c 4 % 4 - j ∧ Ext w w' ∧ SlR w' B v 1 c.length (bvs c) ∧ Bx w' b0 72 ([Value.int .i64 0, Value.string ByteArray.empty, Value.int .i64 0, Value.int .i64 0, Value.int .i64 0, Value.int .i64 0] ++ List.replicate 32 (Value.int .u8 0) ++ [Value.slice none 0 0] ++ List.replicate 64 (Value.int .u8 0) ++ [Value.slice none 0 0, Value.slice none 0 0] : List Value) ∧ Bx w' b3 72 (acctCells (chAcct c) lv sv tv) ∧ SlX IdKeyR 33 w' (fun q => q < wA.heap.size ∧ q ≠ b3 ∧ q ≠ b0) lv (chList c).devices ∧ OwnX (fun w' (B2 : Nat → Prop) cs x => SlotR w' (fun q => B q ∨ B2 q) cs x) 101 145 w' (fun q => New wA q ∧ ¬ T q) sv ((List.range j).map (chSlot c)) ∧ OwnX KeyR 32 34 w' (fun q => New wA q ∧ T q) tv ((List.range j).map (keyOf c)) ∧ (∀ q, T q → q < w'.heap.size) ∧ wA.heap.size ≤ w'.heap.size) (nm c 4 % 4) ⟨0, .slice none 0 0, .slice none 0 0, fun _ => False, rfl, rfl, rfl, rfl, by omega, rfl, hE, hb, hb0, hb3, hL, OwnX.nil, OwnX.nil, fun _ h => h.elim, Nat.le_refl _⟩ ?_
  clear hb hb0 hb3 hE hL
  rintro m ρ w1 ⟨j, sv, tv, T, e0, e2, e3, e4, hj, rfl, hE, hb, hb0, hb3, hL, hX, hY, hT, hsA⟩
  obtain ⟨σ, rfl⟩ : ∃ σ, ρ = upd (upd (upd (upd σ 0 v) 2 (.pointer (some ⟨b0, 0, none⟩))) 3 (.pointer (some ⟨b3, 0, none⟩))) 4 (.int .i64 (j : Int)) := ⟨ρ, by rw [upd_self ρ e0, upd_self ρ e2, upd_self ρ e3, upd_self ρ e4]⟩
  clear e0 e2 e3 e4
  refine k_seq ?_
  refine k_seq ?_
  refine k_region ?_
  refine kl_val (y_move) rfl rfl rfl ?_
  refine kl_val (y_move) rfl rfl rfl ?_
  refine kl_ow rfl (ow_call2 fn53 rfl rfl rfl rfl (number_c hb (i := 4) (by omega)) (kret_ret (fun u w2 ⟨hu, hE'⟩ => ?_)))
  subst hu
  have hn := nm_le (c := c) (i := 4) (by omega)
  replace hb := hb.keep hE' (fun _ _ h => h)
  replace hE := hE.trans hE'
  replace hb0 := hb0.keep hE' (fun h => h)
  replace hb3 := hb3.keep hE' (fun h => h)
  replace hL := hL.keep hE' (fun _ _ h => h) (fun _ _ h => ⟨h.len, h.eq⟩)
  replace hX := hX.keep hE' (fun _ _ h => h) (fun cs x h => (h.keep hE' (fun _ _ h => h)).mono (fun q hq => hq.imp id (bes_le hE' q)))
  replace hY := hY.keep hE' (fun _ _ h => h) (fun _ _ h => ⟨h.len, h.eq⟩)
  replace hT := fun q hq => Nat.lt_of_lt_of_le (hT q hq) (hE').size
  replace hsA := Nat.le_trans hsA (hE').size
  refine kl_val (Y.cast (v' := .int .i64 ((nm c 4 % 4 : Nat) : Int)) (y_rem' rfl rfl (by omega) (by omega)) (congrArg (Value.int .i64) (by omega))) rfl rfl rfl ?_
  refine kl_val (y_lss rfl rfl) rfl rfl rfl ?_
  refine kl_nil ?_
  refine x_seq ?_
  refine k_condp rfl (fun hlt => ?_) (fun hlt => ?_)
  · skip
    obtain ⟨N1, hN1⟩ : ∃ N, N = w2.heap.size := ⟨_, rfl⟩
    have hTl : ∀ q, T q → q < N1 := fun q hq => hN1 ▸ hT q hq
    have hsl : ∀ q, ownB sv q → q < N1 := fun q hq => hN1 ▸ hX.lt q hq
    have hA1 : wA.heap.size ≤ N1 := hN1 ▸ hsA
    have h1w : N1 ≤ w2.heap.size := Nat.le_of_eq hN1
    clear hN1
    refine k_skip ?_
    refine x_seq ?_
    refine k_seq ?_
    refine k_block ?_
    refine k_seq ?_
    refine k_regionD (S := fun w' => w'.cell? ((⟨b3, 0, none⟩ : Addr).add 103) = some sv) [28] [(0, true), (1, true), (2, true), (3, true), (4, true), (6, true), (7, true), (8, true), (11, true), (12, true), (13, true), (15, true), (16, true), (17, true), (19, true), (20, true), (21, true), (5, false), (9, false), (10, true), (14, false), (18, false), (22, false), (23, false), (24, true), (25, false), (26, false), (27, true), (28, false)] mixed (fun _ _ _ _ _ h => h) (by kernel_rfl) ?_
    have hE' : Ext w2 w2.drew := Fr.drew1 _ _
    have hS5 : w2.drew.cell? ((⟨b3, 0, none⟩ : Addr).add 103) = some sv := hE'.cell (hb3.cs.at (acct_gets (chAcct_i c) (chAcct_g c))) (fun h => h)
    replace hb : SlR w2.drew B v 1 _ _ := hb.keep hE' (fun _ _ h => h)
    replace hE := hE.trans hE'
    replace hb0 := hb0.keep hE' (fun h => h)
    replace hb3 := hb3.keep hE' (fun h => h)
    replace hL := hL.keep hE' (fun _ _ h => h) (fun _ _ h => ⟨h.len, h.eq⟩)
    replace hX := hX.keep hE' (fun _ _ h => h) (fun cs x h => (h.keep hE' (fun _ _ h => h)).mono (fun q hq => hq.imp id (bes_le hE' q)))
    replace hY := hY.keep hE' (fun _ _ h => h) (fun _ _ h => ⟨h.len, h.eq⟩)
    replace hT := fun q hq => Nat.lt_of_lt_of_le (hT q hq) (hE').size
    replace hsA := Nat.le_trans hsA (hE').size
    replace h1w := Nat.le_trans h1w hE'.size
    refine kr_val rfl (hS5) (fun w' hS' => y_fieldAddr Try.underlying72 rfl I69 S69 rfl rfl) rfl rfl rfl ?_
    refine kr_val rfl (hS5) (fun w' hS' => y_load rfl (ld_one Try.underlying69 rfl hS')) rfl rfl rfl ?_
    refine kr_val rfl (hS5) (fun w' hS' => y_move) rfl rfl rfl ?_
    refine kr_val rfl (hS5) (fun w' hS' => y_move) rfl rfl rfl ?_
    refine kr_val rfl (hS5) (fun w' hS' => Y.cast (v' := .int .i64 ((5 + j : Nat) : Int)) (y_add64 rfl rfl (by omega)) (congrArg (Value.int .i64) (by omega))) rfl rfl rfl ?_
    refine kr_val rfl (hS5) (fun w' hS' => y_move) rfl rfl rfl ?_
    refine kr_val rfl (hS5) (fun w' hS' => y_move) rfl rfl rfl ?_
    refine kr_val rfl (hS5) (fun w' hS' => Y.cast (v' := .int .i64 ((6 + j : Nat) : Int)) (y_add64 rfl rfl (by omega)) (congrArg (Value.int .i64) (by omega))) rfl rfl rfl ?_
    refine kr_val rfl (hS5) (fun w' hS' => y_move) rfl rfl rfl ?_
    refine kr_val rfl (hS5) (fun w' hS' => y_move) rfl rfl rfl ?_
    refine kr_val rfl (hS5) (fun w' hS' => Y.cast (v' := .int .i64 ((7 + j : Nat) : Int)) (y_add64 rfl rfl (by omega)) (congrArg (Value.int .i64) (by omega))) rfl rfl rfl ?_
    refine kr_val rfl (hS5) (fun w' hS' => y_move) rfl rfl rfl ?_
    refine kr_val rfl (hS5) (fun w' hS' => y_move) rfl rfl rfl ?_
    refine kr_val rfl (hS5) (fun w' hS' => Y.cast (v' := .int .i64 ((8 + j : Nat) : Int)) (y_add64 rfl rfl (by omega)) (congrArg (Value.int .i64) (by omega))) rfl rfl rfl ?_
    refine kr_val rfl (hS5) (fun w' hS' => y_move) rfl rfl rfl ?_
    refine kr_val rfl (hS5) (fun w' hS' => y_move) rfl rfl rfl ?_
    refine kr_val rfl (hS5) (fun w' hS' => Y.cast (v' := .int .i64 ((9 + j : Nat) : Int)) (y_add64 rfl rfl (by omega)) (congrArg (Value.int .i64) (by omega))) rfl rfl rfl ?_
    refine kr_ow rfl rfl (ow_call2 fn53 rfl rfl rfl rfl (number_c hb (i := 5 + j) (by omega)) (kret_ret (fun u w3 ⟨hu, hE'⟩ => ?_)))
    subst hu
    have hn := nm_le (c := c) (i := 5 + j) (by omega)
    replace hb := hb.keep hE' (fun _ _ h => h)
    replace hE := hE.trans hE'
    replace hb0 := hb0.keep hE' (fun h => h)
    replace hb3 := hb3.keep hE' (fun h => h)
    replace hL := hL.keep hE' (fun _ _ h => h) (fun _ _ h => ⟨h.len, h.eq⟩)
    replace hX := hX.keep hE' (fun _ _ h => h) (fun cs x h => (h.keep hE' (fun _ _ h => h)).mono (fun q hq => hq.imp id (bes_le hE' q)))
    replace hY := hY.keep hE' (fun _ _ h => h) (fun _ _ h => ⟨h.len, h.eq⟩)
    replace hT := fun q hq => Nat.lt_of_lt_of_le (hT q hq) (hE').size
    replace hsA := Nat.le_trans hsA (hE').size
    replace h1w := Nat.le_trans h1w hE'.size
    replace hS5 := hE'.cell hS5 (fun h => h)
    refine ⟨(fun _ => hS5), ?_⟩
    refine kr_ow rfl rfl (ow_call2 fn53 rfl rfl rfl rfl (number_c hb (i := 6 + j) (by omega)) (kret_ret (fun u w4 ⟨hu, hE'⟩ => ?_)))
    subst hu
    have hn := nm_le (c := c) (i := 6 + j) (by omega)
    replace hb := hb.keep hE' (fun _ _ h => h)
    replace hE := hE.trans hE'
    replace hb0 := hb0.keep hE' (fun h => h)
    replace hb3 := hb3.keep hE' (fun h => h)
    replace hL := hL.keep hE' (fun _ _ h => h) (fun _ _ h => ⟨h.len, h.eq⟩)
    replace hX := hX.keep hE' (fun _ _ h => h) (fun cs x h => (h.keep hE' (fun _ _ h => h)).mono (fun q hq => hq.imp id (bes_le hE' q)))
    replace hY := hY.keep hE' (fun _ _ h => h) (fun _ _ h => ⟨h.len, h.eq⟩)
    replace hT := fun q hq => Nat.lt_of_lt_of_le (hT q hq) (hE').size
    replace hsA := Nat.le_trans hsA (hE').size
    replace h1w := Nat.le_trans h1w hE'.size
    replace hS5 := hE'.cell hS5 (fun h => h)
    refine ⟨(fun _ => hS5), ?_⟩
    refine kr_val rfl (hS5) (fun w' hS' => y_build (cells := (idkCells (chSlot c j).signed).toArray) rfl (by kernel_rfl)) rfl rfl rfl ?_
    refine kr_ow rfl rfl (ow_call2 fn57 rfl rfl rfl rfl (Prekeys_c hb (fun q hq => by have := hB q hq; have := hE.size; omega) (i := 7 + j) (by omega)) (kret_ret (fun ov w5 ⟨hO, hE'⟩ => ?_)))
    replace hb := hb.keep hE' (fun _ _ h => h)
    replace hE := hE.trans hE'
    replace hb0 := hb0.keep hE' (fun h => h)
    replace hb3 := hb3.keep hE' (fun h => h)
    replace hL := hL.keep hE' (fun _ _ h => h) (fun _ _ h => ⟨h.len, h.eq⟩)
    replace hX := hX.keep hE' (fun _ _ h => h) (fun cs x h => (h.keep hE' (fun _ _ h => h)).mono (fun q hq => hq.imp id (bes_le hE' q)))
    replace hY := hY.keep hE' (fun _ _ h => h) (fun _ _ h => ⟨h.len, h.eq⟩)
    replace hT := fun q hq => Nat.lt_of_lt_of_le (hT q hq) (hE').size
    replace hsA := Nat.le_trans hsA (hE').size
    have h1o := h1w
    replace h1w := Nat.le_trans h1w hE'.size
    replace hS5 := hE'.cell hS5 (fun h => h)
    replace hO := hO.mono (B' := fun q => N1 ≤ q ∧ q < w5.heap.size) (fun q hq => ⟨Nat.le_trans h1o hq.1, hq.2⟩) (fun _ _ h => ⟨h.len, h.eq⟩)
    clear h1o
    have hov := hO.one
    obtain ⟨oa, oc, rfl⟩ := hO.form
    have h5w : w5.heap.size ≤ w5.heap.size := Nat.le_refl _
    refine ⟨(fun _ => hS5), ?_⟩
    refine kr_ow rfl rfl (ow_call2 fn53 rfl rfl rfl rfl (number_c hb (i := 8 + j) (by omega)) (kret_ret (fun u w6 ⟨hu, hE'⟩ => ?_)))
    subst hu
    have hn := nm_le (c := c) (i := 8 + j) (by omega)
    replace hb := hb.keep hE' (fun _ _ h => h)
    replace hE := hE.trans hE'
    replace hb0 := hb0.keep hE' (fun h => h)
    replace hb3 := hb3.keep hE' (fun h => h)
    replace hL := hL.keep hE' (fun _ _ h => h) (fun _ _ h => ⟨h.len, h.eq⟩)
    replace hX := hX.keep hE' (fun _ _ h => h) (fun cs x h => (h.keep hE' (fun _ _ h => h)).mono (fun q hq => hq.imp id (bes_le hE' q)))
    replace hY := hY.keep hE' (fun _ _ h => h) (fun _ _ h => ⟨h.len, h.eq⟩)
    replace hT := fun q hq => Nat.lt_of_lt_of_le (hT q hq) (hE').size
    replace hsA := Nat.le_trans hsA (hE').size
    replace h1w := Nat.le_trans h1w hE'.size
    replace hS5 := hE'.cell hS5 (fun h => h)
    replace hO := hO.keep hE' (fun _ _ h => h) (fun _ _ h => ⟨h.len, h.eq⟩)
    replace h5w := Nat.le_trans h5w hE'.size
    refine ⟨(fun _ => hS5), ?_⟩
    refine kr_ow rfl rfl (ow_call2 fn12 rfl rfl rfl rfl (Envelope_c hb (fun q hq => by have := hB q hq; have := hE.size; omega) (i := 9 + j) (by omega)) (kret_ret (fun u w7 ⟨⟨cx, hu, hev⟩, hE'⟩ => ?_)))
    subst hu
    replace hb := hb.keep hE' (fun _ _ h => h)
    replace hE := hE.trans hE'
    replace hb0 := hb0.keep hE' (fun h => h)
    replace hb3 := hb3.keep hE' (fun h => h)
    replace hL := hL.keep hE' (fun _ _ h => h) (fun _ _ h => ⟨h.len, h.eq⟩)
    replace hX := hX.keep hE' (fun _ _ h => h) (fun cs x h => (h.keep hE' (fun _ _ h => h)).mono (fun q hq => hq.imp id (bes_le hE' q)))
    replace hY := hY.keep hE' (fun _ _ h => h) (fun _ _ h => ⟨h.len, h.eq⟩)
    replace hT := fun q hq => Nat.lt_of_lt_of_le (hT q hq) (hE').size
    replace hsA := Nat.le_trans hsA (hE').size
    replace h1w := Nat.le_trans h1w hE'.size
    replace hS5 := hE'.cell hS5 (fun h => h)
    replace hO := hO.keep hE' (fun _ _ h => h) (fun _ _ h => ⟨h.len, h.eq⟩)
    replace h5w := Nat.le_trans h5w hE'.size
    refine ⟨(fun _ => hS5), ?_⟩
    refine kr_ow rfl rfl (ow_slice1 Try.underlying59 I38 Z38 S38 rfl rfl (v := .agg cx.toArray) hev.length (by decide) (by decide) rfl (fun wm b5 hb5 hE' he5 hz5 => ?_))
    have h7 := h1w
    replace hb := hb.keep hE' (fun _ _ h => h)
    replace hE := hE.trans hE'
    replace hb0 := hb0.keep hE' (fun h => h)
    replace hb3 := hb3.keep hE' (fun h => h)
    replace hL := hL.keep hE' (fun _ _ h => h) (fun _ _ h => ⟨h.len, h.eq⟩)
    replace hX := hX.keep hE' (fun _ _ h => h) (fun cs x h => (h.keep hE' (fun _ _ h => h)).mono (fun q hq => hq.imp id (bes_le hE' q)))
    replace hY := hY.keep hE' (fun _ _ h => h) (fun _ _ h => ⟨h.len, h.eq⟩)
    replace hT := fun q hq => Nat.lt_of_lt_of_le (hT q hq) (hE').size
    replace hsA := Nat.le_trans hsA (hE').size
    replace h1w := Nat.le_trans h1w hE'.size
    replace hS5 := hE'.cell hS5 (fun h => h)
    replace hO := hO.keep hE' (fun _ _ h => h) (fun _ _ h => ⟨h.len, h.eq⟩)
    replace hev := hev.keep hE' (fun _ _ h => h)
    replace h5w := Nat.le_trans h5w hE'.size
    have hb5l := hb5.lt
    have hM : SlX EnvR 72 wm (fun q => B q ∨ (N1 ≤ q ∧ q < wm.heap.size)) (.slice (some ⟨b5, 0, none⟩) 1 1) [chEnv c (9 + j)] := slx_one (cs := cx) (by simpa [Value.cells] using hb5.cs) hev.length (.inr ⟨by omega, hb5l⟩) (hev.mono (fun q hq => .inl hq))
    obtain ⟨NM, hNM⟩ : ∃ N, N = wm.heap.size := ⟨_, rfl⟩
    rw [← hNM] at hM
    have hMw : NM ≤ wm.heap.size := Nat.le_of_eq hNM
    clear hNM h7 he5 hz5 hb5l hb5
    refine ⟨(fun _ => hS5), ?_⟩
    refine kr_val rfl (hS5) (fun w' hS' => y_build (cells := (slotCells (chSlot c j) (.slice oa (chPres c (7 + j)).length oc) (.slice (some ⟨b5, 0, none⟩) 1 1)).toArray) rfl (by kernel_rfl)) rfl rfl rfl ?_
    refine kr_ow rfl rfl (ow_slice1 Try.underlying69 I145 Z145 S145 rfl rfl (v := .agg (slotCells (chSlot c j) (.slice oa (chPres c (7 + j)).length oc) (.slice (some ⟨b5, 0, none⟩) 1 1)).toArray) (slot_len z32_len z64_len) (by decide) (by decide) rfl (fun w8 b6 hb6 hE' he6 hz6 => ?_))
    replace hb := hb.keep hE' (fun _ _ h => h)
    replace hE := hE.trans hE'
    replace hb0 := hb0.keep hE' (fun h => h)
    replace hb3 := hb3.keep hE' (fun h => h)
    replace hL := hL.keep hE' (fun _ _ h => h) (fun _ _ h => ⟨h.len, h.eq⟩)
    replace hX := hX.keep hE' (fun _ _ h => h) (fun cs x h => (h.keep hE' (fun _ _ h => h)).mono (fun q hq => hq.imp id (bes_le hE' q)))
    replace hY := hY.keep hE' (fun _ _ h => h) (fun _ _ h => ⟨h.len, h.eq⟩)
    replace hT := fun q hq => Nat.lt_of_lt_of_le (hT q hq) (hE').size
    replace hsA := Nat.le_trans hsA (hE').size
    replace h1w := Nat.le_trans h1w hE'.size
    replace hS5 := hE'.cell hS5 (fun h => h)
    replace hO := hO.keep hE' (fun _ _ h => h) (fun _ _ h => ⟨h.len, h.eq⟩)
    replace hM := hM.keep hE' (fun _ _ h => h) (fun _ _ h => h.keep hE' (fun _ _ h => h))
    replace h5w := Nat.le_trans h5w hE'.size
    replace hMw := Nat.le_trans hMw hE'.size
    have hR : SlotR w8 (fun q => B q ∨ (N1 ≤ q ∧ q < w8.heap.size)) (slotCells (chSlot c j) (.slice oa (chPres c (7 + j)).length oc) (.slice (some ⟨b5, 0, none⟩) 1 1)) (chSlot c j) := slotR_mk z32_len z64_len (hO.mono (fun q hq => .inr ⟨hq.1, Nat.lt_of_lt_of_le hq.2 h5w⟩) (fun _ _ h => ⟨h.len, h.eq⟩)) (hM.mono (fun q hq => hq.imp id (fun h => ⟨h.1, Nat.lt_of_lt_of_le h.2 hMw⟩)) (fun _ _ h => h.mono (fun q hq => hq.imp id (fun h => ⟨h.1, Nat.lt_of_lt_of_le h.2 hMw⟩))))
    refine ⟨(fun _ => hS5), ?_⟩
    refine kr_ow rfl rfl (ow_appendX Try.underlying69 I145 Z145 S145 rfl (by decide) (by rw [B145]; decide) rfl hX rfl (cs := slotCells (chSlot c j) (.slice oa (chPres c (7 + j)).length oc) (.slice (some ⟨b5, 0, none⟩) 1 1)) (x := chSlot c j) (bx_eq hb6 (by simp [Value.cells])) (slot_len z32_len z64_len) (slot_one hov.1 rfl) (hR.mono (fun q hq => hq.imp id (fun h => ⟨⟨Nat.le_trans hA1 h.1, fun ht => by have := hTl q ht; omega⟩, h.2, fun ho => by have := hsl q ho; omega⟩))) (fun q hq => ⟨Nat.le_trans hsA hq, fun ht => by have := hT q ht; omega⟩) (by simp; omega) rfl (fun v' w' hf hle cs x hR => (hR.keep hf (fun q hq ho => hq.elim (fun h => by have h2 := (hX.new _ ho).1; have := hB q h; unfold New at h2; omega) (fun h => h.2.2 ho))).mono (fun q hq => hq.imp id (hle q))) (fun sv' w9 hX' hf6 => ?_))
    have hno : ∀ q, ownB sv q → wA.heap.size ≤ q := fun q h => (hX.new _ h).1
    have hnT : ∀ q, ownB sv q → ¬ T q := fun q h => (hX.new _ h).2
    replace hb := hb.keep hf6 (fun q hq h => by have := hno q h; have := hB q hq; omega)
    replace hb0 := hb0.keep hf6 (fun h => by have := hno _ h; omega)
    replace hb3 := hb3.keep hf6 (fun h => by have := hno _ h; omega)
    replace hL := hL.keep hf6 (fun q hq h => by have := hno q h; have := hq.1; omega) (fun _ _ h => ⟨h.len, h.eq⟩)
    replace hY := hY.keep hf6 (fun q hq h => hnT q h hq.2) (fun _ _ h => ⟨h.len, h.eq⟩)
    replace hS5 := hf6.cell hS5 (fun h => by have := hno _ h; exact absurd this (Nat.not_le.2 h3A))
    replace hE := hE.trans' hf6 (fun q hq h => by have := hno q h; omega)
    replace hsA := Nat.le_trans hsA hf6.size
    replace hT := fun q hq => Nat.lt_of_lt_of_le (hT q hq) hf6.size
    replace hX := hX'
    clear hno hnT hf6 hX' hR hM hO hev hMw h5w hTl hsl hA1 h1w hb6
    refine ⟨(fun _ => hS5), ?_⟩
    refine kr_val rfl (hS5) (fun w' hS' => y_fieldAddr Try.underlying72 rfl I69 S69 rfl rfl) rfl rfl rfl ?_
    refine kr_ow rfl rfl (ow_store (b := b3) (o := 103) I69 S69 rfl (v := sv') (xs := [sv']) rfl hb3 hX.one.2 rfl (by rw [(acct_len (chAcct_i c) (chAcct_g c))]; exact Nat.le_of_ble_eq_true rfl) (One'.single hX.one.1) (fun wB hb7 hf7 hz7 => ?_))
    replace hb3 := bx_eq hb7 (acct_slots (chAcct_i c) (chAcct_g c))
    replace hb := hb.keep hf7 (fun q hq e => by have e' : q = b3 := e; have := hB q hq; omega)
    replace hb0 := hb0.keep hf7 (fun e => h03 e)
    replace hL := hL.keep hf7 (fun q hq e => hq.2.1 e) (fun _ _ h => ⟨h.len, h.eq⟩)
    replace hE := ext_store hE hf7 hwb.2
    replace hX := hX.keep hf7 (fun q hq e => by have e' : q = b3 := e; have := hq.1; unfold New at this; omega) (fun cs x h => (h.keep hf7 (fun q hq e => hq.elim (fun h => by have e' : q = b3 := e; have := hB q h; omega) (fun h => by have e' : q = b3 := e; have := h.1.1; unfold New at this; omega))).mono (fun q hq => hq.imp id (bes_le hf7 q)))
    replace hY := hY.keep hf7 (fun q hq e => by have e' : q = b3 := e; have := hq.1; unfold New at this; omega) (fun _ _ h => ⟨h.len, h.eq⟩)
    replace hT := fun q hq => Nat.lt_of_lt_of_le (hT q hq) hf7.size
    replace hsA := Nat.le_trans hsA hf7.size
    refine ⟨(fun h => absurd h (by decide)), ?_⟩
    refine kr_nil ?_
    refine x_seq ?_
    refine k_regionD (S := fun w' => w'.cell? ((⟨b3, 0, none⟩ : Addr).add 104) = some tv) [8] [(0, true), (1, true), (2, true), (3, true), (4, false), (5, false), (6, false), (7, true), (8, false)] mixed (fun _ _ _ _ _ h => h) (by kernel_rfl) ?_
    have hE' : Ext wB wB.drew := Fr.drew1 _ _
    have hS5 : wB.drew.cell? ((⟨b3, 0, none⟩ : Addr).add 104) = some tv := hE'.cell (hb3.cs.at (acct_gett (chAcct_i c) (chAcct_g c))) (fun h => h)
    replace hb : SlR wB.drew B v 1 _ _ := hb.keep hE' (fun _ _ h => h)
    replace hE := hE.trans hE'
    replace hb0 := hb0.keep hE' (fun h => h)
    replace hb3 := hb3.keep hE' (fun h => h)
    replace hL := hL.keep hE' (fun _ _ h => h) (fun _ _ h => ⟨h.len, h.eq⟩)
    replace hX := hX.keep hE' (fun _ _ h => h) (fun cs x h => (h.keep hE' (fun _ _ h => h)).mono (fun q hq => hq.imp id (bes_le hE' q)))
    replace hY := hY.keep hE' (fun _ _ h => h) (fun _ _ h => ⟨h.len, h.eq⟩)
    replace hT := fun q hq => Nat.lt_of_lt_of_le (hT q hq) (hE').size
    replace hsA := Nat.le_trans hsA (hE').size
    refine kr_val rfl (hS5) (fun w' hS' => y_fieldAddr Try.underlying72 rfl I70 S70 rfl rfl) rfl rfl rfl ?_
    refine kr_val rfl (hS5) (fun w' hS' => y_load rfl (ld_one Try.underlying70 rfl hS')) rfl rfl rfl ?_
    refine kr_val rfl (hS5) (fun w' hS' => y_move) rfl rfl rfl ?_
    refine kr_val rfl (hS5) (fun w' hS' => y_move) rfl rfl rfl ?_
    refine kr_ow rfl rfl (ow_call2 fn54 rfl rfl rfl rfl (key_c hb (i := j) (by omega)) (kret_ret (fun u wC ⟨hu, hE'⟩ => ?_)))
    subst hu
    replace hb := hb.keep hE' (fun _ _ h => h)
    replace hE := hE.trans hE'
    replace hb0 := hb0.keep hE' (fun h => h)
    replace hb3 := hb3.keep hE' (fun h => h)
    replace hL := hL.keep hE' (fun _ _ h => h) (fun _ _ h => ⟨h.len, h.eq⟩)
    replace hX := hX.keep hE' (fun _ _ h => h) (fun cs x h => (h.keep hE' (fun _ _ h => h)).mono (fun q hq => hq.imp id (bes_le hE' q)))
    replace hY := hY.keep hE' (fun _ _ h => h) (fun _ _ h => ⟨h.len, h.eq⟩)
    replace hT := fun q hq => Nat.lt_of_lt_of_le (hT q hq) (hE').size
    replace hsA := Nat.le_trans hsA (hE').size
    replace hS5 := hE'.cell hS5 (fun h => h)
    refine ⟨(fun _ => hS5), ?_⟩
    refine kr_ow rfl rfl (ow_slice1 Try.underlying70 I34 Z34 S34 rfl rfl (v := .agg (bvs (keyOf c j)).toArray) rfl (by decide) (by decide) rfl (fun wD b7 hb7 hE' he7 hz7 => ?_))
    replace hb := hb.keep hE' (fun _ _ h => h)
    replace hE := hE.trans hE'
    replace hb0 := hb0.keep hE' (fun h => h)
    replace hb3 := hb3.keep hE' (fun h => h)
    replace hL := hL.keep hE' (fun _ _ h => h) (fun _ _ h => ⟨h.len, h.eq⟩)
    replace hX := hX.keep hE' (fun _ _ h => h) (fun cs x h => (h.keep hE' (fun _ _ h => h)).mono (fun q hq => hq.imp id (bes_le hE' q)))
    replace hY := hY.keep hE' (fun _ _ h => h) (fun _ _ h => ⟨h.len, h.eq⟩)
    replace hT := fun q hq => Nat.lt_of_lt_of_le (hT q hq) (hE').size
    replace hsA := Nat.le_trans hsA (hE').size
    replace hS5 := hE'.cell hS5 (fun h => h)
    refine ⟨(fun _ => hS5), ?_⟩
    have hY2 : OwnX KeyR 32 34 wD (fun q => New wA q ∧ (T q ∨ wD.heap.size ≤ q)) tv _ := hY.cut (fun q _ hq => ⟨hq.1, .inl hq.2⟩) (fun _ _ h => ⟨h.len, h.eq⟩)
    refine kr_ow rfl rfl (ow_appendX Try.underlying70 I34 Z34 S34 rfl (by decide) (by rw [B34]; decide) rfl hY2 rfl (cs := bvs (keyOf c j)) (x := keyOf c j) (bx_eq hb7 (by simp [Value.cells])) (bv32 (keyOf_len c j)) (bvs_one _) ⟨keyOf_len _ _, rfl⟩ (fun q hq => ⟨Nat.le_trans hsA hq, .inr hq⟩) (by simp; omega) rfl (fun v' w' hf hle cs x hR => ⟨hR.len, hR.eq⟩) (fun tv' wF hY' hf6 => ?_))
    have hno : ∀ q, ownB tv q → wA.heap.size ≤ q := fun q h => (hY.new _ h).1
    have hnT : ∀ q, ownB tv q → T q := fun q h => (hY.new _ h).2
    have hXc := hX.cut (B' := fun q => New wA q ∧ ¬ ((T q ∨ wD.heap.size ≤ q) ∧ q < wF.heap.size)) (fun q hq h => ⟨h.1, fun h2 => h2.1.elim h.2 (fun h3 => by omega)⟩) (fun cs x h => h.mono (fun q hq => hq.imp id (bes_cut (fun q hq h => ⟨h.1, fun h2 => h2.1.elim h.2 (fun h3 => by omega)⟩) q)))
    have hXn := hX.new
    replace hS5 := hf6.cell hS5 (fun h => by have := hno _ h; exact absurd this (Nat.not_le.2 h3A))
    replace hb := hb.keep hf6 (fun q hq h => by have := hno q h; have := hB q hq; omega)
    replace hb0 := hb0.keep hf6 (fun h => by have := hno _ h; omega)
    replace hb3 := hb3.keep hf6 (fun h => by have := hno _ h; omega)
    replace hL := hL.keep hf6 (fun q hq h => by have := hno q h; have := hq.1; omega) (fun _ _ h => ⟨h.len, h.eq⟩)
    replace hX := hXc.keep hf6 (fun q hq h => hq.2 ⟨.inl (hnT q h), Nat.lt_of_lt_of_le (hT q (hnT q h)) hf6.size⟩) (fun cs x h => (h.keep hf6 (fun q hq ho => hq.elim (fun h => by have := hno q ho; have := hB q h; omega) (fun h => h.1.2 ⟨.inl (hnT q ho), Nat.lt_of_lt_of_le (hT q (hnT q ho)) hf6.size⟩))).mono (fun q hq => hq.imp id (bes_le hf6 q)))
    replace hY := hY'.cut (B' := fun q => New wA q ∧ ((T q ∨ wD.heap.size ≤ q) ∧ q < wF.heap.size)) (fun q hq h => ⟨h.1, h.2, hq⟩) (fun _ _ h => ⟨h.len, h.eq⟩)
    replace hE := hE.trans' hf6 (fun q hq h => by have := hno q h; omega)
    replace hsA := Nat.le_trans hsA hf6.size
    obtain ⟨T', hT'⟩ : ∃ T' : Nat → Prop, T' = fun q => (T q ∨ wD.heap.size ≤ q) ∧ q < wF.heap.size := ⟨_, rfl⟩
    have hX : OwnX (fun w' (B2 : Nat → Prop) cs x => SlotR w' (fun q => B q ∨ B2 q) cs x) 101 145 wF (fun q => New wA q ∧ ¬ T' q) sv' ((List.range j).map (chSlot c) ++ [chSlot c j]) := by rw [hT']; exact hX
    have hY : OwnX KeyR 32 34 wF (fun q => New wA q ∧ T' q) tv' ((List.range j).map (keyOf c) ++ [keyOf c j]) := by rw [hT']; exact hY
    replace hT : ∀ q, T' q → q < wF.heap.size := fun q hq => by rw [hT'] at hq; exact hq.2
    clear hno hnT hf6 hY' hXc hXn hY2 hb7 hT'
    refine ⟨(fun _ => hS5), ?_⟩
    refine kr_val rfl (hS5) (fun w' hS' => y_fieldAddr Try.underlying72 rfl I70 S70 rfl rfl) rfl rfl rfl ?_
    refine kr_ow rfl rfl (ow_store (b := b3) (o := 104) I70 S70 rfl (v := tv') (xs := [tv']) rfl hb3 hY.one.2 rfl (by rw [(acct_len (chAcct_i c) (chAcct_g c))]; exact Nat.le_of_ble_eq_true rfl) (One'.single hY.one.1) (fun wG hb7 hf7 hz7 => ?_))
    replace hb3 := bx_eq hb7 (acct_toks (chAcct_i c) (chAcct_g c))
    replace hb := hb.keep hf7 (fun q hq e => by have e' : q = b3 := e; have := hB q hq; omega)
    replace hb0 := hb0.keep hf7 (fun e => h03 e)
    replace hL := hL.keep hf7 (fun q hq e => hq.2.1 e) (fun _ _ h => ⟨h.len, h.eq⟩)
    replace hE := ext_store hE hf7 hwb.2
    replace hX := hX.keep hf7 (fun q hq e => by have e' : q = b3 := e; have := hq.1; unfold New at this; omega) (fun cs x h => (h.keep hf7 (fun q hq e => hq.elim (fun h => by have e' : q = b3 := e; have := hB q h; omega) (fun h => by have e' : q = b3 := e; have := h.1.1; unfold New at this; omega))).mono (fun q hq => hq.imp id (bes_le hf7 q)))
    replace hY := hY.keep hf7 (fun q hq e => by have e' : q = b3 := e; have := hq.1; unfold New at this; omega) (fun _ _ h => ⟨h.len, h.eq⟩)
    replace hT := fun q hq => Nat.lt_of_lt_of_le (hT q hq) hf7.size
    replace hsA := Nat.le_trans hsA hf7.size
    refine ⟨(fun h => absurd h (by decide)), ?_⟩
    refine kr_nil ?_
    refine x_blk ?_
    refine x_seq ?_
    refine k_region ?_
    refine kl_val (y_move) rfl rfl rfl ?_
    refine kl_val (Y.cast (v' := .int .i64 ((j + 1 : Nat) : Int)) (y_add64 rfl rfl (by omega)) (congrArg (Value.int .i64) (by omega))) rfl rfl rfl ?_
    refine kl_val (y_assign) rfl rfl rfl ?_
    refine kl_nil ?_
    refine x_lpN (nm c 4 % 4 - (j + 1)) (by omega) ⟨j + 1, sv', tv', T', rfl, rfl, rfl, rfl, by omega, rfl, hE, hb, hb0, hb3, hL, by rw [← range_next]; exact hX, by rw [← range_next]; exact hY, hT, hsA⟩
  · skip
    obtain rfl : j = nm c 4 % 4 := by omega
    refine k_exit ?_
    refine x_seqX ?_
    refine x_lpX ?_
    refine x_blkX ?_
    refine x_seq ?_
    refine k_seq ?_
    refine k_region ?_
    refine kl_val (y_load rfl (ld_aggB Try.underlying72 rfl I72 S72 (acct_len (chAcct_i c) (chAcct_g c)) hb3.cs)) rfl rfl rfl ?_
    refine kl_ow rfl (ow_store (b := b0) (o := 0) I72 S72 rfl (v := .agg (acctCells (chAcct c) lv sv tv).toArray) (xs := acctCells (chAcct c) lv sv tv) rfl hb0 rfl (acct_len (chAcct_i c) (chAcct_g c)) (by rw [(acct_len (chAcct_i c) (chAcct_g c))]; simp) (acct_one hL.one.1 hX.one.1 hY.one.1) (fun wg hbg hf7 hzg => ?_))
    replace hb0 := bx_eq hbg (splice_all (by rw [(acct_len (chAcct_i c) (chAcct_g c))]; simp))
    replace hb := hb.keep hf7 (fun q hq e => by have e' : q = b0 := e; have := hB q hq; omega)
    replace hL := hL.keep hf7 (fun q hq e => hq.2.2 e) (fun _ _ h => ⟨h.len, h.eq⟩)
    replace hE := ext_store hE hf7 hwb.1
    replace hX := hX.keep hf7 (fun q hq e => by have e' : q = b0 := e; have := hq.1; unfold New at this; omega) (fun cs x h => (h.keep hf7 (fun q hq e => hq.elim (fun h => by have e' : q = b0 := e; have := hB q h; omega) (fun h => by have e' : q = b0 := e; have := h.1.1; unfold New at this; omega))).mono (fun q hq => hq.imp id (bes_le hf7 q)))
    replace hY := hY.keep hf7 (fun q hq e => by have e' : q = b0 := e; have := hq.1; unfold New at this; omega) (fun _ _ h => ⟨h.len, h.eq⟩)
    replace hT := fun q hq => Nat.lt_of_lt_of_le (hT q hq) hf7.size
    replace hsA := Nat.le_trans hsA hf7.size
    have hR : AcctR wg (fun b => b < wg.heap.size) (acctCells (chAcct c) lv sv tv) (chAcct c) := ⟨⟨_, sv, tv, ⟨keyOf_len _ _, sigOf_len _ _, ⟨lv, hL.mono (fun q hq => Nat.lt_of_lt_of_le hq.1 hsA) (fun _ _ h => ⟨h.len, h.eq⟩), rfl⟩⟩, hX.slB (fun q hq _ => hq) (fun _ _ h => h.mono (fun q hq => hq.elim (fun h => by have := hB q h; have := hE.size; omega) (fun h => h.2.1))), hY.slB (fun q hq _ => hq) (fun _ _ h => ⟨h.len, h.eq⟩), rfl⟩⟩
    refine kl_nil ?_
    refine x_seq ?_
    refine k_ret ?_
    exact k_retC rfl rfl (ld_aggB Try.underlying72 rfl I72 S72 (acct_len (chAcct_i c) (chAcct_g c)) hb0.cs) ⟨_, rfl, ⟨_, rfl, hR⟩, hE⟩

end Go.Proofs.Ythpocekigliomaa.K
