/- WireFields answers true. Condition: the bytes are there. -/
import Derived.Test.YthpocekigliomaaKCb
import Derived.Test.YthpocekigliomaaKSa
import Derived.Test.YthpocekigliomaaKLa
namespace Go.Proofs.Ythpocekigliomaa.K
open Go

set_option maxRecDepth 100000 in
set_option maxHeartbeats 1000000 in
theorem WireFields_R {v : Value} {c : By} {B : Nat → Prop} {w : World} {kb : UInt8} (hb : SlR w B v 1 c.length (bvs c)) (hB : ∀ b, B b → b < w.heap.size) :
    Ret Try.prog 4 #[v, bv kb] w (fun u w' => u = .bool true ∧ Ext w w') := by
  refine k_enter2 Try.func4 rfl Try.ntmps4 rfl ?_
  obtain ⟨va0, vc0, rfl⟩ := hb.form
  have hkl := kb.toNat_lt
  refine k_seq ?_
  refine k_region ?_
  refine kl_val (y_assign) rfl rfl rfl ?_
  refine kl_nil ?_
  refine x_seq ?_
  refine k_seq ?_
  refine k_seq ?_
  refine k_region ?_
  refine kl_val (y_move) rfl rfl rfl ?_
  refine kl_val (y_lenS Try.underlying22 rfl) rfl rfl rfl ?_
  refine kl_val (y_gtr rfl rfl) rfl rfl rfl ?_
  refine kl_nil ?_
  refine x_seq ?_
  refine k_condp rfl (fun hlen => ?_) (fun hlen => ?_)
  · skip
    refine k_seq ?_
    refine k_region ?_
    refine kl_ow rfl (ow_call0 fn11 rfl rfl (known_R) (kret_ret (fun u w4 ⟨hu, hE4⟩ => ?_)))
    subst hu
    refine kl_val (y_assign) rfl rfl rfl ?_
    refine kl_nil ?_
    refine x_seq ?_
    refine k_ret ?_
    refine x_seqR ?_
    exact k_ret1 rfl rfl ⟨_, rfl, rfl, hE4⟩
  · skip
    refine k_skip ?_
    refine x_seq ?_
    refine k_seq ?_
    refine k_region ?_
    refine kl_val (y_move) rfl rfl rfl ?_
    refine kl_ow rfl (ow_call2 fn12 rfl rfl rfl rfl (Envelope_c hb hB (i := 0) (by omega)) (kret_ret (fun u w1 ⟨⟨cx, hu, hRx⟩, hE1⟩ => ?_)))
    subst hu
    have hs1 := hE1.size
    obtain ⟨x, hx⟩ : ∃ x, x = chEnv c 0 := ⟨_, rfl⟩
    have hOx : x.Ok := hx ▸ chEnv_ok c (by omega)
    have hxb : x.body.length ≤ 9 := hx ▸ chEnv_body c 0
    rw [← hx] at hRx
    clear hx
    obtain ⟨vb, rfl, hsb, hxe, hxh⟩ := hRx.open
    have hx1 := hOx.src
    have hx2 := hOx.one
    have hx3 := hOx.head.n
    unfold Nn at hx1 hx2 hx3
    refine kl_ow rfl (ow_alloc I38 Z38 rfl (fun w2 b5 hb5 hf2 he2 hz2 => ?_))
    replace hb5 := bx_eq hb5 (show _ = ([Value.int .i64 0, Value.int .i64 0, Value.bool false] ++ List.replicate 32 (Value.int .u8 0) ++ [Value.int .i64 0, Value.int .i64 0] ++ List.replicate 32 (Value.int .u8 0) ++ [Value.int .i64 0, Value.int .i64 0, Value.slice none 0 0] : List Value) from rfl)
    refine kl_ow rfl (ow_store (b := b5) (o := 0) I38 S38 rfl (v := .agg (envCells x vb).toArray) (xs := envCells x vb) rfl hb5 rfl (env_len hxe hxh) (by rw [(env_len hxe hxh)]; simp) hRx.one (fun w3 hb3 hf3 hz3 => ?_))
    replace hb5 := bx_eq hb3 (splice_all (by rw [(env_len hxe hxh)]; simp))
    have hE3 : Ext w1 w3 := ext_store hf2 hf3 (by omega)
    refine kl_nil ?_
    refine x_seq ?_
    refine k_seq ?_
    refine k_region ?_
    refine kl_val (y_load rfl (ld_aggB Try.underlying38 rfl I38 S38 (env_len hxe hxh) hb5.cs)) rfl rfl rfl ?_
    refine kl_ow rfl (ow_alloc I38 Z38 rfl (fun w4 b6 hb6 hf4 he4 hz4 => ?_))
    replace hb6 := bx_eq hb6 (show _ = ([Value.int .i64 0, Value.int .i64 0, Value.bool false] ++ List.replicate 32 (Value.int .u8 0) ++ [Value.int .i64 0, Value.int .i64 0] ++ List.replicate 32 (Value.int .u8 0) ++ [Value.int .i64 0, Value.int .i64 0, Value.slice none 0 0] : List Value) from rfl)
    replace hb5 := hb5.keep hf4 (fun h => h)
    refine kl_ow rfl (ow_store (b := b6) (o := 0) I38 S38 rfl (v := .agg (envCells x vb).toArray) (xs := envCells x vb) rfl hb6 rfl (env_len hxe hxh) (by rw [(env_len hxe hxh)]; simp) hRx.one (fun w5 hb0 hf5 hz5 => ?_))
    replace hb6 := bx_eq hb0 (splice_all (by rw [(env_len hxe hxh)]; simp))
    replace hb5 := hb5.keep hf5 (fun e => by have : b5 = b6 := e; omega)
    have hE5 : Ext w1 w5 := hE3.trans (ext_store hf4 hf5 (by omega))
    replace hRx := hRx.keep hE5 (fun _ _ h => h)
    replace hsb := hsb.keep hE5 (fun _ _ h => h)
    have hb56 : b5 ≠ b6 := by omega
    have hs5 := hE5.size
    refine kl_nil ?_
    refine x_seq ?_
    refine k_seq ?_
    refine k_seq ?_
    refine k_region ?_
    refine kl_val (y_move) rfl rfl rfl ?_
    refine kl_val (Y.cast (v' := .int .u8 ((kb.toNat % 6 : Nat) : Int)) (y_rem' rfl rfl (by decide) (by omega)) (congrArg (Value.int .u8) (by omega))) rfl rfl rfl ?_
    refine kl_nil ?_
    refine x_seq ?_
    refine k_block ?_
    refine k_seq ?_
    refine k_region ?_
    refine kl_val (y_eql rfl rfl) rfl rfl rfl ?_
    refine kl_val (y_assign) rfl rfl rfl ?_
    refine kl_nil ?_
    refine x_seq ?_
    refine k_condp rfl (fun hk0 => ?_) (fun hk0 => ?_)
    · skip
      refine k_region ?_
      refine kl_val (y_fieldAddr Try.underlying38 rfl I3 S3 rfl rfl) rfl rfl rfl ?_
      refine kl_val (y_load rfl (ld_one Try.underlying3 rfl (bx_cell hb6 (pc_take rfl)))) rfl rfl rfl ?_
      refine kl_val (y_add64 rfl rfl (by omega)) rfl rfl rfl ?_
      refine kl_val (y_rem' rfl rfl (by decide) (by omega)) rfl rfl rfl ?_
      refine kl_val (y_fieldAddr Try.underlying38 rfl I3 S3 rfl rfl) rfl rfl rfl ?_
      refine kl_ow rfl (ow_store (b := b6) (o := 0) I3 S3 rfl (v := (i64 ((x.src + 1) % 1000))) (xs := [(i64 ((x.src + 1) % 1000))]) rfl hb6 rfl rfl (by rw [(env_len hxe hxh)]; simp) (One'.single rfl) (fun wN hbN hfN hzN => ?_))
      have hE9 : Ext w wN := (hE1.trans hE5).trans' hfN (fun i hi e => absurd e (by omega))
      obtain ⟨cy, y, hb6, hRy, hOy⟩ : ∃ (cy : List Value) (y : Env'), Bx wN b6 38 cy ∧ EnvR wN (fun b => b < wN.heap.size) cy y ∧ y.Ok := ⟨_, { x with src := (x.src + 1) % 1000 }, bx_eq hbN (env_src _), envR_mk hxe hxh ((hsb.keep hfN (fun j hj e => by have e' : j = b6 := e; have := hB j hj; omega)).mono (fun j hj => by have := hB j hj; have := hE9.size; omega)), ⟨⟨by show 0 ≤ (x.src + 1) % 1000; omega, by show (x.src + 1) % 1000 ≤ _; omega⟩, hOx.device, hOx.eph, hOx.signed, hOx.one, hOx.head, hOx.body⟩⟩
      replace hb5 := hb5.keep hfN (fun e => hb56 e)
      replace hRx := (hRx.keep hfN (fun j hj e => by have e' : j = b6 := e; have := hB j hj; omega)).mono (B' := fun b => b < wN.heap.size) (fun j hj => by have := hB j hj; have := hE9.size; omega)
      refine kl_nil ?_
      refine x_blk ?_
      refine x_seq ?_
      refine k_seq ?_
      refine k_regionD (S := fun w' => Bx w' b5 38 (envCells x vb) ∧ Bx w' b6 38 cy) [] [(0, false), (1, true), (2, true), (5, true), (9, true), (10, true), (3, false), (4, true), (6, false), (7, true), (8, true), (11, false), (12, true), (13, true), (14, true)] mixed (fun _ _ _ _ _ h => h) (by kernel_rfl) ?_
      have hE' : Ext wN wN.drew := Fr.drew1 _ _
      have hlt : ∀ b, b < wN.heap.size → b < wN.drew.heap.size := fun b hb => hb
      have hS20 : Bx wN.drew b5 38 (envCells x vb) ∧ Bx wN.drew b6 38 cy := ⟨hb5.keep hE' (fun h => h), hb6.keep hE' (fun h => h)⟩
      replace hRx := hRx.keep hE' (fun _ _ h => h)
      replace hRy := hRy.keep hE' (fun _ _ h => h)
      replace hE9 := hE9.trans hE'
      have hwx := wEnv_len hOx
      have hwy := wEnv_len hOy
      have hcy := hRy.length
      refine kr_ow rfl rfl (ow_call0 fn11 rfl rfl (known_R) (kret_ret (fun u wa ⟨hu, hE'⟩ => ?_)))
      subst hu
      replace hS20 := And.intro (hS20.1.keep hE' (fun h => h)) (hS20.2.keep hE' (fun h => h))
      replace hRx := hRx.keep hE' (fun _ _ h => h)
      replace hRy := hRy.keep hE' (fun _ _ h => h)
      replace hE9 := hE9.trans hE'
      have hsz := hE'.size
      replace hlt := fun b hb => Nat.lt_of_lt_of_le (hlt b hb) hsz
      clear hsz
      refine ⟨(fun _ => hS20), ?_⟩
      refine kr_val rfl (hS20) (fun w' hS' => y_move) rfl rfl rfl ?_
      first | refine kr_skipG rfl (hS20) rfl rfl rfl rfl rfl rfl ?_ | refine kr_valG rfl (hS20) (fun w' hS' => y_load rfl (ld_aggB Try.underlying38 rfl I38 S38 (env_len hxe hxh) hS'.1.cs)) rfl rfl rfl rfl rfl ?_
      first | refine kr_skipG rfl (hS20) rfl rfl rfl rfl rfl rfl ?_ | refine kr_valG rfl (hS20) (fun w' hS' => y_load rfl (ld_aggB Try.underlying38 rfl I38 S38 hcy hS'.2.cs)) rfl rfl rfl rfl rfl ?_
      first | refine kr_skipG rfl (hS20) rfl rfl rfl rfl rfl rfl ?_ | refine kr_valG rfl (hS20) (fun w' hS' => y_load rfl (ld_aggB Try.underlying38 rfl I38 S38 (env_len hxe hxh) hS'.1.cs)) rfl rfl rfl rfl rfl ?_
      first | refine kr_skipG rfl (hS20) rfl rfl rfl rfl rfl rfl ?_ | refine kr_valG rfl (hS20) (fun w' hS' => y_load rfl (ld_aggB Try.underlying38 rfl I38 S38 hcy hS'.2.cs)) rfl rfl rfl rfl rfl ?_
      refine kr_owGS rfl rfl rfl rfl (ow_call1 fn13 rfl rfl rfl (Envelope_W hRx hlt (by omega) (by omega)) (kret_ret (fun v1 wb hO1 => ?_)))
      have hE' := hO1.ext
      replace hS20 := And.intro (hS20.1.keep hE' (fun h => h)) (hS20.2.keep hE' (fun h => h))
      replace hRx := hRx.keep hE' (fun _ _ h => h)
      replace hRy := hRy.keep hE' (fun _ _ h => h)
      replace hE9 := hE9.trans hE'
      have hsz := hE'.size
      replace hlt := fun b hb => Nat.lt_of_lt_of_le (hlt b hb) hsz
      clear hsz
      have hsl1 : SlR wb (ownB v1) v1 1 (wEnv x).length (bvs (wEnv x)) := SlR.ofOwn hO1.own (fun _ h => h)
      refine ⟨(fun _ => hS20), (fun w' => (Bx w' b5 38 (envCells x vb) ∧ Bx w' b6 38 cy) ∧ SlR w' (ownB v1) v1 1 (wEnv x).length (bvs (wEnv x))), (fun _ h => h.1), ?_⟩
      replace hS20 := And.intro hS20 hsl1
      first | refine kr_skipG rfl (hS20) rfl rfl rfl rfl rfl rfl ?_ | refine kr_valG rfl (hS20) (fun w' hS' => y_b2s Try.underlying22 Try.underlying5 Try.underlying9 rfl hS'.2) rfl rfl rfl rfl rfl ?_
      refine kr_owGS rfl rfl rfl rfl (ow_call1 fn13 rfl rfl rfl (Envelope_W hRy hlt (by omega) (by have := hOy.one.1; omega)) (kret_ret (fun v2 wc hO2 => ?_)))
      have hE' := hO2.ext
      replace hS20 := And.intro (And.intro (hS20.1.1.keep hE' (fun h => h)) (hS20.1.2.keep hE' (fun h => h))) (hS20.2.keep hE' (fun _ _ h => h))
      replace hRx := hRx.keep hE' (fun _ _ h => h)
      replace hRy := hRy.keep hE' (fun _ _ h => h)
      replace hE9 := hE9.trans hE'
      have hsz := hE'.size
      replace hlt := fun b hb => Nat.lt_of_lt_of_le (hlt b hb) hsz
      clear hsz
      have hsl2 : SlR wc (ownB v2) v2 1 (wEnv y).length (bvs (wEnv y)) := SlR.ofOwn hO2.own (fun _ h => h)
      refine ⟨(fun _ => hS20), (fun w' => ((Bx w' b5 38 (envCells x vb) ∧ Bx w' b6 38 cy) ∧ SlR w' (ownB v1) v1 1 (wEnv x).length (bvs (wEnv x))) ∧ SlR w' (ownB v2) v2 1 (wEnv y).length (bvs (wEnv y))), (fun _ h => h.1), ?_⟩
      replace hS20 := And.intro hS20 hsl2
      first | refine kr_skipG rfl (hS20) rfl rfl rfl rfl rfl rfl ?_ | refine kr_valG rfl (hS20) (fun w' hS' => y_b2s Try.underlying22 Try.underlying5 Try.underlying9 rfl hS'.2) rfl rfl rfl rfl rfl ?_
      first | refine kr_skipG rfl (hS20) rfl rfl rfl rfl rfl rfl ?_ | refine kr_valG rfl (hS20) (fun w' hS' => y_seql rfl rfl) rfl rfl rfl rfl rfl ?_
      refine kr_owG rfl rfl rfl rfl (ow_call2 fn14 rfl rfl rfl rfl (SameEnvelope_c hRx hRy) (kret_ret (fun u wd ⟨b, hu, hbb, hE'⟩ => ?_)))
      subst hu
      replace hS20 := And.intro (And.intro (And.intro (hS20.1.1.1.keep hE' (fun h => h)) (hS20.1.1.2.keep hE' (fun h => h))) (hS20.1.2.keep hE' (fun _ _ h => h))) (hS20.2.keep hE' (fun _ _ h => h))
      replace hRx := hRx.keep hE' (fun _ _ h => h)
      replace hRy := hRy.keep hE' (fun _ _ h => h)
      replace hE9 := hE9.trans hE'
      have hsz := hE'.size
      replace hlt := fun b hb => Nat.lt_of_lt_of_le (hlt b hb) hsz
      clear hsz
      refine ⟨(fun _ => hS20), ?_⟩
      first | refine kr_skipG rfl (hS20) rfl rfl rfl rfl rfl rfl ?_ | refine kr_valG rfl (hS20) (fun w' hS' => yb (b := true) (y_beql Try.underlying4 rfl rfl) (beq_env hOx hOy hbb)) rfl rfl rfl rfl rfl ?_
      refine kr_val rfl (hS20) (fun w' hS' => by first | exact y_pickT rfl | exact y_pickF rfl) rfl rfl rfl ?_
      refine kr_val rfl (hS20) (fun w' hS' => y_assign) rfl rfl rfl ?_
      refine kr_nil ?_
      refine x_seq ?_
      refine k_ret ?_
      exact k_ret1 rfl rfl ⟨_, rfl, rfl, hE9⟩
    · skip
      refine k_seq ?_
      refine k_region ?_
      refine kl_val (y_eql rfl rfl) rfl rfl rfl ?_
      refine kl_val (y_assign) rfl rfl rfl ?_
      refine kl_nil ?_
      refine x_seq ?_
      refine k_condp rfl (fun hk1 => ?_) (fun hk1 => ?_)
      · skip
        refine k_region ?_
        refine kl_val (y_fieldAddr Try.underlying38 rfl I4 S4 rfl rfl) rfl rfl rfl ?_
        refine kl_val (y_load rfl (ld_one Try.underlying4 rfl (bx_cell hb6 (pc_drop (a := 1) (o := 1) rfl (pc_drop (a := 1) (o := 0) rfl (pc_take rfl)))))) rfl rfl rfl ?_
        refine kl_val (y_not rfl) rfl rfl rfl ?_
        refine kl_val (y_fieldAddr Try.underlying38 rfl I4 S4 rfl rfl) rfl rfl rfl ?_
        refine kl_ow rfl (ow_store (b := b6) (o := 2) I4 S4 rfl (v := (.bool (!x.first))) (xs := [(.bool (!x.first))]) rfl hb6 rfl rfl (by rw [(env_len hxe hxh)]; simp) (One'.single rfl) (fun wN hbN hfN hzN => ?_))
        have hE9 : Ext w wN := (hE1.trans hE5).trans' hfN (fun i hi e => absurd e (by omega))
        obtain ⟨cy, y, hb6, hRy, hOy⟩ : ∃ (cy : List Value) (y : Env'), Bx wN b6 38 cy ∧ EnvR wN (fun b => b < wN.heap.size) cy y ∧ y.Ok := ⟨_, { x with first := !x.first }, bx_eq hbN (env_first _), envR_mk hxe hxh ((hsb.keep hfN (fun j hj e => by have e' : j = b6 := e; have := hB j hj; omega)).mono (fun j hj => by have := hB j hj; have := hE9.size; omega)), ⟨hOx.src, hOx.device, hOx.eph, hOx.signed, hOx.one, hOx.head, hOx.body⟩⟩
        replace hb5 := hb5.keep hfN (fun e => hb56 e)
        replace hRx := (hRx.keep hfN (fun j hj e => by have e' : j = b6 := e; have := hB j hj; omega)).mono (B' := fun b => b < wN.heap.size) (fun j hj => by have := hB j hj; have := hE9.size; omega)
        refine kl_nil ?_
        refine x_blk ?_
        refine x_seq ?_
        refine k_seq ?_
        refine k_regionD (S := fun w' => Bx w' b5 38 (envCells x vb) ∧ Bx w' b6 38 cy) [] [(0, false), (1, true), (2, true), (5, true), (9, true), (10, true), (3, false), (4, true), (6, false), (7, true), (8, true), (11, false), (12, true), (13, true), (14, true)] mixed (fun _ _ _ _ _ h => h) (by kernel_rfl) ?_
        have hE' : Ext wN wN.drew := Fr.drew1 _ _
        have hlt : ∀ b, b < wN.heap.size → b < wN.drew.heap.size := fun b hb => hb
        have hS20 : Bx wN.drew b5 38 (envCells x vb) ∧ Bx wN.drew b6 38 cy := ⟨hb5.keep hE' (fun h => h), hb6.keep hE' (fun h => h)⟩
        replace hRx := hRx.keep hE' (fun _ _ h => h)
        replace hRy := hRy.keep hE' (fun _ _ h => h)
        replace hE9 := hE9.trans hE'
        have hwx := wEnv_len hOx
        have hwy := wEnv_len hOy
        have hcy := hRy.length
        refine kr_ow rfl rfl (ow_call0 fn11 rfl rfl (known_R) (kret_ret (fun u wa ⟨hu, hE'⟩ => ?_)))
        subst hu
        replace hS20 := And.intro (hS20.1.keep hE' (fun h => h)) (hS20.2.keep hE' (fun h => h))
        replace hRx := hRx.keep hE' (fun _ _ h => h)
        replace hRy := hRy.keep hE' (fun _ _ h => h)
        replace hE9 := hE9.trans hE'
        have hsz := hE'.size
        replace hlt := fun b hb => Nat.lt_of_lt_of_le (hlt b hb) hsz
        clear hsz
        refine ⟨(fun _ => hS20), ?_⟩
        refine kr_val rfl (hS20) (fun w' hS' => y_move) rfl rfl rfl ?_
        first | refine kr_skipG rfl (hS20) rfl rfl rfl rfl rfl rfl ?_ | refine kr_valG rfl (hS20) (fun w' hS' => y_load rfl (ld_aggB Try.underlying38 rfl I38 S38 (env_len hxe hxh) hS'.1.cs)) rfl rfl rfl rfl rfl ?_
        first | refine kr_skipG rfl (hS20) rfl rfl rfl rfl rfl rfl ?_ | refine kr_valG rfl (hS20) (fun w' hS' => y_load rfl (ld_aggB Try.underlying38 rfl I38 S38 hcy hS'.2.cs)) rfl rfl rfl rfl rfl ?_
        first | refine kr_skipG rfl (hS20) rfl rfl rfl rfl rfl rfl ?_ | refine kr_valG rfl (hS20) (fun w' hS' => y_load rfl (ld_aggB Try.underlying38 rfl I38 S38 (env_len hxe hxh) hS'.1.cs)) rfl rfl rfl rfl rfl ?_
        first | refine kr_skipG rfl (hS20) rfl rfl rfl rfl rfl rfl ?_ | refine kr_valG rfl (hS20) (fun w' hS' => y_load rfl (ld_aggB Try.underlying38 rfl I38 S38 hcy hS'.2.cs)) rfl rfl rfl rfl rfl ?_
        refine kr_owGS rfl rfl rfl rfl (ow_call1 fn13 rfl rfl rfl (Envelope_W hRx hlt (by omega) (by omega)) (kret_ret (fun v1 wb hO1 => ?_)))
        have hE' := hO1.ext
        replace hS20 := And.intro (hS20.1.keep hE' (fun h => h)) (hS20.2.keep hE' (fun h => h))
        replace hRx := hRx.keep hE' (fun _ _ h => h)
        replace hRy := hRy.keep hE' (fun _ _ h => h)
        replace hE9 := hE9.trans hE'
        have hsz := hE'.size
        replace hlt := fun b hb => Nat.lt_of_lt_of_le (hlt b hb) hsz
        clear hsz
        have hsl1 : SlR wb (ownB v1) v1 1 (wEnv x).length (bvs (wEnv x)) := SlR.ofOwn hO1.own (fun _ h => h)
        refine ⟨(fun _ => hS20), (fun w' => (Bx w' b5 38 (envCells x vb) ∧ Bx w' b6 38 cy) ∧ SlR w' (ownB v1) v1 1 (wEnv x).length (bvs (wEnv x))), (fun _ h => h.1), ?_⟩
        replace hS20 := And.intro hS20 hsl1
        first | refine kr_skipG rfl (hS20) rfl rfl rfl rfl rfl rfl ?_ | refine kr_valG rfl (hS20) (fun w' hS' => y_b2s Try.underlying22 Try.underlying5 Try.underlying9 rfl hS'.2) rfl rfl rfl rfl rfl ?_
        refine kr_owGS rfl rfl rfl rfl (ow_call1 fn13 rfl rfl rfl (Envelope_W hRy hlt (by omega) (by have := hOy.one.1; omega)) (kret_ret (fun v2 wc hO2 => ?_)))
        have hE' := hO2.ext
        replace hS20 := And.intro (And.intro (hS20.1.1.keep hE' (fun h => h)) (hS20.1.2.keep hE' (fun h => h))) (hS20.2.keep hE' (fun _ _ h => h))
        replace hRx := hRx.keep hE' (fun _ _ h => h)
        replace hRy := hRy.keep hE' (fun _ _ h => h)
        replace hE9 := hE9.trans hE'
        have hsz := hE'.size
        replace hlt := fun b hb => Nat.lt_of_lt_of_le (hlt b hb) hsz
        clear hsz
        have hsl2 : SlR wc (ownB v2) v2 1 (wEnv y).length (bvs (wEnv y)) := SlR.ofOwn hO2.own (fun _ h => h)
        refine ⟨(fun _ => hS20), (fun w' => ((Bx w' b5 38 (envCells x vb) ∧ Bx w' b6 38 cy) ∧ SlR w' (ownB v1) v1 1 (wEnv x).length (bvs (wEnv x))) ∧ SlR w' (ownB v2) v2 1 (wEnv y).length (bvs (wEnv y))), (fun _ h => h.1), ?_⟩
        replace hS20 := And.intro hS20 hsl2
        first | refine kr_skipG rfl (hS20) rfl rfl rfl rfl rfl rfl ?_ | refine kr_valG rfl (hS20) (fun w' hS' => y_b2s Try.underlying22 Try.underlying5 Try.underlying9 rfl hS'.2) rfl rfl rfl rfl rfl ?_
        first | refine kr_skipG rfl (hS20) rfl rfl rfl rfl rfl rfl ?_ | refine kr_valG rfl (hS20) (fun w' hS' => y_seql rfl rfl) rfl rfl rfl rfl rfl ?_
        refine kr_owG rfl rfl rfl rfl (ow_call2 fn14 rfl rfl rfl rfl (SameEnvelope_c hRx hRy) (kret_ret (fun u wd ⟨b, hu, hbb, hE'⟩ => ?_)))
        subst hu
        replace hS20 := And.intro (And.intro (And.intro (hS20.1.1.1.keep hE' (fun h => h)) (hS20.1.1.2.keep hE' (fun h => h))) (hS20.1.2.keep hE' (fun _ _ h => h))) (hS20.2.keep hE' (fun _ _ h => h))
        replace hRx := hRx.keep hE' (fun _ _ h => h)
        replace hRy := hRy.keep hE' (fun _ _ h => h)
        replace hE9 := hE9.trans hE'
        have hsz := hE'.size
        replace hlt := fun b hb => Nat.lt_of_lt_of_le (hlt b hb) hsz
        clear hsz
        refine ⟨(fun _ => hS20), ?_⟩
        first | refine kr_skipG rfl (hS20) rfl rfl rfl rfl rfl rfl ?_ | refine kr_valG rfl (hS20) (fun w' hS' => yb (b := true) (y_beql Try.underlying4 rfl rfl) (beq_env hOx hOy hbb)) rfl rfl rfl rfl rfl ?_
        refine kr_val rfl (hS20) (fun w' hS' => by first | exact y_pickT rfl | exact y_pickF rfl) rfl rfl rfl ?_
        refine kr_val rfl (hS20) (fun w' hS' => y_assign) rfl rfl rfl ?_
        refine kr_nil ?_
        refine x_seq ?_
        refine k_ret ?_
        exact k_ret1 rfl rfl ⟨_, rfl, rfl, hE9⟩
      · skip
        refine k_seq ?_
        refine k_region ?_
        refine kl_val (y_eql rfl rfl) rfl rfl rfl ?_
        refine kl_val (y_assign) rfl rfl rfl ?_
        refine kl_nil ?_
        refine x_seq ?_
        refine k_condp rfl (fun hk2 => ?_) (fun hk2 => ?_)
        · skip
          refine k_region ?_
          refine kl_val (y_move) rfl rfl rfl ?_
          refine kl_val (Y.cast (v' := .int .u8 ((kb.toNat % 32 : Nat) : Int)) (y_rem' rfl rfl (by decide) (by omega)) (congrArg (Value.int .u8) (by omega))) rfl rfl rfl ?_
          refine kl_val (y_fieldAddr Try.underlying38 rfl I34 S34 rfl rfl) rfl rfl rfl ?_
          refine kl_val (Y.cast (v' := .pointer (some ⟨b6, 3 + kb.toNat % 32, none⟩)) (y_indexAddrA Try.underlying34 I5 S5 rfl rfl (by omega) (by omega)) (by rw [show ((kb.toNat % 32 : Nat) : Int).toNat * 1 = kb.toNat % 32 by omega]; exact congrArg (fun a => Value.pointer (some a)) (addr3 b6 _))) rfl rfl rfl ?_
          refine kl_val (y_load rfl (ld_one Try.underlying5 rfl (by have := hb6.cs.at (env_eph_get (v := vb) hxe (j := kb.toNat % 32) (by omega)); rwa [addr0] at this))) rfl rfl rfl ?_
          refine kl_val (Y.cast (v' := bv (x.eph.getD (kb.toNat % 32) 0 + 1)) (y_add rfl rfl) (byte_inc _)) rfl rfl rfl ?_
          refine kl_val (y_fieldAddr Try.underlying38 rfl I34 S34 rfl rfl) rfl rfl rfl ?_
          refine kl_val (Y.cast (v' := .pointer (some ⟨b6, 3 + kb.toNat % 32, none⟩)) (y_indexAddrA Try.underlying34 I5 S5 rfl rfl (by omega) (by omega)) (by rw [show ((kb.toNat % 32 : Nat) : Int).toNat * 1 = kb.toNat % 32 by omega]; exact congrArg (fun a => Value.pointer (some a)) (addr3 b6 _))) rfl rfl rfl ?_
          refine kl_ow rfl (ow_store (b := b6) (o := 3 + kb.toNat % 32) I5 S5 rfl (v := (bv (x.eph.getD (kb.toNat % 32) 0 + 1))) (xs := [(bv (x.eph.getD (kb.toNat % 32) 0 + 1))]) rfl hb6 rfl rfl (by rw [(env_len hxe hxh)]; simp; omega) (One'.single rfl) (fun wN hbN hfN hzN => ?_))
          have hE9 : Ext w wN := (hE1.trans hE5).trans' hfN (fun i hi e => absurd e (by omega))
          obtain ⟨cy, y, hb6, hRy, hOy⟩ : ∃ (cy : List Value) (y : Env'), Bx wN b6 38 cy ∧ EnvR wN (fun b => b < wN.heap.size) cy y ∧ y.Ok := ⟨_, { x with eph := x.eph.set (kb.toNat % 32) (x.eph.getD (kb.toNat % 32) 0 + 1) }, bx_eq hbN (env_eph hxe _ (by omega)), envR_mk (by simpa using hxe) hxh ((hsb.keep hfN (fun j hj e => by have e' : j = b6 := e; have := hB j hj; omega)).mono (fun j hj => by have := hB j hj; have := hE9.size; omega)), ⟨hOx.src, hOx.device, (by simpa using hxe), hOx.signed, hOx.one, hOx.head, hOx.body⟩⟩
          replace hb5 := hb5.keep hfN (fun e => hb56 e)
          replace hRx := (hRx.keep hfN (fun j hj e => by have e' : j = b6 := e; have := hB j hj; omega)).mono (B' := fun b => b < wN.heap.size) (fun j hj => by have := hB j hj; have := hE9.size; omega)
          refine kl_nil ?_
          refine x_blk ?_
          refine x_seq ?_
          refine k_seq ?_
          refine k_regionD (S := fun w' => Bx w' b5 38 (envCells x vb) ∧ Bx w' b6 38 cy) [] [(0, false), (1, true), (2, true), (5, true), (9, true), (10, true), (3, false), (4, true), (6, false), (7, true), (8, true), (11, false), (12, true), (13, true), (14, true)] mixed (fun _ _ _ _ _ h => h) (by kernel_rfl) ?_
          have hE' : Ext wN wN.drew := Fr.drew1 _ _
          have hlt : ∀ b, b < wN.heap.size → b < wN.drew.heap.size := fun b hb => hb
          have hS20 : Bx wN.drew b5 38 (envCells x vb) ∧ Bx wN.drew b6 38 cy := ⟨hb5.keep hE' (fun h => h), hb6.keep hE' (fun h => h)⟩
          replace hRx := hRx.keep hE' (fun _ _ h => h)
          replace hRy := hRy.keep hE' (fun _ _ h => h)
          replace hE9 := hE9.trans hE'
          have hwx := wEnv_len hOx
          have hwy := wEnv_len hOy
          have hcy := hRy.length
          refine kr_ow rfl rfl (ow_call0 fn11 rfl rfl (known_R) (kret_ret (fun u wa ⟨hu, hE'⟩ => ?_)))
          subst hu
          replace hS20 := And.intro (hS20.1.keep hE' (fun h => h)) (hS20.2.keep hE' (fun h => h))
          replace hRx := hRx.keep hE' (fun _ _ h => h)
          replace hRy := hRy.keep hE' (fun _ _ h => h)
          replace hE9 := hE9.trans hE'
          have hsz := hE'.size
          replace hlt := fun b hb => Nat.lt_of_lt_of_le (hlt b hb) hsz
          clear hsz
          refine ⟨(fun _ => hS20), ?_⟩
          refine kr_val rfl (hS20) (fun w' hS' => y_move) rfl rfl rfl ?_
          first | refine kr_skipG rfl (hS20) rfl rfl rfl rfl rfl rfl ?_ | refine kr_valG rfl (hS20) (fun w' hS' => y_load rfl (ld_aggB Try.underlying38 rfl I38 S38 (env_len hxe hxh) hS'.1.cs)) rfl rfl rfl rfl rfl ?_
          first | refine kr_skipG rfl (hS20) rfl rfl rfl rfl rfl rfl ?_ | refine kr_valG rfl (hS20) (fun w' hS' => y_load rfl (ld_aggB Try.underlying38 rfl I38 S38 hcy hS'.2.cs)) rfl rfl rfl rfl rfl ?_
          first | refine kr_skipG rfl (hS20) rfl rfl rfl rfl rfl rfl ?_ | refine kr_valG rfl (hS20) (fun w' hS' => y_load rfl (ld_aggB Try.underlying38 rfl I38 S38 (env_len hxe hxh) hS'.1.cs)) rfl rfl rfl rfl rfl ?_
          first | refine kr_skipG rfl (hS20) rfl rfl rfl rfl rfl rfl ?_ | refine kr_valG rfl (hS20) (fun w' hS' => y_load rfl (ld_aggB Try.underlying38 rfl I38 S38 hcy hS'.2.cs)) rfl rfl rfl rfl rfl ?_
          refine kr_owGS rfl rfl rfl rfl (ow_call1 fn13 rfl rfl rfl (Envelope_W hRx hlt (by omega) (by omega)) (kret_ret (fun v1 wb hO1 => ?_)))
          have hE' := hO1.ext
          replace hS20 := And.intro (hS20.1.keep hE' (fun h => h)) (hS20.2.keep hE' (fun h => h))
          replace hRx := hRx.keep hE' (fun _ _ h => h)
          replace hRy := hRy.keep hE' (fun _ _ h => h)
          replace hE9 := hE9.trans hE'
          have hsz := hE'.size
          replace hlt := fun b hb => Nat.lt_of_lt_of_le (hlt b hb) hsz
          clear hsz
          have hsl1 : SlR wb (ownB v1) v1 1 (wEnv x).length (bvs (wEnv x)) := SlR.ofOwn hO1.own (fun _ h => h)
          refine ⟨(fun _ => hS20), (fun w' => (Bx w' b5 38 (envCells x vb) ∧ Bx w' b6 38 cy) ∧ SlR w' (ownB v1) v1 1 (wEnv x).length (bvs (wEnv x))), (fun _ h => h.1), ?_⟩
          replace hS20 := And.intro hS20 hsl1
          first | refine kr_skipG rfl (hS20) rfl rfl rfl rfl rfl rfl ?_ | refine kr_valG rfl (hS20) (fun w' hS' => y_b2s Try.underlying22 Try.underlying5 Try.underlying9 rfl hS'.2) rfl rfl rfl rfl rfl ?_
          refine kr_owGS rfl rfl rfl rfl (ow_call1 fn13 rfl rfl rfl (Envelope_W hRy hlt (by omega) (by have := hOy.one.1; omega)) (kret_ret (fun v2 wc hO2 => ?_)))
          have hE' := hO2.ext
          replace hS20 := And.intro (And.intro (hS20.1.1.keep hE' (fun h => h)) (hS20.1.2.keep hE' (fun h => h))) (hS20.2.keep hE' (fun _ _ h => h))
          replace hRx := hRx.keep hE' (fun _ _ h => h)
          replace hRy := hRy.keep hE' (fun _ _ h => h)
          replace hE9 := hE9.trans hE'
          have hsz := hE'.size
          replace hlt := fun b hb => Nat.lt_of_lt_of_le (hlt b hb) hsz
          clear hsz
          have hsl2 : SlR wc (ownB v2) v2 1 (wEnv y).length (bvs (wEnv y)) := SlR.ofOwn hO2.own (fun _ h => h)
          refine ⟨(fun _ => hS20), (fun w' => ((Bx w' b5 38 (envCells x vb) ∧ Bx w' b6 38 cy) ∧ SlR w' (ownB v1) v1 1 (wEnv x).length (bvs (wEnv x))) ∧ SlR w' (ownB v2) v2 1 (wEnv y).length (bvs (wEnv y))), (fun _ h => h.1), ?_⟩
          replace hS20 := And.intro hS20 hsl2
          first | refine kr_skipG rfl (hS20) rfl rfl rfl rfl rfl rfl ?_ | refine kr_valG rfl (hS20) (fun w' hS' => y_b2s Try.underlying22 Try.underlying5 Try.underlying9 rfl hS'.2) rfl rfl rfl rfl rfl ?_
          first | refine kr_skipG rfl (hS20) rfl rfl rfl rfl rfl rfl ?_ | refine kr_valG rfl (hS20) (fun w' hS' => y_seql rfl rfl) rfl rfl rfl rfl rfl ?_
          refine kr_owG rfl rfl rfl rfl (ow_call2 fn14 rfl rfl rfl rfl (SameEnvelope_c hRx hRy) (kret_ret (fun u wd ⟨b, hu, hbb, hE'⟩ => ?_)))
          subst hu
          replace hS20 := And.intro (And.intro (And.intro (hS20.1.1.1.keep hE' (fun h => h)) (hS20.1.1.2.keep hE' (fun h => h))) (hS20.1.2.keep hE' (fun _ _ h => h))) (hS20.2.keep hE' (fun _ _ h => h))
          replace hRx := hRx.keep hE' (fun _ _ h => h)
          replace hRy := hRy.keep hE' (fun _ _ h => h)
          replace hE9 := hE9.trans hE'
          have hsz := hE'.size
          replace hlt := fun b hb => Nat.lt_of_lt_of_le (hlt b hb) hsz
          clear hsz
          refine ⟨(fun _ => hS20), ?_⟩
          first | refine kr_skipG rfl (hS20) rfl rfl rfl rfl rfl rfl ?_ | refine kr_valG rfl (hS20) (fun w' hS' => yb (b := true) (y_beql Try.underlying4 rfl rfl) (beq_env hOx hOy hbb)) rfl rfl rfl rfl rfl ?_
          refine kr_val rfl (hS20) (fun w' hS' => by first | exact y_pickT rfl | exact y_pickF rfl) rfl rfl rfl ?_
          refine kr_val rfl (hS20) (fun w' hS' => y_assign) rfl rfl rfl ?_
          refine kr_nil ?_
          refine x_seq ?_
          refine k_ret ?_
          exact k_ret1 rfl rfl ⟨_, rfl, rfl, hE9⟩
        · skip
          refine k_seq ?_
          refine k_region ?_
          refine kl_val (y_eql rfl rfl) rfl rfl rfl ?_
          refine kl_val (y_assign) rfl rfl rfl ?_
          refine kl_nil ?_
          refine x_seq ?_
          refine k_condp rfl (fun hk3 => ?_) (fun hk3 => ?_)
          · skip
            refine k_region ?_
            refine kl_val (y_fieldAddr Try.underlying38 rfl I3 S3 rfl rfl) rfl rfl rfl ?_
            refine kl_val (y_load rfl (ld_one Try.underlying3 rfl (bx_cell hb6 (pc_drop (a := 1) (o := 35) rfl (pc_drop (a := 1) (o := 34) rfl (pc_drop (a := 1) (o := 33) rfl (pc_drop (a := 32) (o := 1) (bv32 hxe) (pc_drop (a := 1) (o := 0) rfl (pc_take rfl))))))))) rfl rfl rfl ?_
            refine kl_val (y_add64 rfl rfl (by omega)) rfl rfl rfl ?_
            refine kl_val (y_rem' rfl rfl (by decide) (by omega)) rfl rfl rfl ?_
            refine kl_val (y_sub64 rfl rfl (by omega)) rfl rfl rfl ?_
            refine kl_val (y_fieldAddr Try.underlying38 rfl I3 S3 rfl rfl) rfl rfl rfl ?_
            refine kl_ow rfl (ow_store (b := b6) (o := 36) I3 S3 rfl (v := (i64 ((x.one + 2) % 50 - 1))) (xs := [(i64 ((x.one + 2) % 50 - 1))]) rfl hb6 rfl rfl (by rw [(env_len hxe hxh)]; simp) (One'.single rfl) (fun wN hbN hfN hzN => ?_))
            have hE9 : Ext w wN := (hE1.trans hE5).trans' hfN (fun i hi e => absurd e (by omega))
            obtain ⟨cy, y, hb6, hRy, hOy⟩ : ∃ (cy : List Value) (y : Env'), Bx wN b6 38 cy ∧ EnvR wN (fun b => b < wN.heap.size) cy y ∧ y.Ok := ⟨_, { x with one := (x.one + 2) % 50 - 1 }, bx_eq hbN (env_one hxe _), envR_mk hxe hxh ((hsb.keep hfN (fun j hj e => by have e' : j = b6 := e; have := hB j hj; omega)).mono (fun j hj => by have := hB j hj; have := hE9.size; omega)), ⟨hOx.src, hOx.device, hOx.eph, hOx.signed, ⟨by show 0 ≤ (x.one + 2) % 50 - 1 + 1; omega, by show (x.one + 2) % 50 - 1 + 1 ≤ _; omega⟩, hOx.head, hOx.body⟩⟩
            replace hb5 := hb5.keep hfN (fun e => hb56 e)
            replace hRx := (hRx.keep hfN (fun j hj e => by have e' : j = b6 := e; have := hB j hj; omega)).mono (B' := fun b => b < wN.heap.size) (fun j hj => by have := hB j hj; have := hE9.size; omega)
            refine kl_nil ?_
            refine x_blk ?_
            refine x_seq ?_
            refine k_seq ?_
            refine k_regionD (S := fun w' => Bx w' b5 38 (envCells x vb) ∧ Bx w' b6 38 cy) [] [(0, false), (1, true), (2, true), (5, true), (9, true), (10, true), (3, false), (4, true), (6, false), (7, true), (8, true), (11, false), (12, true), (13, true), (14, true)] mixed (fun _ _ _ _ _ h => h) (by kernel_rfl) ?_
            have hE' : Ext wN wN.drew := Fr.drew1 _ _
            have hlt : ∀ b, b < wN.heap.size → b < wN.drew.heap.size := fun b hb => hb
            have hS20 : Bx wN.drew b5 38 (envCells x vb) ∧ Bx wN.drew b6 38 cy := ⟨hb5.keep hE' (fun h => h), hb6.keep hE' (fun h => h)⟩
            replace hRx := hRx.keep hE' (fun _ _ h => h)
            replace hRy := hRy.keep hE' (fun _ _ h => h)
            replace hE9 := hE9.trans hE'
            have hwx := wEnv_len hOx
            have hwy := wEnv_len hOy
            have hcy := hRy.length
            refine kr_ow rfl rfl (ow_call0 fn11 rfl rfl (known_R) (kret_ret (fun u wa ⟨hu, hE'⟩ => ?_)))
            subst hu
            replace hS20 := And.intro (hS20.1.keep hE' (fun h => h)) (hS20.2.keep hE' (fun h => h))
            replace hRx := hRx.keep hE' (fun _ _ h => h)
            replace hRy := hRy.keep hE' (fun _ _ h => h)
            replace hE9 := hE9.trans hE'
            have hsz := hE'.size
            replace hlt := fun b hb => Nat.lt_of_lt_of_le (hlt b hb) hsz
            clear hsz
            refine ⟨(fun _ => hS20), ?_⟩
            refine kr_val rfl (hS20) (fun w' hS' => y_move) rfl rfl rfl ?_
            first | refine kr_skipG rfl (hS20) rfl rfl rfl rfl rfl rfl ?_ | refine kr_valG rfl (hS20) (fun w' hS' => y_load rfl (ld_aggB Try.underlying38 rfl I38 S38 (env_len hxe hxh) hS'.1.cs)) rfl rfl rfl rfl rfl ?_
            first | refine kr_skipG rfl (hS20) rfl rfl rfl rfl rfl rfl ?_ | refine kr_valG rfl (hS20) (fun w' hS' => y_load rfl (ld_aggB Try.underlying38 rfl I38 S38 hcy hS'.2.cs)) rfl rfl rfl rfl rfl ?_
            first | refine kr_skipG rfl (hS20) rfl rfl rfl rfl rfl rfl ?_ | refine kr_valG rfl (hS20) (fun w' hS' => y_load rfl (ld_aggB Try.underlying38 rfl I38 S38 (env_len hxe hxh) hS'.1.cs)) rfl rfl rfl rfl rfl ?_
            first | refine kr_skipG rfl (hS20) rfl rfl rfl rfl rfl rfl ?_ | refine kr_valG rfl (hS20) (fun w' hS' => y_load rfl (ld_aggB Try.underlying38 rfl I38 S38 hcy hS'.2.cs)) rfl rfl rfl rfl rfl ?_
            refine kr_owGS rfl rfl rfl rfl (ow_call1 fn13 rfl rfl rfl (Envelope_W hRx hlt (by omega) (by omega)) (kret_ret (fun v1 wb hO1 => ?_)))
            have hE' := hO1.ext
            replace hS20 := And.intro (hS20.1.keep hE' (fun h => h)) (hS20.2.keep hE' (fun h => h))
            replace hRx := hRx.keep hE' (fun _ _ h => h)
            replace hRy := hRy.keep hE' (fun _ _ h => h)
            replace hE9 := hE9.trans hE'
            have hsz := hE'.size
            replace hlt := fun b hb => Nat.lt_of_lt_of_le (hlt b hb) hsz
            clear hsz
            have hsl1 : SlR wb (ownB v1) v1 1 (wEnv x).length (bvs (wEnv x)) := SlR.ofOwn hO1.own (fun _ h => h)
            refine ⟨(fun _ => hS20), (fun w' => (Bx w' b5 38 (envCells x vb) ∧ Bx w' b6 38 cy) ∧ SlR w' (ownB v1) v1 1 (wEnv x).length (bvs (wEnv x))), (fun _ h => h.1), ?_⟩
            replace hS20 := And.intro hS20 hsl1
            first | refine kr_skipG rfl (hS20) rfl rfl rfl rfl rfl rfl ?_ | refine kr_valG rfl (hS20) (fun w' hS' => y_b2s Try.underlying22 Try.underlying5 Try.underlying9 rfl hS'.2) rfl rfl rfl rfl rfl ?_
            refine kr_owGS rfl rfl rfl rfl (ow_call1 fn13 rfl rfl rfl (Envelope_W hRy hlt (by omega) (by have := hOy.one.1; omega)) (kret_ret (fun v2 wc hO2 => ?_)))
            have hE' := hO2.ext
            replace hS20 := And.intro (And.intro (hS20.1.1.keep hE' (fun h => h)) (hS20.1.2.keep hE' (fun h => h))) (hS20.2.keep hE' (fun _ _ h => h))
            replace hRx := hRx.keep hE' (fun _ _ h => h)
            replace hRy := hRy.keep hE' (fun _ _ h => h)
            replace hE9 := hE9.trans hE'
            have hsz := hE'.size
            replace hlt := fun b hb => Nat.lt_of_lt_of_le (hlt b hb) hsz
            clear hsz
            have hsl2 : SlR wc (ownB v2) v2 1 (wEnv y).length (bvs (wEnv y)) := SlR.ofOwn hO2.own (fun _ h => h)
            refine ⟨(fun _ => hS20), (fun w' => ((Bx w' b5 38 (envCells x vb) ∧ Bx w' b6 38 cy) ∧ SlR w' (ownB v1) v1 1 (wEnv x).length (bvs (wEnv x))) ∧ SlR w' (ownB v2) v2 1 (wEnv y).length (bvs (wEnv y))), (fun _ h => h.1), ?_⟩
            replace hS20 := And.intro hS20 hsl2
            first | refine kr_skipG rfl (hS20) rfl rfl rfl rfl rfl rfl ?_ | refine kr_valG rfl (hS20) (fun w' hS' => y_b2s Try.underlying22 Try.underlying5 Try.underlying9 rfl hS'.2) rfl rfl rfl rfl rfl ?_
            first | refine kr_skipG rfl (hS20) rfl rfl rfl rfl rfl rfl ?_ | refine kr_valG rfl (hS20) (fun w' hS' => y_seql rfl rfl) rfl rfl rfl rfl rfl ?_
            refine kr_owG rfl rfl rfl rfl (ow_call2 fn14 rfl rfl rfl rfl (SameEnvelope_c hRx hRy) (kret_ret (fun u wd ⟨b, hu, hbb, hE'⟩ => ?_)))
            subst hu
            replace hS20 := And.intro (And.intro (And.intro (hS20.1.1.1.keep hE' (fun h => h)) (hS20.1.1.2.keep hE' (fun h => h))) (hS20.1.2.keep hE' (fun _ _ h => h))) (hS20.2.keep hE' (fun _ _ h => h))
            replace hRx := hRx.keep hE' (fun _ _ h => h)
            replace hRy := hRy.keep hE' (fun _ _ h => h)
            replace hE9 := hE9.trans hE'
            have hsz := hE'.size
            replace hlt := fun b hb => Nat.lt_of_lt_of_le (hlt b hb) hsz
            clear hsz
            refine ⟨(fun _ => hS20), ?_⟩
            first | refine kr_skipG rfl (hS20) rfl rfl rfl rfl rfl rfl ?_ | refine kr_valG rfl (hS20) (fun w' hS' => yb (b := true) (y_beql Try.underlying4 rfl rfl) (beq_env hOx hOy hbb)) rfl rfl rfl rfl rfl ?_
            refine kr_val rfl (hS20) (fun w' hS' => by first | exact y_pickT rfl | exact y_pickF rfl) rfl rfl rfl ?_
            refine kr_val rfl (hS20) (fun w' hS' => y_assign) rfl rfl rfl ?_
            refine kr_nil ?_
            refine x_seq ?_
            refine k_ret ?_
            exact k_ret1 rfl rfl ⟨_, rfl, rfl, hE9⟩
          · skip
            refine k_seq ?_
            refine k_region ?_
            refine kl_val (y_eql rfl rfl) rfl rfl rfl ?_
            refine kl_val (y_assign) rfl rfl rfl ?_
            refine kl_nil ?_
            refine x_seq ?_
            refine k_condp rfl (fun hk4 => ?_) (fun hk4 => ?_)
            · skip
              refine k_region ?_
              refine kl_val (y_fieldAddr Try.underlying38 rfl I36 S36 rfl rfl) rfl rfl rfl ?_
              refine kl_val (y_fieldAddr Try.underlying36 rfl I3 S3 rfl rfl) rfl rfl rfl ?_
              refine kl_val (y_load rfl (ld_one Try.underlying3 rfl (bx_cell hb6 (show ((envCells x vb).drop 70).take 1 = [i64 x.head.n] from env_n_get hxe hxh)))) rfl rfl rfl ?_
              refine kl_val (y_add64 rfl rfl (by omega)) rfl rfl rfl ?_
              refine kl_val (y_rem' rfl rfl (by decide) (by omega)) rfl rfl rfl ?_
              refine kl_val (y_fieldAddr Try.underlying38 rfl I36 S36 rfl rfl) rfl rfl rfl ?_
              refine kl_val (y_fieldAddr Try.underlying36 rfl I3 S3 rfl rfl) rfl rfl rfl ?_
              refine kl_ow rfl (ow_store (b := b6) (o := 70) I3 S3 rfl (v := (i64 ((x.head.n + 1) % 1000))) (xs := [(i64 ((x.head.n + 1) % 1000))]) rfl hb6 rfl rfl (by rw [(env_len hxe hxh)]; simp) (One'.single rfl) (fun wN hbN hfN hzN => ?_))
              have hE9 : Ext w wN := (hE1.trans hE5).trans' hfN (fun i hi e => absurd e (by omega))
              obtain ⟨cy, y, hb6, hRy, hOy⟩ : ∃ (cy : List Value) (y : Env'), Bx wN b6 38 cy ∧ EnvR wN (fun b => b < wN.heap.size) cy y ∧ y.Ok := ⟨_, { x with head := { x.head with n := (x.head.n + 1) % 1000 } }, bx_eq hbN (env_n hxe hxh _), envR_mk hxe hxh ((hsb.keep hfN (fun j hj e => by have e' : j = b6 := e; have := hB j hj; omega)).mono (fun j hj => by have := hB j hj; have := hE9.size; omega)), ⟨hOx.src, hOx.device, hOx.eph, hOx.signed, hOx.one, ⟨hOx.head.ratchet, hOx.head.prev, ⟨by show 0 ≤ (x.head.n + 1) % 1000; omega, by show (x.head.n + 1) % 1000 ≤ _; omega⟩⟩, hOx.body⟩⟩
              replace hb5 := hb5.keep hfN (fun e => hb56 e)
              replace hRx := (hRx.keep hfN (fun j hj e => by have e' : j = b6 := e; have := hB j hj; omega)).mono (B' := fun b => b < wN.heap.size) (fun j hj => by have := hB j hj; have := hE9.size; omega)
              refine kl_nil ?_
              refine x_blk ?_
              refine x_seq ?_
              refine k_seq ?_
              refine k_regionD (S := fun w' => Bx w' b5 38 (envCells x vb) ∧ Bx w' b6 38 cy) [] [(0, false), (1, true), (2, true), (5, true), (9, true), (10, true), (3, false), (4, true), (6, false), (7, true), (8, true), (11, false), (12, true), (13, true), (14, true)] mixed (fun _ _ _ _ _ h => h) (by kernel_rfl) ?_
              have hE' : Ext wN wN.drew := Fr.drew1 _ _
              have hlt : ∀ b, b < wN.heap.size → b < wN.drew.heap.size := fun b hb => hb
              have hS20 : Bx wN.drew b5 38 (envCells x vb) ∧ Bx wN.drew b6 38 cy := ⟨hb5.keep hE' (fun h => h), hb6.keep hE' (fun h => h)⟩
              replace hRx := hRx.keep hE' (fun _ _ h => h)
              replace hRy := hRy.keep hE' (fun _ _ h => h)
              replace hE9 := hE9.trans hE'
              have hwx := wEnv_len hOx
              have hwy := wEnv_len hOy
              have hcy := hRy.length
              refine kr_ow rfl rfl (ow_call0 fn11 rfl rfl (known_R) (kret_ret (fun u wa ⟨hu, hE'⟩ => ?_)))
              subst hu
              replace hS20 := And.intro (hS20.1.keep hE' (fun h => h)) (hS20.2.keep hE' (fun h => h))
              replace hRx := hRx.keep hE' (fun _ _ h => h)
              replace hRy := hRy.keep hE' (fun _ _ h => h)
              replace hE9 := hE9.trans hE'
              have hsz := hE'.size
              replace hlt := fun b hb => Nat.lt_of_lt_of_le (hlt b hb) hsz
              clear hsz
              refine ⟨(fun _ => hS20), ?_⟩
              refine kr_val rfl (hS20) (fun w' hS' => y_move) rfl rfl rfl ?_
              first | refine kr_skipG rfl (hS20) rfl rfl rfl rfl rfl rfl ?_ | refine kr_valG rfl (hS20) (fun w' hS' => y_load rfl (ld_aggB Try.underlying38 rfl I38 S38 (env_len hxe hxh) hS'.1.cs)) rfl rfl rfl rfl rfl ?_
              first | refine kr_skipG rfl (hS20) rfl rfl rfl rfl rfl rfl ?_ | refine kr_valG rfl (hS20) (fun w' hS' => y_load rfl (ld_aggB Try.underlying38 rfl I38 S38 hcy hS'.2.cs)) rfl rfl rfl rfl rfl ?_
              first | refine kr_skipG rfl (hS20) rfl rfl rfl rfl rfl rfl ?_ | refine kr_valG rfl (hS20) (fun w' hS' => y_load rfl (ld_aggB Try.underlying38 rfl I38 S38 (env_len hxe hxh) hS'.1.cs)) rfl rfl rfl rfl rfl ?_
              first | refine kr_skipG rfl (hS20) rfl rfl rfl rfl rfl rfl ?_ | refine kr_valG rfl (hS20) (fun w' hS' => y_load rfl (ld_aggB Try.underlying38 rfl I38 S38 hcy hS'.2.cs)) rfl rfl rfl rfl rfl ?_
              refine kr_owGS rfl rfl rfl rfl (ow_call1 fn13 rfl rfl rfl (Envelope_W hRx hlt (by omega) (by omega)) (kret_ret (fun v1 wb hO1 => ?_)))
              have hE' := hO1.ext
              replace hS20 := And.intro (hS20.1.keep hE' (fun h => h)) (hS20.2.keep hE' (fun h => h))
              replace hRx := hRx.keep hE' (fun _ _ h => h)
              replace hRy := hRy.keep hE' (fun _ _ h => h)
              replace hE9 := hE9.trans hE'
              have hsz := hE'.size
              replace hlt := fun b hb => Nat.lt_of_lt_of_le (hlt b hb) hsz
              clear hsz
              have hsl1 : SlR wb (ownB v1) v1 1 (wEnv x).length (bvs (wEnv x)) := SlR.ofOwn hO1.own (fun _ h => h)
              refine ⟨(fun _ => hS20), (fun w' => (Bx w' b5 38 (envCells x vb) ∧ Bx w' b6 38 cy) ∧ SlR w' (ownB v1) v1 1 (wEnv x).length (bvs (wEnv x))), (fun _ h => h.1), ?_⟩
              replace hS20 := And.intro hS20 hsl1
              first | refine kr_skipG rfl (hS20) rfl rfl rfl rfl rfl rfl ?_ | refine kr_valG rfl (hS20) (fun w' hS' => y_b2s Try.underlying22 Try.underlying5 Try.underlying9 rfl hS'.2) rfl rfl rfl rfl rfl ?_
              refine kr_owGS rfl rfl rfl rfl (ow_call1 fn13 rfl rfl rfl (Envelope_W hRy hlt (by omega) (by have := hOy.one.1; omega)) (kret_ret (fun v2 wc hO2 => ?_)))
              have hE' := hO2.ext
              replace hS20 := And.intro (And.intro (hS20.1.1.keep hE' (fun h => h)) (hS20.1.2.keep hE' (fun h => h))) (hS20.2.keep hE' (fun _ _ h => h))
              replace hRx := hRx.keep hE' (fun _ _ h => h)
              replace hRy := hRy.keep hE' (fun _ _ h => h)
              replace hE9 := hE9.trans hE'
              have hsz := hE'.size
              replace hlt := fun b hb => Nat.lt_of_lt_of_le (hlt b hb) hsz
              clear hsz
              have hsl2 : SlR wc (ownB v2) v2 1 (wEnv y).length (bvs (wEnv y)) := SlR.ofOwn hO2.own (fun _ h => h)
              refine ⟨(fun _ => hS20), (fun w' => ((Bx w' b5 38 (envCells x vb) ∧ Bx w' b6 38 cy) ∧ SlR w' (ownB v1) v1 1 (wEnv x).length (bvs (wEnv x))) ∧ SlR w' (ownB v2) v2 1 (wEnv y).length (bvs (wEnv y))), (fun _ h => h.1), ?_⟩
              replace hS20 := And.intro hS20 hsl2
              first | refine kr_skipG rfl (hS20) rfl rfl rfl rfl rfl rfl ?_ | refine kr_valG rfl (hS20) (fun w' hS' => y_b2s Try.underlying22 Try.underlying5 Try.underlying9 rfl hS'.2) rfl rfl rfl rfl rfl ?_
              first | refine kr_skipG rfl (hS20) rfl rfl rfl rfl rfl rfl ?_ | refine kr_valG rfl (hS20) (fun w' hS' => y_seql rfl rfl) rfl rfl rfl rfl rfl ?_
              refine kr_owG rfl rfl rfl rfl (ow_call2 fn14 rfl rfl rfl rfl (SameEnvelope_c hRx hRy) (kret_ret (fun u wd ⟨b, hu, hbb, hE'⟩ => ?_)))
              subst hu
              replace hS20 := And.intro (And.intro (And.intro (hS20.1.1.1.keep hE' (fun h => h)) (hS20.1.1.2.keep hE' (fun h => h))) (hS20.1.2.keep hE' (fun _ _ h => h))) (hS20.2.keep hE' (fun _ _ h => h))
              replace hRx := hRx.keep hE' (fun _ _ h => h)
              replace hRy := hRy.keep hE' (fun _ _ h => h)
              replace hE9 := hE9.trans hE'
              have hsz := hE'.size
              replace hlt := fun b hb => Nat.lt_of_lt_of_le (hlt b hb) hsz
              clear hsz
              refine ⟨(fun _ => hS20), ?_⟩
              first | refine kr_skipG rfl (hS20) rfl rfl rfl rfl rfl rfl ?_ | refine kr_valG rfl (hS20) (fun w' hS' => yb (b := true) (y_beql Try.underlying4 rfl rfl) (beq_env hOx hOy hbb)) rfl rfl rfl rfl rfl ?_
              refine kr_val rfl (hS20) (fun w' hS' => by first | exact y_pickT rfl | exact y_pickF rfl) rfl rfl rfl ?_
              refine kr_val rfl (hS20) (fun w' hS' => y_assign) rfl rfl rfl ?_
              refine kr_nil ?_
              refine x_seq ?_
              refine k_ret ?_
              exact k_ret1 rfl rfl ⟨_, rfl, rfl, hE9⟩
            · skip
              refine k_seq ?_
              refine k_region ?_
              refine kl_val (y_assign) rfl rfl rfl ?_
              refine kl_nil ?_
              refine x_seq ?_
              refine k_seq ?_
              refine k_region ?_
              refine kl_val (y_move) rfl rfl rfl ?_
              refine kl_val (y_fieldAddr Try.underlying38 rfl I22 S22 rfl rfl) rfl rfl rfl ?_
              refine kl_val (y_load rfl (ld_one Try.underlying22 rfl (bx_cell hb6 (pc_drop (a := 1) (o := 70) rfl (pc_drop (a := 1) (o := 69) rfl (pc_drop (a := 1) (o := 68) rfl (pc_drop (a := 32) (o := 36) (bv32 hxe) (pc_drop (a := 1) (o := 35) rfl (pc_drop (a := 1) (o := 34) rfl (pc_drop (a := 34) (o := 0) (hd34 hxh) (pc_last rfl))))))))))) rfl rfl rfl ?_
              refine kl_ow rfl (ow_appendR Try.underlying22 I5 Z5 S5 rfl (by decide) (by rw [B5]; decide) rfl (World.ownsRow_nil _ _ _ _) rfl hsb (bvs_one _) (by omega) rfl (fun v1 w6 ho1 hf6 hfr1 => ?_))
              have hn1 : ∀ b, ownB v1 b → w5.heap.size ≤ b := by
                rcases hfr1 with e | e
                · intro b hb; unfold ownB at hb; rw [e] at hb; cases hb
                · exact e
              replace hf6 : Ext w5 w6 := hf6.mono (fun i hi e => by cases e)
              have hs6 := hf6.size
              replace hb5 := hb5.keep hf6 (fun h => h)
              replace hb6 := hb6.keep hf6 (fun h => h)
              replace hRx := hRx.keep hf6 (fun _ _ h => h)
              refine kl_val (y_assign) rfl rfl rfl ?_
              refine kl_nil ?_
              refine x_seq ?_
              refine k_seq ?_
              refine k_region ?_
              refine kl_val (y_move) rfl rfl rfl ?_
              refine kl_val (y_move) rfl rfl rfl ?_
              refine kl_ow rfl (ow_slice1 Try.underlying22 I5 Z5 S5 rfl rfl (v := bv kb) rfl (by decide) (by decide) rfl (fun w7 b7 hb7 hf7 he7 hz7 => ?_))
              have hs7 := hf7.size
              replace hb5 := hb5.keep hf7 (fun h => h)
              replace hb6 := hb6.keep hf7 (fun h => h)
              replace hRx := hRx.keep hf7 (fun _ _ h => h)
              replace ho1 := own_keep ho1 hf7 (fun _ _ h => h)
              refine kl_ow rfl (ow_append Try.underlying22 I5 Z5 S5 rfl (by decide) (by rw [B5]; decide) rfl ho1 rfl (news := bvs [kb]) rfl hb7.cs (bvs_one _) (by omega) rfl (fun v2 w8 ho2 hf8 hfr2 _ => ?_))
              have hn2 : ∀ b, ownB v2 b → w5.heap.size ≤ b := by
                rcases hfr2 with e | e
                · intro b hb; have e : v2.ownBlock = v1.ownBlock := e; refine hn1 b ?_; unfold ownB at *; rw [← e]; exact hb
                · exact fun b hb => by have := e b hb; omega
              have hlt5 := hb5.lt
              replace hb5 := hb5.keep hf8 (fun h => by have := hn1 _ h; omega)
              replace hb6 := hb6.keep hf8 (fun h => by have := hn1 _ h; omega)
              replace hRx := hRx.keep hf8 (fun j hj h => by have := hn1 _ h; have := hB j hj; omega)
              have hE8 : Ext w5 w8 := (hf6.trans hf7).trans' hf8 (fun i hi h => by have := hn1 _ h; omega)
              have hbl : 0 + x.body.length + 1 = (x.body ++ [kb]).length := by simp
              rw [hbl, List.nil_append, ← bvs_append] at ho2
              have hs2 := SlR.ofOwn (B := fun b => b < w8.heap.size ∧ w5.heap.size ≤ b) ho2 (fun b hb => ⟨own_lt ho2 hb, hn2 b hb⟩)
              have hone2 := hs2.one
              refine kl_val (y_assign) rfl rfl rfl ?_
              refine kl_nil ?_
              refine x_seq ?_
              refine k_region ?_
              refine kl_val (y_move) rfl rfl rfl ?_
              refine kl_val (y_fieldAddr Try.underlying38 rfl I22 S22 rfl rfl) rfl rfl rfl ?_
              refine kl_ow rfl (ow_store (b := b6) (o := 71) I22 S22 rfl (v := v2) (xs := [v2]) rfl hb6 hone2.2 rfl (by rw [(env_len hxe hxh)]; simp) (One'.single hone2.1) (fun wN hbN hfN hzN => ?_))
              have hE9 : Ext w wN := ((hE1.trans hE5).trans hE8).trans' hfN (fun i hi e => absurd e (by omega))
              have hs8 := hE8.size
              have hs9 := hfN.size
              obtain ⟨cy, y, hb6, hRy, hOy⟩ : ∃ (cy : List Value) (y : Env'), Bx wN b6 38 cy ∧ EnvR wN (fun b => b < wN.heap.size) cy y ∧ y.Ok := ⟨_, { x with body := x.body ++ [kb] }, bx_eq hbN ((env_body hxe hxh).trans (show envCells x v2 = envCells { x with body := x.body ++ [kb] } v2 from rfl)), envR_mk (x := { x with body := x.body ++ [kb] }) hxe hxh ((hs2.keep hfN (fun j hj e => by have e' : j = b6 := e; have := hj.2; omega)).mono (fun j hj => by have := hj.1; omega)), ⟨hOx.src, hOx.device, hOx.eph, hOx.signed, hOx.one, hOx.head, by show (x.body ++ [kb]).length ≤ _; rw [List.length_append, List.length_singleton]; omega⟩⟩
              replace hb5 := hb5.keep hfN (fun e => hb56 e)
              replace hRx := (hRx.keep hfN (fun j hj e => by have e' : j = b6 := e; have := hB j hj; omega)).mono (B' := fun b => b < wN.heap.size) (fun j hj => by have := hB j hj; have := hE9.size; omega)
              refine kl_nil ?_
              refine x_blk ?_
              refine x_seq ?_
              refine k_seq ?_
              refine k_regionD (S := fun w' => Bx w' b5 38 (envCells x vb) ∧ Bx w' b6 38 cy) [] [(0, false), (1, true), (2, true), (5, true), (9, true), (10, true), (3, false), (4, true), (6, false), (7, true), (8, true), (11, false), (12, true), (13, true), (14, true)] mixed (fun _ _ _ _ _ h => h) (by kernel_rfl) ?_
              have hE' : Ext wN wN.drew := Fr.drew1 _ _
              have hlt : ∀ b, b < wN.heap.size → b < wN.drew.heap.size := fun b hb => hb
              have hS20 : Bx wN.drew b5 38 (envCells x vb) ∧ Bx wN.drew b6 38 cy := ⟨hb5.keep hE' (fun h => h), hb6.keep hE' (fun h => h)⟩
              replace hRx := hRx.keep hE' (fun _ _ h => h)
              replace hRy := hRy.keep hE' (fun _ _ h => h)
              replace hE9 := hE9.trans hE'
              have hwx := wEnv_len hOx
              have hwy := wEnv_len hOy
              have hcy := hRy.length
              refine kr_ow rfl rfl (ow_call0 fn11 rfl rfl (known_R) (kret_ret (fun u wa ⟨hu, hE'⟩ => ?_)))
              subst hu
              replace hS20 := And.intro (hS20.1.keep hE' (fun h => h)) (hS20.2.keep hE' (fun h => h))
              replace hRx := hRx.keep hE' (fun _ _ h => h)
              replace hRy := hRy.keep hE' (fun _ _ h => h)
              replace hE9 := hE9.trans hE'
              have hsz := hE'.size
              replace hlt := fun b hb => Nat.lt_of_lt_of_le (hlt b hb) hsz
              clear hsz
              refine ⟨(fun _ => hS20), ?_⟩
              refine kr_val rfl (hS20) (fun w' hS' => y_move) rfl rfl rfl ?_
              first | refine kr_skipG rfl (hS20) rfl rfl rfl rfl rfl rfl ?_ | refine kr_valG rfl (hS20) (fun w' hS' => y_load rfl (ld_aggB Try.underlying38 rfl I38 S38 (env_len hxe hxh) hS'.1.cs)) rfl rfl rfl rfl rfl ?_
              first | refine kr_skipG rfl (hS20) rfl rfl rfl rfl rfl rfl ?_ | refine kr_valG rfl (hS20) (fun w' hS' => y_load rfl (ld_aggB Try.underlying38 rfl I38 S38 hcy hS'.2.cs)) rfl rfl rfl rfl rfl ?_
              first | refine kr_skipG rfl (hS20) rfl rfl rfl rfl rfl rfl ?_ | refine kr_valG rfl (hS20) (fun w' hS' => y_load rfl (ld_aggB Try.underlying38 rfl I38 S38 (env_len hxe hxh) hS'.1.cs)) rfl rfl rfl rfl rfl ?_
              first | refine kr_skipG rfl (hS20) rfl rfl rfl rfl rfl rfl ?_ | refine kr_valG rfl (hS20) (fun w' hS' => y_load rfl (ld_aggB Try.underlying38 rfl I38 S38 hcy hS'.2.cs)) rfl rfl rfl rfl rfl ?_
              refine kr_owGS rfl rfl rfl rfl (ow_call1 fn13 rfl rfl rfl (Envelope_W hRx hlt (by omega) (by omega)) (kret_ret (fun v1 wb hO1 => ?_)))
              have hE' := hO1.ext
              replace hS20 := And.intro (hS20.1.keep hE' (fun h => h)) (hS20.2.keep hE' (fun h => h))
              replace hRx := hRx.keep hE' (fun _ _ h => h)
              replace hRy := hRy.keep hE' (fun _ _ h => h)
              replace hE9 := hE9.trans hE'
              have hsz := hE'.size
              replace hlt := fun b hb => Nat.lt_of_lt_of_le (hlt b hb) hsz
              clear hsz
              have hsl1 : SlR wb (ownB v1) v1 1 (wEnv x).length (bvs (wEnv x)) := SlR.ofOwn hO1.own (fun _ h => h)
              refine ⟨(fun _ => hS20), (fun w' => (Bx w' b5 38 (envCells x vb) ∧ Bx w' b6 38 cy) ∧ SlR w' (ownB v1) v1 1 (wEnv x).length (bvs (wEnv x))), (fun _ h => h.1), ?_⟩
              replace hS20 := And.intro hS20 hsl1
              first | refine kr_skipG rfl (hS20) rfl rfl rfl rfl rfl rfl ?_ | refine kr_valG rfl (hS20) (fun w' hS' => y_b2s Try.underlying22 Try.underlying5 Try.underlying9 rfl hS'.2) rfl rfl rfl rfl rfl ?_
              refine kr_owGS rfl rfl rfl rfl (ow_call1 fn13 rfl rfl rfl (Envelope_W hRy hlt (by omega) (by have := hOy.one.1; omega)) (kret_ret (fun v2 wc hO2 => ?_)))
              have hE' := hO2.ext
              replace hS20 := And.intro (And.intro (hS20.1.1.keep hE' (fun h => h)) (hS20.1.2.keep hE' (fun h => h))) (hS20.2.keep hE' (fun _ _ h => h))
              replace hRx := hRx.keep hE' (fun _ _ h => h)
              replace hRy := hRy.keep hE' (fun _ _ h => h)
              replace hE9 := hE9.trans hE'
              have hsz := hE'.size
              replace hlt := fun b hb => Nat.lt_of_lt_of_le (hlt b hb) hsz
              clear hsz
              have hsl2 : SlR wc (ownB v2) v2 1 (wEnv y).length (bvs (wEnv y)) := SlR.ofOwn hO2.own (fun _ h => h)
              refine ⟨(fun _ => hS20), (fun w' => ((Bx w' b5 38 (envCells x vb) ∧ Bx w' b6 38 cy) ∧ SlR w' (ownB v1) v1 1 (wEnv x).length (bvs (wEnv x))) ∧ SlR w' (ownB v2) v2 1 (wEnv y).length (bvs (wEnv y))), (fun _ h => h.1), ?_⟩
              replace hS20 := And.intro hS20 hsl2
              first | refine kr_skipG rfl (hS20) rfl rfl rfl rfl rfl rfl ?_ | refine kr_valG rfl (hS20) (fun w' hS' => y_b2s Try.underlying22 Try.underlying5 Try.underlying9 rfl hS'.2) rfl rfl rfl rfl rfl ?_
              first | refine kr_skipG rfl (hS20) rfl rfl rfl rfl rfl rfl ?_ | refine kr_valG rfl (hS20) (fun w' hS' => y_seql rfl rfl) rfl rfl rfl rfl rfl ?_
              refine kr_owG rfl rfl rfl rfl (ow_call2 fn14 rfl rfl rfl rfl (SameEnvelope_c hRx hRy) (kret_ret (fun u wd ⟨b, hu, hbb, hE'⟩ => ?_)))
              subst hu
              replace hS20 := And.intro (And.intro (And.intro (hS20.1.1.1.keep hE' (fun h => h)) (hS20.1.1.2.keep hE' (fun h => h))) (hS20.1.2.keep hE' (fun _ _ h => h))) (hS20.2.keep hE' (fun _ _ h => h))
              replace hRx := hRx.keep hE' (fun _ _ h => h)
              replace hRy := hRy.keep hE' (fun _ _ h => h)
              replace hE9 := hE9.trans hE'
              have hsz := hE'.size
              replace hlt := fun b hb => Nat.lt_of_lt_of_le (hlt b hb) hsz
              clear hsz
              refine ⟨(fun _ => hS20), ?_⟩
              first | refine kr_skipG rfl (hS20) rfl rfl rfl rfl rfl rfl ?_ | refine kr_valG rfl (hS20) (fun w' hS' => yb (b := true) (y_beql Try.underlying4 rfl rfl) (beq_env hOx hOy hbb)) rfl rfl rfl rfl rfl ?_
              refine kr_val rfl (hS20) (fun w' hS' => by first | exact y_pickT rfl | exact y_pickF rfl) rfl rfl rfl ?_
              refine kr_val rfl (hS20) (fun w' hS' => y_assign) rfl rfl rfl ?_
              refine kr_nil ?_
              refine x_seq ?_
              refine k_ret ?_
              exact k_ret1 rfl rfl ⟨_, rfl, rfl, hE9⟩

end Go.Proofs.Ythpocekigliomaa.K
