/- The reader of keys, prekeys, headers. Condition: a reader stands at p. -/
import Derived.Test.YthpocekigliomaaKRa
namespace Go.Proofs.Ythpocekigliomaa.K
open Go

set_option maxRecDepth 100000 in
set_option maxHeartbeats 1000000 in
theorem key_r {p : Addr} {v : Value} {bs : List UInt8} {B : Nat → Prop} {w : World} (h : Rd w B p v bs) :
    ReadC Try.prog 107 #[.pointer (some p)] w B p (pTake 32 bs) (fun _ u x => u = .agg (bvs x).toArray ∧ x.length = 32) := by
  refine k_enter1 Try.func107 rfl Try.ntmps107 rfl ?_
  refine k_seq ?_
  refine k_region ?_
  refine kl_ow rfl (ow_alloc I34 Z34 rfl (fun w0 b hb0 hf0 he0 hz0 => ?_))
  have hR := h.ext hf0
  have hlt := h.lt
  refine kl_nil ?_
  refine x_seq ?_
  refine k_seq ?_
  refine k_regionD (S := fun _ => True) [] [(0, true), (1, true), (2, false), (3, false)] mixed (fun _ _ _ _ _ h => h) (by kernel_rfl) ?_
  replace hR := hR.ext (Fr.drew1 _ _)
  have hb1 : Bx w0.drew b _ _ := hb0
  have hF1 : Fr (· = p.block) w w0.drew := Ext.fr (Fr.drew hf0)
  refine kr_val rfl (trivial) (fun w' hS' => y_sliceA Try.underlying34 I5 rfl) rfl rfl rfl ?_
  refine kr_val rfl (trivial) (fun w' hS' => y_move) rfl rfl rfl ?_
  refine kr_ow rfl rfl (ow_call2 fn125 rfl rfl rfl rfl (take_r (n := 32) hR (by decide)) (kret_retP (fun u w1 ⟨x, rest, v1, hx, hR1, hf, hu⟩ => ?_) (fun c w' ⟨e, he, hc, hf⟩ => ⟨rfl, .inr ⟨c, rfl, e, he, hc, hF1.trans hf⟩⟩)))
  have hk : x.length = 32 := by obtain ⟨h1, rfl, _⟩ := pTake_ok hx; simp; omega
  obtain ⟨a, cap, rfl, hcs⟩ : ∃ a cap, u = .slice (some a) 32 cap ∧ Cs w1 a (bvs x) := by
    rcases hu.2 with ⟨_, h0⟩ | ⟨a, cap, h1, _, _, h3⟩
    · omega
    · exact ⟨a, cap, by rw [h1, hk], h3⟩
  replace hF1 := hF1.trans hf
  replace hb1 := hb1.keep hf (by omega)
  refine ⟨(fun _ => trivial), ?_⟩
  refine kr_ow rfl rfl (ow_copy Try.underlying22 I5 S5 rfl rfl hb1 hcs (by rw [bvs_length, hk]; rfl) (by rw [bvs_length, hk]; decide) (bvs_one _) rfl (fun w2 hb2 hf2 hz2 => ?_))
  replace hb2 := bx_eq hb2 (splice_all (by rw [bvs_length, hk]; rfl))
  replace hF1 := hF1.trans' hf2 (fun i hi e => absurd e (by omega))
  replace hR1 := hR1.keep hf2 (by omega) (fun i hi => by have := hR1.old i hi; omega)
  refine ⟨(fun _ => trivial), ?_⟩
  refine kr_nil ?_
  refine x_seq ?_
  refine k_seq ?_
  refine k_region ?_
  refine kl_val (y_load rfl (ld_aggB Try.underlying34 rfl I34 S34 (by rw [bvs_length, hk]) hb2.cs)) rfl rfl rfl ?_
  refine kl_ow rfl (ow_store (b := b) (o := 0) I34 S34 rfl (v := .agg (bvs x).toArray) rfl hb2 rfl (by rw [bvs_length, hk]) (by omega) (bvs_one _) (fun w3 hb3 hf3 hz3 => ?_))
  replace hb3 := bx_eq hb3 (splice_all rfl)
  replace hF1 := hF1.trans' hf3 (fun i hi e => absurd e (by omega))
  replace hR1 := hR1.keep hf3 (by omega) (fun i hi => by have := hR1.old i hi; omega)
  refine kl_nil ?_
  refine x_seq ?_
  refine k_ret ?_
  exact k_retC rfl rfl (ld_aggB Try.underlying34 rfl I34 S34 (by rw [bvs_length, hk]) hb3.cs) (.inl ⟨_, rfl, x, rest, v1, hx, hR1, hF1, rfl, hk⟩)

set_option maxRecDepth 100000 in
set_option maxHeartbeats 1000000 in
theorem sig_r {p : Addr} {v : Value} {bs : List UInt8} {B : Nat → Prop} {w : World} (h : Rd w B p v bs) :
    ReadC Try.prog 109 #[.pointer (some p)] w B p (pTake 64 bs) (fun _ u x => u = .agg (bvs x).toArray ∧ x.length = 64) := by
  refine k_enter1 Try.func109 rfl Try.ntmps109 rfl ?_
  refine k_seq ?_
  refine k_region ?_
  refine kl_ow rfl (ow_alloc I45 Z45 rfl (fun w0 b hb0 hf0 he0 hz0 => ?_))
  have hR := h.ext hf0
  have hlt := h.lt
  refine kl_nil ?_
  refine x_seq ?_
  refine k_seq ?_
  refine k_regionD (S := fun _ => True) [] [(0, true), (1, true), (2, false), (3, false)] mixed (fun _ _ _ _ _ h => h) (by kernel_rfl) ?_
  replace hR := hR.ext (Fr.drew1 _ _)
  have hb1 : Bx w0.drew b _ _ := hb0
  have hF1 : Fr (· = p.block) w w0.drew := Ext.fr (Fr.drew hf0)
  refine kr_val rfl (trivial) (fun w' hS' => y_sliceA Try.underlying45 I5 rfl) rfl rfl rfl ?_
  refine kr_val rfl (trivial) (fun w' hS' => y_move) rfl rfl rfl ?_
  refine kr_ow rfl rfl (ow_call2 fn125 rfl rfl rfl rfl (take_r (n := 64) hR (by decide)) (kret_retP (fun u w1 ⟨x, rest, v1, hx, hR1, hf, hu⟩ => ?_) (fun c w' ⟨e, he, hc, hf⟩ => ⟨rfl, .inr ⟨c, rfl, e, he, hc, hF1.trans hf⟩⟩)))
  have hk : x.length = 64 := by obtain ⟨h1, rfl, _⟩ := pTake_ok hx; simp; omega
  obtain ⟨a, cap, rfl, hcs⟩ : ∃ a cap, u = .slice (some a) 64 cap ∧ Cs w1 a (bvs x) := by
    rcases hu.2 with ⟨_, h0⟩ | ⟨a, cap, h1, _, _, h3⟩
    · omega
    · exact ⟨a, cap, by rw [h1, hk], h3⟩
  replace hF1 := hF1.trans hf
  replace hb1 := hb1.keep hf (by omega)
  refine ⟨(fun _ => trivial), ?_⟩
  refine kr_ow rfl rfl (ow_copy Try.underlying22 I5 S5 rfl rfl hb1 hcs (by rw [bvs_length, hk]; rfl) (by rw [bvs_length, hk]; decide) (bvs_one _) rfl (fun w2 hb2 hf2 hz2 => ?_))
  replace hb2 := bx_eq hb2 (splice_all (by rw [bvs_length, hk]; rfl))
  replace hF1 := hF1.trans' hf2 (fun i hi e => absurd e (by omega))
  replace hR1 := hR1.keep hf2 (by omega) (fun i hi => by have := hR1.old i hi; omega)
  refine ⟨(fun _ => trivial), ?_⟩
  refine kr_nil ?_
  refine x_seq ?_
  refine k_seq ?_
  refine k_region ?_
  refine kl_val (y_load rfl (ld_aggB Try.underlying45 rfl I45 S45 (by rw [bvs_length, hk]) hb2.cs)) rfl rfl rfl ?_
  refine kl_ow rfl (ow_store (b := b) (o := 0) I45 S45 rfl (v := .agg (bvs x).toArray) rfl hb2 rfl (by rw [bvs_length, hk]) (by omega) (bvs_one _) (fun w3 hb3 hf3 hz3 => ?_))
  replace hb3 := bx_eq hb3 (splice_all rfl)
  replace hF1 := hF1.trans' hf3 (fun i hi e => absurd e (by omega))
  replace hR1 := hR1.keep hf3 (by omega) (fun i hi => by have := hR1.old i hi; omega)
  refine kl_nil ?_
  refine x_seq ?_
  refine k_ret ?_
  exact k_retC rfl rfl (ld_aggB Try.underlying45 rfl I45 S45 (by rw [bvs_length, hk]) hb3.cs) (.inl ⟨_, rfl, x, rest, v1, hx, hR1, hF1, rfl, hk⟩)

set_option maxRecDepth 100000 in
set_option maxHeartbeats 1000000 in
theorem prekey_r {p : Addr} {v : Value} {bs : List UInt8} {B : Nat → Prop} {w : World} (h : Rd w B p v bs) :
    ReadC Try.prog 108 #[.pointer (some p)] w B p (pIdKey bs) (fun w' u x => ∃ cs, u = .agg cs.toArray ∧ IdKeyR w' (Nw w w') cs x) := by
  refine k_enter1 Try.func108 rfl Try.ntmps108 rfl ?_
  refine k_seq ?_
  refine k_region ?_
  refine kl_ow rfl (ow_alloc I49 Z49 rfl (fun w0 b hb0 hf0 he0 hz0 => ?_))
  have hlt := h.lt
  replace h := h.ext hf0
  have hF : Fr (· = p.block) w w0 := hf0.fr
  have hb : Bx w0 b _ ([Value.int .i64 0] ++ ((List.replicate 32 (Value.int .u8 0)))) := bx_eq hb0 rfl
  clear hb0
  have hNp : ∀ i, w0.heap.size ≤ i → ¬ i = p.block := fun i hi => by omega
  have hNb : ∀ i, w0.heap.size ≤ i → ¬ i = b := fun i hi => by omega
  have hbw : w.heap.size ≤ b := by omega
  have hbp : ¬ b = p.block := by omega
  have hs0 := Nat.le_refl w0.heap.size
  refine kl_nil ?_
  refine x_seq ?_
  refine k_seq ?_
  refine k_region ?_
  refine kl_val (y_move) rfl rfl rfl ?_
  refine kl_ow rfl (ow_call1 fn102 rfl rfl rfl (number_r h) (kret_retP (fun u0 w1 ⟨x0, rest0, v0, hq0, hR0, hf, hu0⟩ => ?_) (fun c w' ⟨e, he, hc, hf⟩ => ⟨rfl, .inr ⟨c, rfl, e, by simp only [pIdKey, pBind_err he], hc, hF.trans hf⟩⟩)))
  obtain ⟨rfl, hx0⟩ := hu0
  have hs1 := hf.size
  replace hs0 := Nat.le_trans hs0 hs1
  replace hF := hF.trans hf
  replace hb := hb.keep hf hbp
  replace h := hR0
  refine kl_val (y_fieldAddr Try.underlying49 rfl I3 S3 rfl rfl) rfl rfl rfl ?_
  have hLen : ([Value.int .i64 0] ++ ((List.replicate 32 (Value.int .u8 0)))).length = 33 := by simp
  refine kl_ow rfl (ow_store (b := b) (o := 0) I3 S3 rfl (v := .int .i64 (x0 : Int)) (xs := [i64 (x0 : Int)]) rfl hb rfl rfl (by have hl0 : ([i64 (x0 : Int)] : List Value).length = 1 := rfl; rw [hl0]; exact Nat.le_trans (by decide) (Nat.le_of_eq hLen.symm)) (One'.single rfl) (fun w2 hb2 hf2 hz2 => ?_))
  replace hb := bx_eq hb2 (sp_here rfl)
  clear hb2 hLen
  replace hF := hF.trans' hf2 (fun i hi e => absurd e (by omega))
  replace h := h.keep hf2 (fun e => hbp e.symm) (fun i hi => by have := h.old i hi; omega)
  have hs1 := hf2.size
  replace hs0 := Nat.le_trans hs0 hs1
  refine kl_nil ?_
  refine x_seq ?_
  refine k_seq ?_
  refine k_region ?_
  refine kl_val (y_move) rfl rfl rfl ?_
  refine kl_ow rfl (ow_call1 fn107 rfl rfl rfl (key_r h) (kret_retP (fun u1 w1 ⟨x1, rest1, v1, hq1, hR1, hf, hu1⟩ => ?_) (fun c w' ⟨e, he, hc, hf⟩ => ⟨rfl, .inr ⟨c, rfl, e, by simp only [pIdKey, pBind_ok hq0, pBind_err he], hc, hF.trans hf⟩⟩)))
  obtain ⟨rfl, hk1⟩ := hu1
  have hs1 := hf.size
  replace hs0 := Nat.le_trans hs0 hs1
  replace hF := hF.trans hf
  replace hb := hb.keep hf hbp
  replace h := hR1
  refine kl_val (y_fieldAddr Try.underlying49 rfl I34 S34 rfl rfl) rfl rfl rfl ?_
  have hLen : ([i64 (x0 : Int)] ++ ((List.replicate 32 (Value.int .u8 0)))).length = 33 := by simp
  refine kl_ow rfl (ow_store (b := b) (o := 1) I34 S34 rfl (v := .agg (bvs x1).toArray) (xs := bvs x1) rfl hb rfl (by rw [bvs_length]; exact hk1) (by have hl0 : (bvs x1 : List Value).length = 32 := (by rw [bvs_length]; exact hk1); rw [hl0]; exact Nat.le_trans (by decide) (Nat.le_of_eq hLen.symm)) (bvs_one _) (fun w2 hb2 hf2 hz2 => ?_))
  replace hb := bx_eq hb2 (sp_next (a := 1) (o := 0) rfl (sp_last (by rw [bvs_length, hk1]; rfl)))
  clear hb2 hLen
  replace hF := hF.trans' hf2 (fun i hi e => absurd e (by omega))
  replace h := h.keep hf2 (fun e => hbp e.symm) (fun i hi => by have := h.old i hi; omega)
  have hs1 := hf2.size
  replace hs0 := Nat.le_trans hs0 hs1
  refine kl_nil ?_
  refine x_seq ?_
  refine k_seq ?_
  refine k_region ?_
  refine kl_val (y_load rfl (ld_aggB Try.underlying49 rfl I49 S49 (by simp [hk1]) hb.cs)) rfl rfl rfl ?_
  refine kl_ow rfl (ow_store (b := b) (o := 0) (xs := [i64 (x0 : Int)] ++ (bvs x1)) I49 S49 rfl (v := .agg ([i64 (x0 : Int)] ++ (bvs x1)).toArray) rfl hb rfl (by simp [hk1]) (by omega) (((One'.single rfl)).append (One'.bvs _)) (fun w3 hb3 hf3 hz3 => ?_))
  replace hb := bx_eq hb3 (splice_all rfl)
  replace hF := hF.trans' hf3 (fun i hi e => absurd e (by omega))
  replace h := h.keep hf3 (fun e => hbp e.symm) (fun i hi => by have := h.old i hi; omega)
  refine kl_nil ?_
  refine x_seq ?_
  refine k_ret ?_
  exact k_retC rfl rfl (ld_aggB Try.underlying49 rfl I49 S49 (by simp [hk1]) hb.cs) (.inl ⟨_, rfl, ⟨(x0 : Int), x1⟩, rest1, v1, by simp only [pIdKey, pBind_ok hq0, pBind_ok hq1, pPure], h, hF, _, rfl, ⟨hk1, rfl⟩⟩)

set_option maxRecDepth 100000 in
set_option maxHeartbeats 1000000 in
theorem entry_r {p : Addr} {v : Value} {bs : List UInt8} {B : Nat → Prop} {w : World} (h : Rd w B p v bs) :
    ReadC Try.prog 115 #[.pointer (some p)] w B p (pIdKey bs) (fun w' u x => ∃ cs, u = .agg cs.toArray ∧ IdKeyR w' (Nw w w') cs x) := by
  refine k_enter1 Try.func115 rfl Try.ntmps115 rfl ?_
  refine k_seq ?_
  refine k_region ?_
  refine kl_ow rfl (ow_alloc I122 Z122 rfl (fun w0 b hb0 hf0 he0 hz0 => ?_))
  have hlt := h.lt
  replace h := h.ext hf0
  have hF : Fr (· = p.block) w w0 := hf0.fr
  have hb : Bx w0 b _ ([Value.int .i64 0] ++ ((List.replicate 32 (Value.int .u8 0)))) := bx_eq hb0 rfl
  clear hb0
  have hNp : ∀ i, w0.heap.size ≤ i → ¬ i = p.block := fun i hi => by omega
  have hNb : ∀ i, w0.heap.size ≤ i → ¬ i = b := fun i hi => by omega
  have hbw : w.heap.size ≤ b := by omega
  have hbp : ¬ b = p.block := by omega
  have hs0 := Nat.le_refl w0.heap.size
  refine kl_nil ?_
  refine x_seq ?_
  refine k_seq ?_
  refine k_region ?_
  refine kl_val (y_move) rfl rfl rfl ?_
  refine kl_ow rfl (ow_call1 fn102 rfl rfl rfl (number_r h) (kret_retP (fun u0 w1 ⟨x0, rest0, v0, hq0, hR0, hf, hu0⟩ => ?_) (fun c w' ⟨e, he, hc, hf⟩ => ⟨rfl, .inr ⟨c, rfl, e, by simp only [pIdKey, pBind_err he], hc, hF.trans hf⟩⟩)))
  obtain ⟨rfl, hx0⟩ := hu0
  have hs1 := hf.size
  replace hs0 := Nat.le_trans hs0 hs1
  replace hF := hF.trans hf
  replace hb := hb.keep hf hbp
  replace h := hR0
  refine kl_val (y_fieldAddr Try.underlying122 rfl I3 S3 rfl rfl) rfl rfl rfl ?_
  have hLen : ([Value.int .i64 0] ++ ((List.replicate 32 (Value.int .u8 0)))).length = 33 := by simp
  refine kl_ow rfl (ow_store (b := b) (o := 0) I3 S3 rfl (v := .int .i64 (x0 : Int)) (xs := [i64 (x0 : Int)]) rfl hb rfl rfl (by have hl0 : ([i64 (x0 : Int)] : List Value).length = 1 := rfl; rw [hl0]; exact Nat.le_trans (by decide) (Nat.le_of_eq hLen.symm)) (One'.single rfl) (fun w2 hb2 hf2 hz2 => ?_))
  replace hb := bx_eq hb2 (sp_here rfl)
  clear hb2 hLen
  replace hF := hF.trans' hf2 (fun i hi e => absurd e (by omega))
  replace h := h.keep hf2 (fun e => hbp e.symm) (fun i hi => by have := h.old i hi; omega)
  have hs1 := hf2.size
  replace hs0 := Nat.le_trans hs0 hs1
  refine kl_nil ?_
  refine x_seq ?_
  refine k_seq ?_
  refine k_region ?_
  refine kl_val (y_move) rfl rfl rfl ?_
  refine kl_ow rfl (ow_call1 fn107 rfl rfl rfl (key_r h) (kret_retP (fun u1 w1 ⟨x1, rest1, v1, hq1, hR1, hf, hu1⟩ => ?_) (fun c w' ⟨e, he, hc, hf⟩ => ⟨rfl, .inr ⟨c, rfl, e, by simp only [pIdKey, pBind_ok hq0, pBind_err he], hc, hF.trans hf⟩⟩)))
  obtain ⟨rfl, hk1⟩ := hu1
  have hs1 := hf.size
  replace hs0 := Nat.le_trans hs0 hs1
  replace hF := hF.trans hf
  replace hb := hb.keep hf hbp
  replace h := hR1
  refine kl_val (y_fieldAddr Try.underlying122 rfl I34 S34 rfl rfl) rfl rfl rfl ?_
  have hLen : ([i64 (x0 : Int)] ++ ((List.replicate 32 (Value.int .u8 0)))).length = 33 := by simp
  refine kl_ow rfl (ow_store (b := b) (o := 1) I34 S34 rfl (v := .agg (bvs x1).toArray) (xs := bvs x1) rfl hb rfl (by rw [bvs_length]; exact hk1) (by have hl0 : (bvs x1 : List Value).length = 32 := (by rw [bvs_length]; exact hk1); rw [hl0]; exact Nat.le_trans (by decide) (Nat.le_of_eq hLen.symm)) (bvs_one _) (fun w2 hb2 hf2 hz2 => ?_))
  replace hb := bx_eq hb2 (sp_next (a := 1) (o := 0) rfl (sp_last (by rw [bvs_length, hk1]; rfl)))
  clear hb2 hLen
  replace hF := hF.trans' hf2 (fun i hi e => absurd e (by omega))
  replace h := h.keep hf2 (fun e => hbp e.symm) (fun i hi => by have := h.old i hi; omega)
  have hs1 := hf2.size
  replace hs0 := Nat.le_trans hs0 hs1
  refine kl_nil ?_
  refine x_seq ?_
  refine k_seq ?_
  refine k_region ?_
  refine kl_val (y_load rfl (ld_aggB Try.underlying122 rfl I122 S122 (by simp [hk1]) hb.cs)) rfl rfl rfl ?_
  refine kl_ow rfl (ow_store (b := b) (o := 0) (xs := [i64 (x0 : Int)] ++ (bvs x1)) I122 S122 rfl (v := .agg ([i64 (x0 : Int)] ++ (bvs x1)).toArray) rfl hb rfl (by simp [hk1]) (by omega) (((One'.single rfl)).append (One'.bvs _)) (fun w3 hb3 hf3 hz3 => ?_))
  replace hb := bx_eq hb3 (splice_all rfl)
  replace hF := hF.trans' hf3 (fun i hi e => absurd e (by omega))
  replace h := h.keep hf3 (fun e => hbp e.symm) (fun i hi => by have := h.old i hi; omega)
  refine kl_nil ?_
  refine x_seq ?_
  refine k_ret ?_
  exact k_retC rfl rfl (ld_aggB Try.underlying122 rfl I122 S122 (by simp [hk1]) hb.cs) (.inl ⟨_, rfl, ⟨(x0 : Int), x1⟩, rest1, v1, by simp only [pIdKey, pBind_ok hq0, pBind_ok hq1, pPure], h, hF, _, rfl, ⟨hk1, rfl⟩⟩)

set_option maxRecDepth 100000 in
set_option maxHeartbeats 1000000 in
theorem header_r {p : Addr} {v : Value} {bs : List UInt8} {B : Nat → Prop} {w : World} (h : Rd w B p v bs) :
    ReadC Try.prog 121 #[.pointer (some p)] w B p (pHdr bs) (fun w' u x => ∃ cs, u = .agg cs.toArray ∧ HdrR w' (Nw w w') cs x) := by
  refine k_enter1 Try.func121 rfl Try.ntmps121 rfl ?_
  refine k_seq ?_
  refine k_region ?_
  refine kl_ow rfl (ow_alloc I36 Z36 rfl (fun w0 b hb0 hf0 he0 hz0 => ?_))
  have hlt := h.lt
  replace h := h.ext hf0
  have hF : Fr (· = p.block) w w0 := hf0.fr
  have hb : Bx w0 b _ ((List.replicate 32 (Value.int .u8 0)) ++ ([Value.int .i64 0] ++ ([Value.int .i64 0]))) := bx_eq hb0 rfl
  clear hb0
  have hNp : ∀ i, w0.heap.size ≤ i → ¬ i = p.block := fun i hi => by omega
  have hNb : ∀ i, w0.heap.size ≤ i → ¬ i = b := fun i hi => by omega
  have hbw : w.heap.size ≤ b := by omega
  have hbp : ¬ b = p.block := by omega
  have hs0 := Nat.le_refl w0.heap.size
  refine kl_nil ?_
  refine x_seq ?_
  refine k_seq ?_
  refine k_region ?_
  refine kl_val (y_move) rfl rfl rfl ?_
  refine kl_ow rfl (ow_call1 fn107 rfl rfl rfl (key_r h) (kret_retP (fun u0 w1 ⟨x0, rest0, v0, hq0, hR0, hf, hu0⟩ => ?_) (fun c w' ⟨e, he, hc, hf⟩ => ⟨rfl, .inr ⟨c, rfl, e, by simp only [pHdr, pBind_err he], hc, hF.trans hf⟩⟩)))
  obtain ⟨rfl, hk0⟩ := hu0
  have hs1 := hf.size
  replace hs0 := Nat.le_trans hs0 hs1
  replace hF := hF.trans hf
  replace hb := hb.keep hf hbp
  replace h := hR0
  refine kl_val (y_fieldAddr Try.underlying36 rfl I34 S34 rfl rfl) rfl rfl rfl ?_
  have hLen : ((List.replicate 32 (Value.int .u8 0)) ++ ([Value.int .i64 0] ++ ([Value.int .i64 0]))).length = 34 := by simp
  refine kl_ow rfl (ow_store (b := b) (o := 0) I34 S34 rfl (v := .agg (bvs x0).toArray) (xs := bvs x0) rfl hb rfl (by rw [bvs_length]; exact hk0) (by have hl0 : (bvs x0 : List Value).length = 32 := (by rw [bvs_length]; exact hk0); rw [hl0]; exact Nat.le_trans (by decide) (Nat.le_of_eq hLen.symm)) (bvs_one _) (fun w2 hb2 hf2 hz2 => ?_))
  replace hb := bx_eq hb2 (sp_here (by rw [bvs_length, hk0]; rfl))
  clear hb2 hLen
  replace hF := hF.trans' hf2 (fun i hi e => absurd e (by omega))
  replace h := h.keep hf2 (fun e => hbp e.symm) (fun i hi => by have := h.old i hi; omega)
  have hs1 := hf2.size
  replace hs0 := Nat.le_trans hs0 hs1
  refine kl_nil ?_
  refine x_seq ?_
  refine k_seq ?_
  refine k_region ?_
  refine kl_val (y_move) rfl rfl rfl ?_
  refine kl_ow rfl (ow_call1 fn102 rfl rfl rfl (number_r h) (kret_retP (fun u1 w1 ⟨x1, rest1, v1, hq1, hR1, hf, hu1⟩ => ?_) (fun c w' ⟨e, he, hc, hf⟩ => ⟨rfl, .inr ⟨c, rfl, e, by simp only [pHdr, pBind_ok hq0, pBind_err he], hc, hF.trans hf⟩⟩)))
  obtain ⟨rfl, hx1⟩ := hu1
  have hs1 := hf.size
  replace hs0 := Nat.le_trans hs0 hs1
  replace hF := hF.trans hf
  replace hb := hb.keep hf hbp
  replace h := hR1
  refine kl_val (y_fieldAddr Try.underlying36 rfl I3 S3 rfl rfl) rfl rfl rfl ?_
  have hLen : (bvs x0 ++ ([Value.int .i64 0] ++ ([Value.int .i64 0]))).length = 34 := by simp [hk0]
  refine kl_ow rfl (ow_store (b := b) (o := 32) I3 S3 rfl (v := .int .i64 (x1 : Int)) (xs := [i64 (x1 : Int)]) rfl hb rfl rfl (by have hl0 : ([i64 (x1 : Int)] : List Value).length = 1 := rfl; rw [hl0]; exact Nat.le_trans (by decide) (Nat.le_of_eq hLen.symm)) (One'.single rfl) (fun w2 hb2 hf2 hz2 => ?_))
  replace hb := bx_eq hb2 (sp_next (a := 32) (o := 0) (by rw [bvs_length]; exact hk0) (sp_here rfl))
  clear hb2 hLen
  replace hF := hF.trans' hf2 (fun i hi e => absurd e (by omega))
  replace h := h.keep hf2 (fun e => hbp e.symm) (fun i hi => by have := h.old i hi; omega)
  have hs1 := hf2.size
  replace hs0 := Nat.le_trans hs0 hs1
  refine kl_nil ?_
  refine x_seq ?_
  refine k_seq ?_
  refine k_region ?_
  refine kl_val (y_move) rfl rfl rfl ?_
  refine kl_ow rfl (ow_call1 fn102 rfl rfl rfl (number_r h) (kret_retP (fun u2 w1 ⟨x2, rest2, v2, hq2, hR2, hf, hu2⟩ => ?_) (fun c w' ⟨e, he, hc, hf⟩ => ⟨rfl, .inr ⟨c, rfl, e, by simp only [pHdr, pBind_ok hq0, pBind_ok hq1, pBind_err he], hc, hF.trans hf⟩⟩)))
  obtain ⟨rfl, hx2⟩ := hu2
  have hs1 := hf.size
  replace hs0 := Nat.le_trans hs0 hs1
  replace hF := hF.trans hf
  replace hb := hb.keep hf hbp
  replace h := hR2
  refine kl_val (y_fieldAddr Try.underlying36 rfl I3 S3 rfl rfl) rfl rfl rfl ?_
  have hLen : (bvs x0 ++ ([i64 (x1 : Int)] ++ ([Value.int .i64 0]))).length = 34 := by simp [hk0]
  refine kl_ow rfl (ow_store (b := b) (o := 33) I3 S3 rfl (v := .int .i64 (x2 : Int)) (xs := [i64 (x2 : Int)]) rfl hb rfl rfl (by have hl0 : ([i64 (x2 : Int)] : List Value).length = 1 := rfl; rw [hl0]; exact Nat.le_trans (by decide) (Nat.le_of_eq hLen.symm)) (One'.single rfl) (fun w2 hb2 hf2 hz2 => ?_))
  replace hb := bx_eq hb2 (sp_next (a := 32) (o := 1) (by rw [bvs_length]; exact hk0) (sp_next (a := 1) (o := 0) rfl (sp_last rfl)))
  clear hb2 hLen
  replace hF := hF.trans' hf2 (fun i hi e => absurd e (by omega))
  replace h := h.keep hf2 (fun e => hbp e.symm) (fun i hi => by have := h.old i hi; omega)
  have hs1 := hf2.size
  replace hs0 := Nat.le_trans hs0 hs1
  refine kl_nil ?_
  refine x_seq ?_
  refine k_seq ?_
  refine k_region ?_
  refine kl_val (y_load rfl (ld_aggB Try.underlying36 rfl I36 S36 (by simp [hk0]) hb.cs)) rfl rfl rfl ?_
  refine kl_ow rfl (ow_store (b := b) (o := 0) (xs := bvs x0 ++ ([i64 (x1 : Int)] ++ ([i64 (x2 : Int)]))) I36 S36 rfl (v := .agg (bvs x0 ++ ([i64 (x1 : Int)] ++ ([i64 (x2 : Int)]))).toArray) rfl hb rfl (by simp [hk0]) (by omega) ((One'.bvs _ : One' _).append (((One'.single rfl)).append ((One'.single rfl)))) (fun w3 hb3 hf3 hz3 => ?_))
  replace hb := bx_eq hb3 (splice_all rfl)
  replace hF := hF.trans' hf3 (fun i hi e => absurd e (by omega))
  replace h := h.keep hf3 (fun e => hbp e.symm) (fun i hi => by have := h.old i hi; omega)
  refine kl_nil ?_
  refine x_seq ?_
  refine k_ret ?_
  exact k_retC rfl rfl (ld_aggB Try.underlying36 rfl I36 S36 (by simp [hk0]) hb.cs) (.inl ⟨_, rfl, ⟨x0, (x1 : Int), (x2 : Int)⟩, rest2, v2, by simp only [pHdr, pBind_ok hq0, pBind_ok hq1, pBind_ok hq2, pPure], h, hF, _, rfl, ⟨hk0, rfl⟩⟩)

set_option maxRecDepth 100000 in
set_option maxHeartbeats 1000000 in
theorem all_Prekey_r {p : Addr} {v : Value} {bs : List UInt8} {B : Nat → Prop} {w : World} (h : Rd w B p v bs) :
    ReadC Try.prog 110 #[.pointer (some p), .func (.func 108) #[] #[]] w B p (pAll pIdKey bs) (fun w' u x => SlX IdKeyR 33 w' (Nw w w') u x) := by
  refine k_enter2 Try.func110 rfl Try.ntmps110 rfl ?_
  have hlt := h.lt
  have hNp : ∀ i, New w i → ¬ i = p.block := fun i hi => by unfold New at hi; omega
  refine k_seq ?_
  refine k_region ?_
  refine kl_val (y_assign) rfl rfl rfl ?_
  refine kl_nil ?_
  refine x_seq ?_
  refine k_seq ?_
  refine k_region ?_
  refine kl_val (y_assign) rfl rfl rfl ?_
  refine kl_nil ?_
  refine x_seq ?_
  refine k_seq ?_
  refine k_seq ?_
  refine k_region ?_
  refine kl_val (y_move) rfl rfl rfl ?_
  refine kl_ow rfl (ow_call2 fn100 rfl rfl rfl rfl (upTo_r (most := 60000) h) (kret_retP (fun u w1 ⟨n, rest, v1, hn, hR, hF, hu, hnm⟩ => ?_) (fun c w' ⟨e, he, hc, hf⟩ => ⟨rfl, .inr ⟨c, rfl, e, pBind_err he, hc, hf⟩⟩)))
  subst hu
  clear h
  have hX : OwnX IdKeyR 33 49 w1 (New w) (.slice none 0 0) [] := OwnX.nil
  refine kl_val (y_move) rfl rfl rfl ?_
  refine kl_nil ?_
  refine x_seq ?_
  refine k_block ?_
  refine k_loop (fun m ρ w' => ∃ (i : Nat) (bs' : List UInt8) (v' out : Value) (xs : List IdKey), ρ 0 = .pointer (some p) ∧ ρ 1 = .func (.func 108) #[] #[] ∧ ρ 5 = out ∧ ρ 7 = .int .i64 (n : Int) ∧ ρ 8 = .int .i64 (i : Int) ∧ i ≤ n ∧ m = n - i ∧ xs.length = i ∧ Rd w' B p v' bs' ∧ Fr (· = p.block) w w' ∧ OwnX IdKeyR 33 49 w' (New w) out xs ∧ pAll pIdKey bs = (pAllN pIdKey (n - i) bs').map (fun q => (xs ++ q.1, q.2))) n ⟨0, rest, v1, _, [], rfl, rfl, rfl, rfl, rfl, Nat.zero_le _, rfl, rfl, hR, hF, hX, by unfold pAll; rw [pBind_ok hn]; show _ = (pAllN pIdKey n rest).map (fun q => ([] ++ q.1, q.2)); cases pAllN pIdKey n rest <;> rfl⟩ ?_
  clear hR hF hX hn
  rintro m ρ w1 ⟨i, bs', v', out, xs, h0, h1, h5, h7, h8, hi, rfl, hxl, h, hF, hX, hq⟩
  obtain ⟨σ, rfl⟩ : ∃ σ, ρ = upd (upd (upd (upd (upd σ 0 (.pointer (some p))) 1 (.func (.func 108) #[] #[])) 5 out) 7 (.int .i64 (n : Int))) 8 (.int .i64 (i : Int)) := ⟨ρ, by rw [upd_self ρ h0, upd_self ρ h1, upd_self ρ h5, upd_self ρ h7, upd_self ρ h8]⟩
  clear h0 h1 h5 h7 h8
  refine k_seq ?_
  refine k_region ?_
  refine kl_val (y_lss rfl rfl) rfl rfl rfl ?_
  refine kl_nil ?_
  refine x_seq ?_
  refine k_seq ?_
  refine k_condp rfl (fun hlt => ?_) (fun hlt => ?_)
  · skip
    obtain ⟨k, hk⟩ : ∃ k, n - i = k + 1 := ⟨n - i - 1, by omega⟩
    rw [hk] at hq
    refine k_skip ?_
    refine x_seq ?_
    refine k_seq ?_
    refine k_block ?_
    refine k_region ?_
    refine kl_val (y_move) rfl rfl rfl ?_
    refine kl_val (y_move) rfl rfl rfl ?_
    refine kl_val (y_move) rfl rfl rfl ?_
    refine kl_ow rfl (ow_call1 fn108 rfl rfl rfl (prekey_r h) (kret_retP (fun u w2 ⟨x, rest', v2, hx, hR, hf, hu⟩ => ?_) (fun c w' ⟨e, he, hc, hf⟩ => ⟨rfl, .inr ⟨c, rfl, e, by rw [hq]; exact pAllN_err xs he, hc, hF.trans hf⟩⟩)))
    obtain ⟨cs, rfl, hE⟩ := hu
    have hcl : cs.length = 33 := hE.length
    have hlX := hX.lt
    replace hE := hE.keep w2 (Bes (New w) w2 out)
    replace hX := hX.keep hf hNp (fun _ _ h => h.keep _ _)
    replace hF := hF.trans hf
    replace h := hR
    refine kl_ow rfl (ow_slice1 Try.underlying50 I49 Z49 S49 rfl (v := .agg cs.toArray) rfl hcl (by decide) (by decide) rfl (fun w3 b hb hf3 he3 hz3 => ?_))
    replace hX := hX.keep hf3 (fun _ _ h => h) (fun _ _ h => h.keep _ _)
    replace hF := hF.trans hf3.fr
    replace h := h.ext hf3
    replace hE := hE.keep w3 (Bes (New w) w3 out)
    refine kl_ow rfl (ow_appendX Try.underlying50 I49 Z49 S49 rfl (by decide) (by rw [B49]; decide) rfl hX rfl hb hcl hE.one hE (fun i hi => Nat.le_trans hF.size hi) (by omega) rfl (fun v' w' hf' hle' _ _ h' => h'.keep _ _) (fun out' w4 hX' hf4 => ?_))
    have hno : ¬ ownB out p.block := fun hb' => hNp _ (hX.new _ hb') rfl
    replace hF := hF.trans' hf4 (fun i hi hb' => absurd (hX.new _ hb') (by unfold New; omega))
    replace h := h.keep hf4 hno (fun j hj hb' => absurd (hX.new _ hb') (by have := h.old j hj; unfold New; omega))
    replace hX := hX'
    refine kl_val (y_assign) rfl rfl rfl ?_
    refine kl_nil ?_
    refine x_blk ?_
    refine x_seq ?_
    refine k_region ?_
    refine kl_val (y_add64 rfl rfl (by omega)) rfl rfl rfl ?_
    refine kl_val (y_move) rfl rfl rfl ?_
    refine kl_nil ?_
    exact x_lpN (n - (i + 1)) (by omega) ⟨i + 1, rest', v2, out', xs ++ [x], rfl, rfl, rfl, rfl, rfl, by omega, rfl, by simp [hxl], h, hF, hX, by rw [hq, show n - (i + 1) = k by omega]; exact pAllN_ok xs hx⟩
  · skip
    obtain rfl : i = n := by omega
    rw [Nat.sub_self, pAllN_zero] at hq
    refine k_exit ?_
    refine x_seqX ?_
    refine x_lpX ?_
    refine x_blkX ?_
    refine x_seq ?_
    refine k_seq ?_
    refine k_region ?_
    refine kl_val (y_move) rfl rfl rfl ?_
    refine kl_val (y_assign) rfl rfl rfl ?_
    refine kl_nil ?_
    refine x_seq ?_
    refine k_ret ?_
    exact k_ret1 rfl rfl (.inl ⟨_, rfl, xs, bs', v', hq, h, hF, hX.sl (fun _ _ h => h.keep _ _)⟩)

set_option maxRecDepth 100000 in
set_option maxHeartbeats 1000000 in
theorem all_Entry_r {p : Addr} {v : Value} {bs : List UInt8} {B : Nat → Prop} {w : World} (h : Rd w B p v bs) :
    ReadC Try.prog 114 #[.pointer (some p), .func (.func 115) #[] #[]] w B p (pAll pIdKey bs) (fun w' u x => SlX IdKeyR 33 w' (Nw w w') u x) := by
  refine k_enter2 Try.func114 rfl Try.ntmps114 rfl ?_
  have hlt := h.lt
  have hNp : ∀ i, New w i → ¬ i = p.block := fun i hi => by unfold New at hi; omega
  refine k_seq ?_
  refine k_region ?_
  refine kl_val (y_assign) rfl rfl rfl ?_
  refine kl_nil ?_
  refine x_seq ?_
  refine k_seq ?_
  refine k_region ?_
  refine kl_val (y_assign) rfl rfl rfl ?_
  refine kl_nil ?_
  refine x_seq ?_
  refine k_seq ?_
  refine k_seq ?_
  refine k_region ?_
  refine kl_val (y_move) rfl rfl rfl ?_
  refine kl_ow rfl (ow_call2 fn100 rfl rfl rfl rfl (upTo_r (most := 60000) h) (kret_retP (fun u w1 ⟨n, rest, v1, hn, hR, hF, hu, hnm⟩ => ?_) (fun c w' ⟨e, he, hc, hf⟩ => ⟨rfl, .inr ⟨c, rfl, e, pBind_err he, hc, hf⟩⟩)))
  subst hu
  clear h
  have hX : OwnX IdKeyR 33 122 w1 (New w) (.slice none 0 0) [] := OwnX.nil
  refine kl_val (y_move) rfl rfl rfl ?_
  refine kl_nil ?_
  refine x_seq ?_
  refine k_block ?_
  refine k_loop (fun m ρ w' => ∃ (i : Nat) (bs' : List UInt8) (v' out : Value) (xs : List IdKey), ρ 0 = .pointer (some p) ∧ ρ 1 = .func (.func 115) #[] #[] ∧ ρ 5 = out ∧ ρ 7 = .int .i64 (n : Int) ∧ ρ 8 = .int .i64 (i : Int) ∧ i ≤ n ∧ m = n - i ∧ xs.length = i ∧ Rd w' B p v' bs' ∧ Fr (· = p.block) w w' ∧ OwnX IdKeyR 33 122 w' (New w) out xs ∧ pAll pIdKey bs = (pAllN pIdKey (n - i) bs').map (fun q => (xs ++ q.1, q.2))) n ⟨0, rest, v1, _, [], rfl, rfl, rfl, rfl, rfl, Nat.zero_le _, rfl, rfl, hR, hF, hX, by unfold pAll; rw [pBind_ok hn]; show _ = (pAllN pIdKey n rest).map (fun q => ([] ++ q.1, q.2)); cases pAllN pIdKey n rest <;> rfl⟩ ?_
  clear hR hF hX hn
  rintro m ρ w1 ⟨i, bs', v', out, xs, h0, h1, h5, h7, h8, hi, rfl, hxl, h, hF, hX, hq⟩
  obtain ⟨σ, rfl⟩ : ∃ σ, ρ = upd (upd (upd (upd (upd σ 0 (.pointer (some p))) 1 (.func (.func 115) #[] #[])) 5 out) 7 (.int .i64 (n : Int))) 8 (.int .i64 (i : Int)) := ⟨ρ, by rw [upd_self ρ h0, upd_self ρ h1, upd_self ρ h5, upd_self ρ h7, upd_self ρ h8]⟩
  clear h0 h1 h5 h7 h8
  refine k_seq ?_
  refine k_region ?_
  refine kl_val (y_lss rfl rfl) rfl rfl rfl ?_
  refine kl_nil ?_
  refine x_seq ?_
  refine k_seq ?_
  refine k_condp rfl (fun hlt => ?_) (fun hlt => ?_)
  · skip
    obtain ⟨k, hk⟩ : ∃ k, n - i = k + 1 := ⟨n - i - 1, by omega⟩
    rw [hk] at hq
    refine k_skip ?_
    refine x_seq ?_
    refine k_seq ?_
    refine k_block ?_
    refine k_region ?_
    refine kl_val (y_move) rfl rfl rfl ?_
    refine kl_val (y_move) rfl rfl rfl ?_
    refine kl_val (y_move) rfl rfl rfl ?_
    refine kl_ow rfl (ow_call1 fn115 rfl rfl rfl (entry_r h) (kret_retP (fun u w2 ⟨x, rest', v2, hx, hR, hf, hu⟩ => ?_) (fun c w' ⟨e, he, hc, hf⟩ => ⟨rfl, .inr ⟨c, rfl, e, by rw [hq]; exact pAllN_err xs he, hc, hF.trans hf⟩⟩)))
    obtain ⟨cs, rfl, hE⟩ := hu
    have hcl : cs.length = 33 := hE.length
    have hlX := hX.lt
    replace hE := hE.keep w2 (Bes (New w) w2 out)
    replace hX := hX.keep hf hNp (fun _ _ h => h.keep _ _)
    replace hF := hF.trans hf
    replace h := hR
    refine kl_ow rfl (ow_slice1 Try.underlying43 I122 Z122 S122 rfl (v := .agg cs.toArray) rfl hcl (by decide) (by decide) rfl (fun w3 b hb hf3 he3 hz3 => ?_))
    replace hX := hX.keep hf3 (fun _ _ h => h) (fun _ _ h => h.keep _ _)
    replace hF := hF.trans hf3.fr
    replace h := h.ext hf3
    replace hE := hE.keep w3 (Bes (New w) w3 out)
    refine kl_ow rfl (ow_appendX Try.underlying43 I122 Z122 S122 rfl (by decide) (by rw [B122]; decide) rfl hX rfl hb hcl hE.one hE (fun i hi => Nat.le_trans hF.size hi) (by omega) rfl (fun v' w' hf' hle' _ _ h' => h'.keep _ _) (fun out' w4 hX' hf4 => ?_))
    have hno : ¬ ownB out p.block := fun hb' => hNp _ (hX.new _ hb') rfl
    replace hF := hF.trans' hf4 (fun i hi hb' => absurd (hX.new _ hb') (by unfold New; omega))
    replace h := h.keep hf4 hno (fun j hj hb' => absurd (hX.new _ hb') (by have := h.old j hj; unfold New; omega))
    replace hX := hX'
    refine kl_val (y_assign) rfl rfl rfl ?_
    refine kl_nil ?_
    refine x_blk ?_
    refine x_seq ?_
    refine k_region ?_
    refine kl_val (y_add64 rfl rfl (by omega)) rfl rfl rfl ?_
    refine kl_val (y_move) rfl rfl rfl ?_
    refine kl_nil ?_
    exact x_lpN (n - (i + 1)) (by omega) ⟨i + 1, rest', v2, out', xs ++ [x], rfl, rfl, rfl, rfl, rfl, by omega, rfl, by simp [hxl], h, hF, hX, by rw [hq, show n - (i + 1) = k by omega]; exact pAllN_ok xs hx⟩
  · skip
    obtain rfl : i = n := by omega
    rw [Nat.sub_self, pAllN_zero] at hq
    refine k_exit ?_
    refine x_seqX ?_
    refine x_lpX ?_
    refine x_blkX ?_
    refine x_seq ?_
    refine k_seq ?_
    refine k_region ?_
    refine kl_val (y_move) rfl rfl rfl ?_
    refine kl_val (y_assign) rfl rfl rfl ?_
    refine kl_nil ?_
    refine x_seq ?_
    refine k_ret ?_
    exact k_ret1 rfl rfl (.inl ⟨_, rfl, xs, bs', v', hq, h, hF, hX.sl (fun _ _ h => h.keep _ _)⟩)

set_option maxRecDepth 100000 in
set_option maxHeartbeats 1000000 in
theorem all_Key_r {p : Addr} {v : Value} {bs : List UInt8} {B : Nat → Prop} {w : World} (h : Rd w B p v bs) :
    ReadC Try.prog 119 #[.pointer (some p), .func (.func 107) #[] #[]] w B p (pAll (pTake 32) bs) (fun w' u x => SlX KeyR 32 w' (Nw w w') u x) := by
  refine k_enter2 Try.func119 rfl Try.ntmps119 rfl ?_
  have hlt := h.lt
  have hNp : ∀ i, New w i → ¬ i = p.block := fun i hi => by unfold New at hi; omega
  refine k_seq ?_
  refine k_region ?_
  refine kl_val (y_assign) rfl rfl rfl ?_
  refine kl_nil ?_
  refine x_seq ?_
  refine k_seq ?_
  refine k_region ?_
  refine kl_val (y_assign) rfl rfl rfl ?_
  refine kl_nil ?_
  refine x_seq ?_
  refine k_seq ?_
  refine k_seq ?_
  refine k_region ?_
  refine kl_val (y_move) rfl rfl rfl ?_
  refine kl_ow rfl (ow_call2 fn100 rfl rfl rfl rfl (upTo_r (most := 60000) h) (kret_retP (fun u w1 ⟨n, rest, v1, hn, hR, hF, hu, hnm⟩ => ?_) (fun c w' ⟨e, he, hc, hf⟩ => ⟨rfl, .inr ⟨c, rfl, e, pBind_err he, hc, hf⟩⟩)))
  subst hu
  clear h
  have hX : OwnX KeyR 32 34 w1 (New w) (.slice none 0 0) [] := OwnX.nil
  refine kl_val (y_move) rfl rfl rfl ?_
  refine kl_nil ?_
  refine x_seq ?_
  refine k_block ?_
  refine k_loop (fun m ρ w' => ∃ (i : Nat) (bs' : List UInt8) (v' out : Value) (xs : List (List UInt8)), ρ 0 = .pointer (some p) ∧ ρ 1 = .func (.func 107) #[] #[] ∧ ρ 5 = out ∧ ρ 7 = .int .i64 (n : Int) ∧ ρ 8 = .int .i64 (i : Int) ∧ i ≤ n ∧ m = n - i ∧ xs.length = i ∧ Rd w' B p v' bs' ∧ Fr (· = p.block) w w' ∧ OwnX KeyR 32 34 w' (New w) out xs ∧ pAll (pTake 32) bs = (pAllN (pTake 32) (n - i) bs').map (fun q => (xs ++ q.1, q.2))) n ⟨0, rest, v1, _, [], rfl, rfl, rfl, rfl, rfl, Nat.zero_le _, rfl, rfl, hR, hF, hX, by unfold pAll; rw [pBind_ok hn]; show _ = (pAllN (pTake 32) n rest).map (fun q => ([] ++ q.1, q.2)); cases pAllN (pTake 32) n rest <;> rfl⟩ ?_
  clear hR hF hX hn
  rintro m ρ w1 ⟨i, bs', v', out, xs, h0, h1, h5, h7, h8, hi, rfl, hxl, h, hF, hX, hq⟩
  obtain ⟨σ, rfl⟩ : ∃ σ, ρ = upd (upd (upd (upd (upd σ 0 (.pointer (some p))) 1 (.func (.func 107) #[] #[])) 5 out) 7 (.int .i64 (n : Int))) 8 (.int .i64 (i : Int)) := ⟨ρ, by rw [upd_self ρ h0, upd_self ρ h1, upd_self ρ h5, upd_self ρ h7, upd_self ρ h8]⟩
  clear h0 h1 h5 h7 h8
  refine k_seq ?_
  refine k_region ?_
  refine kl_val (y_lss rfl rfl) rfl rfl rfl ?_
  refine kl_nil ?_
  refine x_seq ?_
  refine k_seq ?_
  refine k_condp rfl (fun hlt => ?_) (fun hlt => ?_)
  · skip
    obtain ⟨k, hk⟩ : ∃ k, n - i = k + 1 := ⟨n - i - 1, by omega⟩
    rw [hk] at hq
    refine k_skip ?_
    refine x_seq ?_
    refine k_seq ?_
    refine k_block ?_
    refine k_region ?_
    refine kl_val (y_move) rfl rfl rfl ?_
    refine kl_val (y_move) rfl rfl rfl ?_
    refine kl_val (y_move) rfl rfl rfl ?_
    refine kl_ow rfl (ow_call1 fn107 rfl rfl rfl (key_r h) (kret_retP (fun u w2 ⟨x, rest', v2, hx, hR, hf, hu⟩ => ?_) (fun c w' ⟨e, he, hc, hf⟩ => ⟨rfl, .inr ⟨c, rfl, e, by rw [hq]; exact pAllN_err xs he, hc, hF.trans hf⟩⟩)))
    obtain ⟨rfl, hk⟩ := hu
    have hcl : (bvs x).length = 32 := by simp [hk]
    have hE : KeyR w2 (Bes (New w) w2 out) (bvs x) x := ⟨hk, rfl⟩
    replace hX := hX.keep hf hNp (fun _ _ h => h.keep _ _)
    replace hF := hF.trans hf
    replace h := hR
    refine kl_ow rfl (ow_slice1 Try.underlying70 I34 Z34 S34 rfl (v := .agg (bvs x).toArray) rfl hcl (by decide) (by decide) rfl (fun w3 b hb hf3 he3 hz3 => ?_))
    replace hX := hX.keep hf3 (fun _ _ h => h) (fun _ _ h => h.keep _ _)
    replace hF := hF.trans hf3.fr
    replace h := h.ext hf3
    replace hE := hE.keep w3 (Bes (New w) w3 out)
    refine kl_ow rfl (ow_appendX Try.underlying70 I34 Z34 S34 rfl (by decide) (by rw [B34]; decide) rfl hX rfl hb hcl hE.one hE (fun i hi => Nat.le_trans hF.size hi) (by omega) rfl (fun v' w' hf' hle' _ _ h' => h'.keep _ _) (fun out' w4 hX' hf4 => ?_))
    have hno : ¬ ownB out p.block := fun hb' => hNp _ (hX.new _ hb') rfl
    replace hF := hF.trans' hf4 (fun i hi hb' => absurd (hX.new _ hb') (by unfold New; omega))
    replace h := h.keep hf4 hno (fun j hj hb' => absurd (hX.new _ hb') (by have := h.old j hj; unfold New; omega))
    replace hX := hX'
    refine kl_val (y_assign) rfl rfl rfl ?_
    refine kl_nil ?_
    refine x_blk ?_
    refine x_seq ?_
    refine k_region ?_
    refine kl_val (y_add64 rfl rfl (by omega)) rfl rfl rfl ?_
    refine kl_val (y_move) rfl rfl rfl ?_
    refine kl_nil ?_
    exact x_lpN (n - (i + 1)) (by omega) ⟨i + 1, rest', v2, out', xs ++ [x], rfl, rfl, rfl, rfl, rfl, by omega, rfl, by simp [hxl], h, hF, hX, by rw [hq, show n - (i + 1) = k by omega]; exact pAllN_ok xs hx⟩
  · skip
    obtain rfl : i = n := by omega
    rw [Nat.sub_self, pAllN_zero] at hq
    refine k_exit ?_
    refine x_seqX ?_
    refine x_lpX ?_
    refine x_blkX ?_
    refine x_seq ?_
    refine k_seq ?_
    refine k_region ?_
    refine kl_val (y_move) rfl rfl rfl ?_
    refine kl_val (y_assign) rfl rfl rfl ?_
    refine kl_nil ?_
    refine x_seq ?_
    refine k_ret ?_
    exact k_ret1 rfl rfl (.inl ⟨_, rfl, xs, bs', v', hq, h, hF, hX.sl (fun _ _ h => h.keep _ _)⟩)

end Go.Proofs.Ythpocekigliomaa.K
