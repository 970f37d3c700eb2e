/- The reader of lists, letters, slots. Condition: a reader stands at p. -/
import Derived.Test.YthpocekigliomaaKRb
namespace Go.Proofs.Ythpocekigliomaa.K
open Go

set_option maxRecDepth 100000 in
set_option maxHeartbeats 1000000 in
theorem list_r {p : Addr} {v : Value} {bs : List UInt8} {B : Nat → Prop} {w : World} (h : Rd w B p v bs) :
    ReadC Try.prog 86 #[.pointer (some p)] w B p (pLst bs) (fun w' u x => ∃ cs, u = .agg cs.toArray ∧ LstR w' (Nw w w') cs x) := by
  refine k_enter1 Try.func86 rfl Try.ntmps86 rfl ?_
  refine k_seq ?_
  refine k_region ?_
  refine kl_ow rfl (ow_alloc I47 Z47 rfl (fun w0 b hb0 hf0 he0 hz0 => ?_))
  have hlt := h.lt
  replace h := h.ext hf0
  have hF : Fr (· = p.block) w w0 := hf0.fr
  have hb : Bx w0 b _ ([Value.int .i64 0] ++ ([Value.int .i64 0] ++ ((List.replicate 32 (Value.int .u8 0)) ++ ([Value.slice none 0 0] ++ ((List.replicate 64 (Value.int .u8 0))))))) := bx_eq hb0 rfl
  clear hb0
  have hNp : ∀ i, w0.heap.size ≤ i → ¬ i = p.block := fun i hi => by omega
  have hNb : ∀ i, w0.heap.size ≤ i → ¬ i = b := fun i hi => by omega
  have hbw : w.heap.size ≤ b := by omega
  have hbp : ¬ b = p.block := by omega
  have hs0 := Nat.le_refl w0.heap.size
  refine kl_nil ?_
  refine x_seq ?_
  refine k_seq ?_
  refine k_region ?_
  refine kl_val (y_move) rfl rfl rfl ?_
  refine kl_ow rfl (ow_call1 fn102 rfl rfl rfl (number_r h) (kret_retP (fun u0 w1 ⟨x0, rest0, v0, hq0, hR0, hf, hu0⟩ => ?_) (fun c w' ⟨e, he, hc, hf⟩ => ⟨rfl, .inr ⟨c, rfl, e, by simp only [pLst, pBind_err he], hc, hF.trans hf⟩⟩)))
  obtain ⟨rfl, hx0⟩ := hu0
  have hs1 := hf.size
  replace hs0 := Nat.le_trans hs0 hs1
  replace hF := hF.trans hf
  replace hb := hb.keep hf hbp
  replace h := hR0
  refine kl_val (y_fieldAddr Try.underlying47 rfl I3 S3 rfl rfl) rfl rfl rfl ?_
  have hLen : ([Value.int .i64 0] ++ ([Value.int .i64 0] ++ ((List.replicate 32 (Value.int .u8 0)) ++ ([Value.slice none 0 0] ++ ((List.replicate 64 (Value.int .u8 0))))))).length = 99 := by simp
  refine kl_ow rfl (ow_store (b := b) (o := 0) I3 S3 rfl (v := .int .i64 (x0 : Int)) (xs := [i64 (x0 : Int)]) rfl hb rfl rfl (by have hl0 : ([i64 (x0 : Int)] : List Value).length = 1 := rfl; rw [hl0]; exact Nat.le_trans (by decide) (Nat.le_of_eq hLen.symm)) (One'.single rfl) (fun w2 hb2 hf2 hz2 => ?_))
  replace hb := bx_eq hb2 (sp_here rfl)
  clear hb2 hLen
  replace hF := hF.trans' hf2 (fun i hi e => absurd e (by omega))
  replace h := h.keep hf2 (fun e => hbp e.symm) (fun i hi => by have := h.old i hi; omega)
  have hs1 := hf2.size
  replace hs0 := Nat.le_trans hs0 hs1
  refine kl_nil ?_
  refine x_seq ?_
  refine k_seq ?_
  refine k_region ?_
  refine kl_val (y_move) rfl rfl rfl ?_
  refine kl_ow rfl (ow_call1 fn102 rfl rfl rfl (number_r h) (kret_retP (fun u1 w1 ⟨x1, rest1, v1, hq1, hR1, hf, hu1⟩ => ?_) (fun c w' ⟨e, he, hc, hf⟩ => ⟨rfl, .inr ⟨c, rfl, e, by simp only [pLst, pBind_ok hq0, pBind_err he], hc, hF.trans hf⟩⟩)))
  obtain ⟨rfl, hx1⟩ := hu1
  have hs1 := hf.size
  replace hs0 := Nat.le_trans hs0 hs1
  replace hF := hF.trans hf
  replace hb := hb.keep hf hbp
  replace h := hR1
  refine kl_val (y_fieldAddr Try.underlying47 rfl I3 S3 rfl rfl) rfl rfl rfl ?_
  have hLen : ([i64 (x0 : Int)] ++ ([Value.int .i64 0] ++ ((List.replicate 32 (Value.int .u8 0)) ++ ([Value.slice none 0 0] ++ ((List.replicate 64 (Value.int .u8 0))))))).length = 99 := by simp
  refine kl_ow rfl (ow_store (b := b) (o := 1) I3 S3 rfl (v := .int .i64 (x1 : Int)) (xs := [i64 (x1 : Int)]) rfl hb rfl rfl (by have hl0 : ([i64 (x1 : Int)] : List Value).length = 1 := rfl; rw [hl0]; exact Nat.le_trans (by decide) (Nat.le_of_eq hLen.symm)) (One'.single rfl) (fun w2 hb2 hf2 hz2 => ?_))
  replace hb := bx_eq hb2 (sp_next (a := 1) (o := 0) rfl (sp_here rfl))
  clear hb2 hLen
  replace hF := hF.trans' hf2 (fun i hi e => absurd e (by omega))
  replace h := h.keep hf2 (fun e => hbp e.symm) (fun i hi => by have := h.old i hi; omega)
  have hs1 := hf2.size
  replace hs0 := Nat.le_trans hs0 hs1
  refine kl_nil ?_
  refine x_seq ?_
  refine k_seq ?_
  refine k_region ?_
  refine kl_val (y_move) rfl rfl rfl ?_
  refine kl_ow rfl (ow_call1 fn107 rfl rfl rfl (key_r h) (kret_retP (fun u2 w1 ⟨x2, rest2, v2, hq2, hR2, hf, hu2⟩ => ?_) (fun c w' ⟨e, he, hc, hf⟩ => ⟨rfl, .inr ⟨c, rfl, e, by simp only [pLst, pBind_ok hq0, pBind_ok hq1, pBind_err he], hc, hF.trans hf⟩⟩)))
  obtain ⟨rfl, hk2⟩ := hu2
  have hs1 := hf.size
  replace hs0 := Nat.le_trans hs0 hs1
  replace hF := hF.trans hf
  replace hb := hb.keep hf hbp
  replace h := hR2
  refine kl_val (y_fieldAddr Try.underlying47 rfl I34 S34 rfl rfl) rfl rfl rfl ?_
  have hLen : ([i64 (x0 : Int)] ++ ([i64 (x1 : Int)] ++ ((List.replicate 32 (Value.int .u8 0)) ++ ([Value.slice none 0 0] ++ ((List.replicate 64 (Value.int .u8 0))))))).length = 99 := by simp
  refine kl_ow rfl (ow_store (b := b) (o := 2) I34 S34 rfl (v := .agg (bvs x2).toArray) (xs := bvs x2) rfl hb rfl (by rw [bvs_length]; exact hk2) (by have hl0 : (bvs x2 : List Value).length = 32 := (by rw [bvs_length]; exact hk2); rw [hl0]; exact Nat.le_trans (by decide) (Nat.le_of_eq hLen.symm)) (bvs_one _) (fun w2 hb2 hf2 hz2 => ?_))
  replace hb := bx_eq hb2 (sp_next (a := 1) (o := 1) rfl (sp_next (a := 1) (o := 0) rfl (sp_here (by rw [bvs_length, hk2]; rfl))))
  clear hb2 hLen
  replace hF := hF.trans' hf2 (fun i hi e => absurd e (by omega))
  replace h := h.keep hf2 (fun e => hbp e.symm) (fun i hi => by have := h.old i hi; omega)
  have hs1 := hf2.size
  replace hs0 := Nat.le_trans hs0 hs1
  refine kl_nil ?_
  refine x_seq ?_
  refine k_seq ?_
  refine k_region ?_
  refine kl_val (y_move) rfl rfl rfl ?_
  refine kl_ow rfl (ow_call2 fn114 rfl rfl rfl rfl (all_Entry_r h) (kret_retP (fun u3 w1 ⟨x3, rest3, v3, hq3, hR3, hf, hu3⟩ => ?_) (fun c w' ⟨e, he, hc, hf⟩ => ⟨rfl, .inr ⟨c, rfl, e, by simp only [pLst, pBind_ok hq0, pBind_ok hq1, pBind_ok hq2, pBind_err he], hc, hF.trans hf⟩⟩)))
  have hs1 := hf.size
  replace hu3 := hu3.mono (nw_up hs0) (fun _ _ h => h.keep _ _)
  replace hs0 := Nat.le_trans hs0 hs1
  replace hF := hF.trans hf
  replace hb := hb.keep hf hbp
  replace h := hR3
  refine kl_val (y_fieldAddr Try.underlying47 rfl I43 S43 rfl rfl) rfl rfl rfl ?_
  have hLen : ([i64 (x0 : Int)] ++ ([i64 (x1 : Int)] ++ (bvs x2 ++ ([Value.slice none 0 0] ++ ((List.replicate 64 (Value.int .u8 0))))))).length = 99 := by simp [hk2]
  refine kl_ow rfl (ow_store (b := b) (o := 34) I43 S43 rfl (v := u3) (xs := [u3]) rfl hb hu3.one.2 rfl (by have hl0 : ([u3] : List Value).length = 1 := rfl; rw [hl0]; exact Nat.le_trans (by decide) (Nat.le_of_eq hLen.symm)) (One'.single hu3.one.1) (fun w2 hb2 hf2 hz2 => ?_))
  replace hb := bx_eq hb2 (sp_next (a := 1) (o := 33) rfl (sp_next (a := 1) (o := 32) rfl (sp_next (a := 32) (o := 0) (by rw [bvs_length]; exact hk2) (sp_here rfl))))
  clear hb2 hLen
  replace hF := hF.trans' hf2 (fun i hi e => absurd e (by omega))
  replace h := h.keep hf2 (fun e => hbp e.symm) (fun i hi => by have := h.old i hi; omega)
  have hs1 := hf2.size
  replace hs0 := Nat.le_trans hs0 hs1
  replace hu3 := (hu3.keep hf2 (fun i hi => hNb i hi.1) (fun _ _ h => h.keep _ _)).mono (nw_le hf2) (fun _ _ h => h.keep _ _)
  refine kl_nil ?_
  refine x_seq ?_
  refine k_seq ?_
  refine k_region ?_
  refine kl_val (y_move) rfl rfl rfl ?_
  refine kl_ow rfl (ow_call1 fn109 rfl rfl rfl (sig_r h) (kret_retP (fun u4 w1 ⟨x4, rest4, v4, hq4, hR4, hf, hu4⟩ => ?_) (fun c w' ⟨e, he, hc, hf⟩ => ⟨rfl, .inr ⟨c, rfl, e, by simp only [pLst, pBind_ok hq0, pBind_ok hq1, pBind_ok hq2, pBind_ok hq3, pBind_err he], hc, hF.trans hf⟩⟩)))
  obtain ⟨rfl, hk4⟩ := hu4
  have hs1 := hf.size
  replace hs0 := Nat.le_trans hs0 hs1
  replace hF := hF.trans hf
  replace hb := hb.keep hf hbp
  replace hu3 := (hu3.keep hf (fun i hi => hNp i hi.1) (fun _ _ h => h.keep _ _)).mono (nw_le hf) (fun _ _ h => h.keep _ _)
  replace h := hR4
  refine kl_val (y_fieldAddr Try.underlying47 rfl I45 S45 rfl rfl) rfl rfl rfl ?_
  have hLen : ([i64 (x0 : Int)] ++ ([i64 (x1 : Int)] ++ (bvs x2 ++ ([u3] ++ ((List.replicate 64 (Value.int .u8 0))))))).length = 99 := by simp [hk2]
  refine kl_ow rfl (ow_store (b := b) (o := 35) I45 S45 rfl (v := .agg (bvs x4).toArray) (xs := bvs x4) rfl hb rfl (by rw [bvs_length]; exact hk4) (by have hl0 : (bvs x4 : List Value).length = 64 := (by rw [bvs_length]; exact hk4); rw [hl0]; exact Nat.le_trans (by decide) (Nat.le_of_eq hLen.symm)) (bvs_one _) (fun w2 hb2 hf2 hz2 => ?_))
  replace hb := bx_eq hb2 (sp_next (a := 1) (o := 34) rfl (sp_next (a := 1) (o := 33) rfl (sp_next (a := 32) (o := 1) (by rw [bvs_length]; exact hk2) (sp_next (a := 1) (o := 0) rfl (sp_last (by rw [bvs_length, hk4]; rfl))))))
  clear hb2 hLen
  replace hF := hF.trans' hf2 (fun i hi e => absurd e (by omega))
  replace h := h.keep hf2 (fun e => hbp e.symm) (fun i hi => by have := h.old i hi; omega)
  have hs1 := hf2.size
  replace hs0 := Nat.le_trans hs0 hs1
  replace hu3 := (hu3.keep hf2 (fun i hi => hNb i hi.1) (fun _ _ h => h.keep _ _)).mono (nw_le hf2) (fun _ _ h => h.keep _ _)
  refine kl_nil ?_
  refine x_seq ?_
  refine k_seq ?_
  refine k_region ?_
  refine kl_val (y_load rfl (ld_aggB Try.underlying47 rfl I47 S47 (by simp [hk2, hk4]) hb.cs)) rfl rfl rfl ?_
  refine kl_ow rfl (ow_store (b := b) (o := 0) (xs := [i64 (x0 : Int)] ++ ([i64 (x1 : Int)] ++ (bvs x2 ++ ([u3] ++ (bvs x4))))) I47 S47 rfl (v := .agg ([i64 (x0 : Int)] ++ ([i64 (x1 : Int)] ++ (bvs x2 ++ ([u3] ++ (bvs x4))))).toArray) rfl hb rfl (by simp [hk2, hk4]) (by omega) (((One'.single rfl)).append (((One'.single rfl)).append ((One'.bvs _ : One' _).append ((One'.single hu3.one.1).append (One'.bvs _))))) (fun w3 hb3 hf3 hz3 => ?_))
  replace hb := bx_eq hb3 (splice_all rfl)
  replace hF := hF.trans' hf3 (fun i hi e => absurd e (by omega))
  replace h := h.keep hf3 (fun e => hbp e.symm) (fun i hi => by have := h.old i hi; omega)
  replace hu3 := (hu3.keep hf3 (fun i hi => hNb i hi.1) (fun _ _ h => h.keep _ _)).mono (nw_le hf3) (fun _ _ h => h.keep _ _)
  refine kl_nil ?_
  refine x_seq ?_
  refine k_ret ?_
  exact k_retC rfl rfl (ld_aggB Try.underlying47 rfl I47 S47 (by simp [hk2, hk4]) hb.cs) (.inl ⟨_, rfl, ⟨(x0 : Int), (x1 : Int), x2, x3, x4⟩, rest4, v4, by simp only [pLst, pBind_ok hq0, pBind_ok hq1, pBind_ok hq2, pBind_ok hq3, pBind_ok hq4, pPure], h, hF, _, rfl, ⟨hk2, hk4, _, (hu3.mono (nw_up hf0.size) (fun _ _ h => h.keep _ _)), rfl⟩⟩)

set_option maxRecDepth 100000 in
set_option maxHeartbeats 1000000 in
theorem bundle_r {p : Addr} {v : Value} {bs : List UInt8} {B : Nat → Prop} {w : World} (h : Rd w B p v bs) :
    ReadC Try.prog 123 #[.pointer (some p)] w B p (pBdl bs) (fun w' u x => ∃ cs, u = .agg cs.toArray ∧ BdlR w' (Nw w w') cs x) := by
  refine k_enter1 Try.func123 rfl Try.ntmps123 rfl ?_
  refine k_seq ?_
  refine k_region ?_
  refine kl_ow rfl (ow_alloc I58 Z58 rfl (fun w0 b hb0 hf0 he0 hz0 => ?_))
  have hlt := h.lt
  replace h := h.ext hf0
  have hF : Fr (· = p.block) w w0 := hf0.fr
  have hb : Bx w0 b _ ([Value.int .i64 0] ++ ([Value.int .i64 0] ++ ((List.replicate 32 (Value.int .u8 0)) ++ ((List.replicate 32 (Value.int .u8 0)) ++ (([Value.int .i64 0] ++ List.replicate 32 (Value.int .u8 0)) ++ ((List.replicate 64 (Value.int .u8 0)) ++ ([Value.slice none 0 0]))))))) := bx_eq hb0 rfl
  clear hb0
  have hNp : ∀ i, w0.heap.size ≤ i → ¬ i = p.block := fun i hi => by omega
  have hNb : ∀ i, w0.heap.size ≤ i → ¬ i = b := fun i hi => by omega
  have hbw : w.heap.size ≤ b := by omega
  have hbp : ¬ b = p.block := by omega
  have hs0 := Nat.le_refl w0.heap.size
  refine kl_nil ?_
  refine x_seq ?_
  refine k_seq ?_
  refine k_region ?_
  refine kl_val (y_move) rfl rfl rfl ?_
  refine kl_ow rfl (ow_call1 fn102 rfl rfl rfl (number_r h) (kret_retP (fun u0 w1 ⟨x0, rest0, v0, hq0, hR0, hf, hu0⟩ => ?_) (fun c w' ⟨e, he, hc, hf⟩ => ⟨rfl, .inr ⟨c, rfl, e, by simp only [pBdl, pBind_err he], hc, hF.trans hf⟩⟩)))
  obtain ⟨rfl, hx0⟩ := hu0
  have hs1 := hf.size
  replace hs0 := Nat.le_trans hs0 hs1
  replace hF := hF.trans hf
  replace hb := hb.keep hf hbp
  replace h := hR0
  refine kl_val (y_fieldAddr Try.underlying58 rfl I3 S3 rfl rfl) rfl rfl rfl ?_
  have hLen : ([Value.int .i64 0] ++ ([Value.int .i64 0] ++ ((List.replicate 32 (Value.int .u8 0)) ++ ((List.replicate 32 (Value.int .u8 0)) ++ (([Value.int .i64 0] ++ List.replicate 32 (Value.int .u8 0)) ++ ((List.replicate 64 (Value.int .u8 0)) ++ ([Value.slice none 0 0]))))))).length = 164 := by simp
  refine kl_ow rfl (ow_store (b := b) (o := 0) I3 S3 rfl (v := .int .i64 (x0 : Int)) (xs := [i64 (x0 : Int)]) rfl hb rfl rfl (by have hl0 : ([i64 (x0 : Int)] : List Value).length = 1 := rfl; rw [hl0]; exact Nat.le_trans (by decide) (Nat.le_of_eq hLen.symm)) (One'.single rfl) (fun w2 hb2 hf2 hz2 => ?_))
  replace hb := bx_eq hb2 (sp_here rfl)
  clear hb2 hLen
  replace hF := hF.trans' hf2 (fun i hi e => absurd e (by omega))
  replace h := h.keep hf2 (fun e => hbp e.symm) (fun i hi => by have := h.old i hi; omega)
  have hs1 := hf2.size
  replace hs0 := Nat.le_trans hs0 hs1
  refine kl_nil ?_
  refine x_seq ?_
  refine k_seq ?_
  refine k_region ?_
  refine kl_val (y_move) rfl rfl rfl ?_
  refine kl_ow rfl (ow_call1 fn102 rfl rfl rfl (number_r h) (kret_retP (fun u1 w1 ⟨x1, rest1, v1, hq1, hR1, hf, hu1⟩ => ?_) (fun c w' ⟨e, he, hc, hf⟩ => ⟨rfl, .inr ⟨c, rfl, e, by simp only [pBdl, pBind_ok hq0, pBind_err he], hc, hF.trans hf⟩⟩)))
  obtain ⟨rfl, hx1⟩ := hu1
  have hs1 := hf.size
  replace hs0 := Nat.le_trans hs0 hs1
  replace hF := hF.trans hf
  replace hb := hb.keep hf hbp
  replace h := hR1
  refine kl_val (y_fieldAddr Try.underlying58 rfl I3 S3 rfl rfl) rfl rfl rfl ?_
  have hLen : ([i64 (x0 : Int)] ++ ([Value.int .i64 0] ++ ((List.replicate 32 (Value.int .u8 0)) ++ ((List.replicate 32 (Value.int .u8 0)) ++ (([Value.int .i64 0] ++ List.replicate 32 (Value.int .u8 0)) ++ ((List.replicate 64 (Value.int .u8 0)) ++ ([Value.slice none 0 0]))))))).length = 164 := by simp
  refine kl_ow rfl (ow_store (b := b) (o := 1) I3 S3 rfl (v := .int .i64 (x1 : Int)) (xs := [i64 (x1 : Int)]) rfl hb rfl rfl (by have hl0 : ([i64 (x1 : Int)] : List Value).length = 1 := rfl; rw [hl0]; exact Nat.le_trans (by decide) (Nat.le_of_eq hLen.symm)) (One'.single rfl) (fun w2 hb2 hf2 hz2 => ?_))
  replace hb := bx_eq hb2 (sp_next (a := 1) (o := 0) rfl (sp_here rfl))
  clear hb2 hLen
  replace hF := hF.trans' hf2 (fun i hi e => absurd e (by omega))
  replace h := h.keep hf2 (fun e => hbp e.symm) (fun i hi => by have := h.old i hi; omega)
  have hs1 := hf2.size
  replace hs0 := Nat.le_trans hs0 hs1
  refine kl_nil ?_
  refine x_seq ?_
  refine k_seq ?_
  refine k_region ?_
  refine kl_val (y_move) rfl rfl rfl ?_
  refine kl_ow rfl (ow_call1 fn107 rfl rfl rfl (key_r h) (kret_retP (fun u2 w1 ⟨x2, rest2, v2, hq2, hR2, hf, hu2⟩ => ?_) (fun c w' ⟨e, he, hc, hf⟩ => ⟨rfl, .inr ⟨c, rfl, e, by simp only [pBdl, pBind_ok hq0, pBind_ok hq1, pBind_err he], hc, hF.trans hf⟩⟩)))
  obtain ⟨rfl, hk2⟩ := hu2
  have hs1 := hf.size
  replace hs0 := Nat.le_trans hs0 hs1
  replace hF := hF.trans hf
  replace hb := hb.keep hf hbp
  replace h := hR2
  refine kl_val (y_fieldAddr Try.underlying58 rfl I34 S34 rfl rfl) rfl rfl rfl ?_
  have hLen : ([i64 (x0 : Int)] ++ ([i64 (x1 : Int)] ++ ((List.replicate 32 (Value.int .u8 0)) ++ ((List.replicate 32 (Value.int .u8 0)) ++ (([Value.int .i64 0] ++ List.replicate 32 (Value.int .u8 0)) ++ ((List.replicate 64 (Value.int .u8 0)) ++ ([Value.slice none 0 0]))))))).length = 164 := by simp
  refine kl_ow rfl (ow_store (b := b) (o := 2) I34 S34 rfl (v := .agg (bvs x2).toArray) (xs := bvs x2) rfl hb rfl (by rw [bvs_length]; exact hk2) (by have hl0 : (bvs x2 : List Value).length = 32 := (by rw [bvs_length]; exact hk2); rw [hl0]; exact Nat.le_trans (by decide) (Nat.le_of_eq hLen.symm)) (bvs_one _) (fun w2 hb2 hf2 hz2 => ?_))
  replace hb := bx_eq hb2 (sp_next (a := 1) (o := 1) rfl (sp_next (a := 1) (o := 0) rfl (sp_here (by rw [bvs_length, hk2]; rfl))))
  clear hb2 hLen
  replace hF := hF.trans' hf2 (fun i hi e => absurd e (by omega))
  replace h := h.keep hf2 (fun e => hbp e.symm) (fun i hi => by have := h.old i hi; omega)
  have hs1 := hf2.size
  replace hs0 := Nat.le_trans hs0 hs1
  refine kl_nil ?_
  refine x_seq ?_
  refine k_seq ?_
  refine k_region ?_
  refine kl_val (y_move) rfl rfl rfl ?_
  refine kl_ow rfl (ow_call1 fn107 rfl rfl rfl (key_r h) (kret_retP (fun u3 w1 ⟨x3, rest3, v3, hq3, hR3, hf, hu3⟩ => ?_) (fun c w' ⟨e, he, hc, hf⟩ => ⟨rfl, .inr ⟨c, rfl, e, by simp only [pBdl, pBind_ok hq0, pBind_ok hq1, pBind_ok hq2, pBind_err he], hc, hF.trans hf⟩⟩)))
  obtain ⟨rfl, hk3⟩ := hu3
  have hs1 := hf.size
  replace hs0 := Nat.le_trans hs0 hs1
  replace hF := hF.trans hf
  replace hb := hb.keep hf hbp
  replace h := hR3
  refine kl_val (y_fieldAddr Try.underlying58 rfl I34 S34 rfl rfl) rfl rfl rfl ?_
  have hLen : ([i64 (x0 : Int)] ++ ([i64 (x1 : Int)] ++ (bvs x2 ++ ((List.replicate 32 (Value.int .u8 0)) ++ (([Value.int .i64 0] ++ List.replicate 32 (Value.int .u8 0)) ++ ((List.replicate 64 (Value.int .u8 0)) ++ ([Value.slice none 0 0]))))))).length = 164 := by simp [hk2]
  refine kl_ow rfl (ow_store (b := b) (o := 34) I34 S34 rfl (v := .agg (bvs x3).toArray) (xs := bvs x3) rfl hb rfl (by rw [bvs_length]; exact hk3) (by have hl0 : (bvs x3 : List Value).length = 32 := (by rw [bvs_length]; exact hk3); rw [hl0]; exact Nat.le_trans (by decide) (Nat.le_of_eq hLen.symm)) (bvs_one _) (fun w2 hb2 hf2 hz2 => ?_))
  replace hb := bx_eq hb2 (sp_next (a := 1) (o := 33) rfl (sp_next (a := 1) (o := 32) rfl (sp_next (a := 32) (o := 0) (by rw [bvs_length]; exact hk2) (sp_here (by rw [bvs_length, hk3]; rfl)))))
  clear hb2 hLen
  replace hF := hF.trans' hf2 (fun i hi e => absurd e (by omega))
  replace h := h.keep hf2 (fun e => hbp e.symm) (fun i hi => by have := h.old i hi; omega)
  have hs1 := hf2.size
  replace hs0 := Nat.le_trans hs0 hs1
  refine kl_nil ?_
  refine x_seq ?_
  refine k_seq ?_
  refine k_region ?_
  refine kl_val (y_move) rfl rfl rfl ?_
  refine kl_ow rfl (ow_call1 fn108 rfl rfl rfl (prekey_r h) (kret_retP (fun u4 w1 ⟨x4, rest4, v4, hq4, hR4, hf, hu4⟩ => ?_) (fun c w' ⟨e, he, hc, hf⟩ => ⟨rfl, .inr ⟨c, rfl, e, by simp only [pBdl, pBind_ok hq0, pBind_ok hq1, pBind_ok hq2, pBind_ok hq3, pBind_err he], hc, hF.trans hf⟩⟩)))
  obtain ⟨cs4, rfl, hS4⟩ := hu4
  have hs1 := hf.size
  have hl4 := hS4.length
  skip
  replace hs0 := Nat.le_trans hs0 hs1
  replace hF := hF.trans hf
  replace hb := hb.keep hf hbp
  replace h := hR4
  refine kl_val (y_fieldAddr Try.underlying58 rfl I49 S49 rfl rfl) rfl rfl rfl ?_
  have hLen : ([i64 (x0 : Int)] ++ ([i64 (x1 : Int)] ++ (bvs x2 ++ (bvs x3 ++ (([Value.int .i64 0] ++ List.replicate 32 (Value.int .u8 0)) ++ ((List.replicate 64 (Value.int .u8 0)) ++ ([Value.slice none 0 0]))))))).length = 164 := by simp [hk2, hk3]
  refine kl_ow rfl (ow_store (b := b) (o := 66) I49 S49 rfl (v := .agg cs4.toArray) (xs := cs4) rfl hb rfl hl4 (by have hl0 : (cs4 : List Value).length = 33 := hl4; rw [hl0]; exact Nat.le_trans (by decide) (Nat.le_of_eq hLen.symm)) hS4.one (fun w2 hb2 hf2 hz2 => ?_))
  replace hb := bx_eq hb2 (sp_next (a := 1) (o := 65) rfl (sp_next (a := 1) (o := 64) rfl (sp_next (a := 32) (o := 32) (by rw [bvs_length]; exact hk2) (sp_next (a := 32) (o := 0) (by rw [bvs_length]; exact hk3) (sp_here (by rw [hl4]; rfl))))))
  clear hb2 hLen
  replace hF := hF.trans' hf2 (fun i hi e => absurd e (by omega))
  replace h := h.keep hf2 (fun e => hbp e.symm) (fun i hi => by have := h.old i hi; omega)
  have hs1 := hf2.size
  replace hs0 := Nat.le_trans hs0 hs1
  refine kl_nil ?_
  refine x_seq ?_
  refine k_seq ?_
  refine k_region ?_
  refine kl_val (y_move) rfl rfl rfl ?_
  refine kl_ow rfl (ow_call1 fn109 rfl rfl rfl (sig_r h) (kret_retP (fun u5 w1 ⟨x5, rest5, v5, hq5, hR5, hf, hu5⟩ => ?_) (fun c w' ⟨e, he, hc, hf⟩ => ⟨rfl, .inr ⟨c, rfl, e, by simp only [pBdl, pBind_ok hq0, pBind_ok hq1, pBind_ok hq2, pBind_ok hq3, pBind_ok hq4, pBind_err he], hc, hF.trans hf⟩⟩)))
  obtain ⟨rfl, hk5⟩ := hu5
  have hs1 := hf.size
  replace hs0 := Nat.le_trans hs0 hs1
  replace hF := hF.trans hf
  replace hb := hb.keep hf hbp
  replace h := hR5
  refine kl_val (y_fieldAddr Try.underlying58 rfl I45 S45 rfl rfl) rfl rfl rfl ?_
  have hLen : ([i64 (x0 : Int)] ++ ([i64 (x1 : Int)] ++ (bvs x2 ++ (bvs x3 ++ (cs4 ++ ((List.replicate 64 (Value.int .u8 0)) ++ ([Value.slice none 0 0]))))))).length = 164 := by simp [hk2, hk3, hl4]
  refine kl_ow rfl (ow_store (b := b) (o := 99) I45 S45 rfl (v := .agg (bvs x5).toArray) (xs := bvs x5) rfl hb rfl (by rw [bvs_length]; exact hk5) (by have hl0 : (bvs x5 : List Value).length = 64 := (by rw [bvs_length]; exact hk5); rw [hl0]; exact Nat.le_trans (by decide) (Nat.le_of_eq hLen.symm)) (bvs_one _) (fun w2 hb2 hf2 hz2 => ?_))
  replace hb := bx_eq hb2 (sp_next (a := 1) (o := 98) rfl (sp_next (a := 1) (o := 97) rfl (sp_next (a := 32) (o := 65) (by rw [bvs_length]; exact hk2) (sp_next (a := 32) (o := 33) (by rw [bvs_length]; exact hk3) (sp_next (a := 33) (o := 0) hl4 (sp_here (by rw [bvs_length, hk5]; rfl)))))))
  clear hb2 hLen
  replace hF := hF.trans' hf2 (fun i hi e => absurd e (by omega))
  replace h := h.keep hf2 (fun e => hbp e.symm) (fun i hi => by have := h.old i hi; omega)
  have hs1 := hf2.size
  replace hs0 := Nat.le_trans hs0 hs1
  refine kl_nil ?_
  refine x_seq ?_
  refine k_seq ?_
  refine k_region ?_
  refine kl_val (y_move) rfl rfl rfl ?_
  refine kl_ow rfl (ow_call2 fn110 rfl rfl rfl rfl (all_Prekey_r h) (kret_retP (fun u6 w1 ⟨x6, rest6, v6, hq6, hR6, hf, hu6⟩ => ?_) (fun c w' ⟨e, he, hc, hf⟩ => ⟨rfl, .inr ⟨c, rfl, e, by simp only [pBdl, pBind_ok hq0, pBind_ok hq1, pBind_ok hq2, pBind_ok hq3, pBind_ok hq4, pBind_ok hq5, pBind_err he], hc, hF.trans hf⟩⟩)))
  have hs1 := hf.size
  replace hu6 := hu6.mono (nw_up hs0) (fun _ _ h => h.keep _ _)
  replace hs0 := Nat.le_trans hs0 hs1
  replace hF := hF.trans hf
  replace hb := hb.keep hf hbp
  replace h := hR6
  refine kl_val (y_fieldAddr Try.underlying58 rfl I50 S50 rfl rfl) rfl rfl rfl ?_
  have hLen : ([i64 (x0 : Int)] ++ ([i64 (x1 : Int)] ++ (bvs x2 ++ (bvs x3 ++ (cs4 ++ (bvs x5 ++ ([Value.slice none 0 0]))))))).length = 164 := by simp [hk2, hk3, hl4, hk5]
  refine kl_ow rfl (ow_store (b := b) (o := 163) I50 S50 rfl (v := u6) (xs := [u6]) rfl hb hu6.one.2 rfl (by have hl0 : ([u6] : List Value).length = 1 := rfl; rw [hl0]; exact Nat.le_trans (by decide) (Nat.le_of_eq hLen.symm)) (One'.single hu6.one.1) (fun w2 hb2 hf2 hz2 => ?_))
  replace hb := bx_eq hb2 (sp_next (a := 1) (o := 162) rfl (sp_next (a := 1) (o := 161) rfl (sp_next (a := 32) (o := 129) (by rw [bvs_length]; exact hk2) (sp_next (a := 32) (o := 97) (by rw [bvs_length]; exact hk3) (sp_next (a := 33) (o := 64) hl4 (sp_next (a := 64) (o := 0) (by rw [bvs_length]; exact hk5) (sp_last rfl)))))))
  clear hb2 hLen
  replace hF := hF.trans' hf2 (fun i hi e => absurd e (by omega))
  replace h := h.keep hf2 (fun e => hbp e.symm) (fun i hi => by have := h.old i hi; omega)
  have hs1 := hf2.size
  replace hs0 := Nat.le_trans hs0 hs1
  replace hu6 := (hu6.keep hf2 (fun i hi => hNb i hi.1) (fun _ _ h => h.keep _ _)).mono (nw_le hf2) (fun _ _ h => h.keep _ _)
  refine kl_nil ?_
  refine x_seq ?_
  refine k_seq ?_
  refine k_region ?_
  refine kl_val (y_load rfl (ld_aggB Try.underlying58 rfl I58 S58 (by simp [hk2, hk3, hl4, hk5]) hb.cs)) rfl rfl rfl ?_
  refine kl_ow rfl (ow_store (b := b) (o := 0) (xs := [i64 (x0 : Int)] ++ ([i64 (x1 : Int)] ++ (bvs x2 ++ (bvs x3 ++ (cs4 ++ (bvs x5 ++ ([u6]))))))) I58 S58 rfl (v := .agg ([i64 (x0 : Int)] ++ ([i64 (x1 : Int)] ++ (bvs x2 ++ (bvs x3 ++ (cs4 ++ (bvs x5 ++ ([u6]))))))).toArray) rfl hb rfl (by simp [hk2, hk3, hl4, hk5]) (by omega) (((One'.single rfl)).append (((One'.single rfl)).append ((One'.bvs _ : One' _).append ((One'.bvs _ : One' _).append ((hS4.one).append ((One'.bvs _ : One' _).append (One'.single hu6.one.1))))))) (fun w3 hb3 hf3 hz3 => ?_))
  replace hb := bx_eq hb3 (splice_all rfl)
  replace hF := hF.trans' hf3 (fun i hi e => absurd e (by omega))
  replace h := h.keep hf3 (fun e => hbp e.symm) (fun i hi => by have := h.old i hi; omega)
  replace hu6 := (hu6.keep hf3 (fun i hi => hNb i hi.1) (fun _ _ h => h.keep _ _)).mono (nw_le hf3) (fun _ _ h => h.keep _ _)
  refine kl_nil ?_
  refine x_seq ?_
  refine k_ret ?_
  exact k_retC rfl rfl (ld_aggB Try.underlying58 rfl I58 S58 (by simp [hk2, hk3, hl4, hk5]) hb.cs) (.inl ⟨_, rfl, ⟨(x0 : Int), (x1 : Int), x2, x3, x4, x5, x6⟩, rest6, v6, by simp only [pBdl, pBind_ok hq0, pBind_ok hq1, pBind_ok hq2, pBind_ok hq3, pBind_ok hq4, pBind_ok hq5, pBind_ok hq6, pPure], h, hF, _, rfl, ⟨hk2, hk3, hk5, _, _, hS4.keep _ _, (hu6.mono (nw_up hf0.size) (fun _ _ h => h.keep _ _)), rfl⟩⟩)

set_option maxRecDepth 100000 in
set_option maxHeartbeats 1000000 in
theorem envelope_r {p : Addr} {v : Value} {bs : List UInt8} {B : Nat → Prop} {w : World} (h : Rd w B p v bs) :
    ReadC Try.prog 90 #[.pointer (some p)] w B p (pEnv bs) (fun w' u x => ∃ cs, u = .agg cs.toArray ∧ EnvR w' (Nw w w') cs x) := by
  refine k_enter1 Try.func90 rfl Try.ntmps90 rfl ?_
  refine k_seq ?_
  refine k_region ?_
  refine kl_ow rfl (ow_alloc I38 Z38 rfl (fun w0 b hb0 hf0 he0 hz0 => ?_))
  have hlt := h.lt
  replace h := h.ext hf0
  have hF : Fr (· = p.block) w w0 := hf0.fr
  have hb : Bx w0 b _ ([Value.int .i64 0] ++ ([Value.int .i64 0] ++ ([Value.bool false] ++ ((List.replicate 32 (Value.int .u8 0)) ++ ([Value.int .i64 0] ++ ([Value.int .i64 0] ++ ((List.replicate 32 (Value.int .u8 0) ++ [Value.int .i64 0, Value.int .i64 0]) ++ ([Value.slice none 0 0])))))))) := bx_eq hb0 rfl
  clear hb0
  have hNp : ∀ i, w0.heap.size ≤ i → ¬ i = p.block := fun i hi => by omega
  have hNb : ∀ i, w0.heap.size ≤ i → ¬ i = b := fun i hi => by omega
  have hbw : w.heap.size ≤ b := by omega
  have hbp : ¬ b = p.block := by omega
  have hs0 := Nat.le_refl w0.heap.size
  refine kl_nil ?_
  refine x_seq ?_
  refine k_seq ?_
  refine k_region ?_
  refine kl_val (y_move) rfl rfl rfl ?_
  refine kl_ow rfl (ow_call1 fn102 rfl rfl rfl (number_r h) (kret_retP (fun u0 w1 ⟨x0, rest0, v0, hq0, hR0, hf, hu0⟩ => ?_) (fun c w' ⟨e, he, hc, hf⟩ => ⟨rfl, .inr ⟨c, rfl, e, by simp only [pEnv, pBind_err he], hc, hF.trans hf⟩⟩)))
  obtain ⟨rfl, hx0⟩ := hu0
  have hs1 := hf.size
  replace hs0 := Nat.le_trans hs0 hs1
  replace hF := hF.trans hf
  replace hb := hb.keep hf hbp
  replace h := hR0
  refine kl_val (y_fieldAddr Try.underlying38 rfl I3 S3 rfl rfl) rfl rfl rfl ?_
  have hLen : ([Value.int .i64 0] ++ ([Value.int .i64 0] ++ ([Value.bool false] ++ ((List.replicate 32 (Value.int .u8 0)) ++ ([Value.int .i64 0] ++ ([Value.int .i64 0] ++ ((List.replicate 32 (Value.int .u8 0) ++ [Value.int .i64 0, Value.int .i64 0]) ++ ([Value.slice none 0 0])))))))).length = 72 := by simp
  refine kl_ow rfl (ow_store (b := b) (o := 0) I3 S3 rfl (v := .int .i64 (x0 : Int)) (xs := [i64 (x0 : Int)]) rfl hb rfl rfl (by have hl0 : ([i64 (x0 : Int)] : List Value).length = 1 := rfl; rw [hl0]; exact Nat.le_trans (by decide) (Nat.le_of_eq hLen.symm)) (One'.single rfl) (fun w2 hb2 hf2 hz2 => ?_))
  replace hb := bx_eq hb2 (sp_here rfl)
  clear hb2 hLen
  replace hF := hF.trans' hf2 (fun i hi e => absurd e (by omega))
  replace h := h.keep hf2 (fun e => hbp e.symm) (fun i hi => by have := h.old i hi; omega)
  have hs1 := hf2.size
  replace hs0 := Nat.le_trans hs0 hs1
  refine kl_nil ?_
  refine x_seq ?_
  refine k_seq ?_
  refine k_region ?_
  refine kl_val (y_move) rfl rfl rfl ?_
  refine kl_ow rfl (ow_call1 fn102 rfl rfl rfl (number_r h) (kret_retP (fun u1 w1 ⟨x1, rest1, v1, hq1, hR1, hf, hu1⟩ => ?_) (fun c w' ⟨e, he, hc, hf⟩ => ⟨rfl, .inr ⟨c, rfl, e, by simp only [pEnv, pBind_ok hq0, pBind_err he], hc, hF.trans hf⟩⟩)))
  obtain ⟨rfl, hx1⟩ := hu1
  have hs1 := hf.size
  replace hs0 := Nat.le_trans hs0 hs1
  replace hF := hF.trans hf
  replace hb := hb.keep hf hbp
  replace h := hR1
  refine kl_val (y_fieldAddr Try.underlying38 rfl I3 S3 rfl rfl) rfl rfl rfl ?_
  have hLen : ([i64 (x0 : Int)] ++ ([Value.int .i64 0] ++ ([Value.bool false] ++ ((List.replicate 32 (Value.int .u8 0)) ++ ([Value.int .i64 0] ++ ([Value.int .i64 0] ++ ((List.replicate 32 (Value.int .u8 0) ++ [Value.int .i64 0, Value.int .i64 0]) ++ ([Value.slice none 0 0])))))))).length = 72 := by simp
  refine kl_ow rfl (ow_store (b := b) (o := 1) I3 S3 rfl (v := .int .i64 (x1 : Int)) (xs := [i64 (x1 : Int)]) rfl hb rfl rfl (by have hl0 : ([i64 (x1 : Int)] : List Value).length = 1 := rfl; rw [hl0]; exact Nat.le_trans (by decide) (Nat.le_of_eq hLen.symm)) (One'.single rfl) (fun w2 hb2 hf2 hz2 => ?_))
  replace hb := bx_eq hb2 (sp_next (a := 1) (o := 0) rfl (sp_here rfl))
  clear hb2 hLen
  replace hF := hF.trans' hf2 (fun i hi e => absurd e (by omega))
  replace h := h.keep hf2 (fun e => hbp e.symm) (fun i hi => by have := h.old i hi; omega)
  have hs1 := hf2.size
  replace hs0 := Nat.le_trans hs0 hs1
  refine kl_nil ?_
  refine x_seq ?_
  refine k_seq ?_
  refine k_region ?_
  refine kl_val (y_move) rfl rfl rfl ?_
  refine kl_ow rfl (ow_call1 fn103 rfl rfl rfl (truth_r h) (kret_retP (fun u2 w1 ⟨x2, rest2, v2, hq2, hR2, hf, hu2⟩ => ?_) (fun c w' ⟨e, he, hc, hf⟩ => ⟨rfl, .inr ⟨c, rfl, e, by simp only [pEnv, pBind_ok hq0, pBind_ok hq1, pBind_err he], hc, hF.trans hf⟩⟩)))
  subst hu2
  have hs1 := hf.size
  replace hs0 := Nat.le_trans hs0 hs1
  replace hF := hF.trans hf
  replace hb := hb.keep hf hbp
  replace h := hR2
  refine kl_val (y_fieldAddr Try.underlying38 rfl I4 S4 rfl rfl) rfl rfl rfl ?_
  have hLen : ([i64 (x0 : Int)] ++ ([i64 (x1 : Int)] ++ ([Value.bool false] ++ ((List.replicate 32 (Value.int .u8 0)) ++ ([Value.int .i64 0] ++ ([Value.int .i64 0] ++ ((List.replicate 32 (Value.int .u8 0) ++ [Value.int .i64 0, Value.int .i64 0]) ++ ([Value.slice none 0 0])))))))).length = 72 := by simp
  refine kl_ow rfl (ow_store (b := b) (o := 2) I4 S4 rfl (v := .bool x2) (xs := [Value.bool x2]) rfl hb rfl rfl (by have hl0 : ([Value.bool x2] : List Value).length = 1 := rfl; rw [hl0]; exact Nat.le_trans (by decide) (Nat.le_of_eq hLen.symm)) (One'.single rfl) (fun w2 hb2 hf2 hz2 => ?_))
  replace hb := bx_eq hb2 (sp_next (a := 1) (o := 1) rfl (sp_next (a := 1) (o := 0) rfl (sp_here rfl)))
  clear hb2 hLen
  replace hF := hF.trans' hf2 (fun i hi e => absurd e (by omega))
  replace h := h.keep hf2 (fun e => hbp e.symm) (fun i hi => by have := h.old i hi; omega)
  have hs1 := hf2.size
  replace hs0 := Nat.le_trans hs0 hs1
  refine kl_nil ?_
  refine x_seq ?_
  refine k_seq ?_
  refine k_region ?_
  refine kl_val (y_move) rfl rfl rfl ?_
  refine kl_ow rfl (ow_call1 fn107 rfl rfl rfl (key_r h) (kret_retP (fun u3 w1 ⟨x3, rest3, v3, hq3, hR3, hf, hu3⟩ => ?_) (fun c w' ⟨e, he, hc, hf⟩ => ⟨rfl, .inr ⟨c, rfl, e, by simp only [pEnv, pBind_ok hq0, pBind_ok hq1, pBind_ok hq2, pBind_err he], hc, hF.trans hf⟩⟩)))
  obtain ⟨rfl, hk3⟩ := hu3
  have hs1 := hf.size
  replace hs0 := Nat.le_trans hs0 hs1
  replace hF := hF.trans hf
  replace hb := hb.keep hf hbp
  replace h := hR3
  refine kl_val (y_fieldAddr Try.underlying38 rfl I34 S34 rfl rfl) rfl rfl rfl ?_
  have hLen : ([i64 (x0 : Int)] ++ ([i64 (x1 : Int)] ++ ([Value.bool x2] ++ ((List.replicate 32 (Value.int .u8 0)) ++ ([Value.int .i64 0] ++ ([Value.int .i64 0] ++ ((List.replicate 32 (Value.int .u8 0) ++ [Value.int .i64 0, Value.int .i64 0]) ++ ([Value.slice none 0 0])))))))).length = 72 := by simp
  refine kl_ow rfl (ow_store (b := b) (o := 3) I34 S34 rfl (v := .agg (bvs x3).toArray) (xs := bvs x3) rfl hb rfl (by rw [bvs_length]; exact hk3) (by have hl0 : (bvs x3 : List Value).length = 32 := (by rw [bvs_length]; exact hk3); rw [hl0]; exact Nat.le_trans (by decide) (Nat.le_of_eq hLen.symm)) (bvs_one _) (fun w2 hb2 hf2 hz2 => ?_))
  replace hb := bx_eq hb2 (sp_next (a := 1) (o := 2) rfl (sp_next (a := 1) (o := 1) rfl (sp_next (a := 1) (o := 0) rfl (sp_here (by rw [bvs_length, hk3]; rfl)))))
  clear hb2 hLen
  replace hF := hF.trans' hf2 (fun i hi e => absurd e (by omega))
  replace h := h.keep hf2 (fun e => hbp e.symm) (fun i hi => by have := h.old i hi; omega)
  have hs1 := hf2.size
  replace hs0 := Nat.le_trans hs0 hs1
  refine kl_nil ?_
  refine x_seq ?_
  refine k_seq ?_
  refine k_region ?_
  refine kl_val (y_move) rfl rfl rfl ?_
  refine kl_ow rfl (ow_call1 fn102 rfl rfl rfl (number_r h) (kret_retP (fun u4 w1 ⟨x4, rest4, v4, hq4, hR4, hf, hu4⟩ => ?_) (fun c w' ⟨e, he, hc, hf⟩ => ⟨rfl, .inr ⟨c, rfl, e, by simp only [pEnv, pBind_ok hq0, pBind_ok hq1, pBind_ok hq2, pBind_ok hq3, pBind_err he], hc, hF.trans hf⟩⟩)))
  obtain ⟨rfl, hx4⟩ := hu4
  have hs1 := hf.size
  replace hs0 := Nat.le_trans hs0 hs1
  replace hF := hF.trans hf
  replace hb := hb.keep hf hbp
  replace h := hR4
  refine kl_val (y_fieldAddr Try.underlying38 rfl I3 S3 rfl rfl) rfl rfl rfl ?_
  have hLen : ([i64 (x0 : Int)] ++ ([i64 (x1 : Int)] ++ ([Value.bool x2] ++ (bvs x3 ++ ([Value.int .i64 0] ++ ([Value.int .i64 0] ++ ((List.replicate 32 (Value.int .u8 0) ++ [Value.int .i64 0, Value.int .i64 0]) ++ ([Value.slice none 0 0])))))))).length = 72 := by simp [hk3]
  refine kl_ow rfl (ow_store (b := b) (o := 35) I3 S3 rfl (v := .int .i64 (x4 : Int)) (xs := [i64 (x4 : Int)]) rfl hb rfl rfl (by have hl0 : ([i64 (x4 : Int)] : List Value).length = 1 := rfl; rw [hl0]; exact Nat.le_trans (by decide) (Nat.le_of_eq hLen.symm)) (One'.single rfl) (fun w2 hb2 hf2 hz2 => ?_))
  replace hb := bx_eq hb2 (sp_next (a := 1) (o := 34) rfl (sp_next (a := 1) (o := 33) rfl (sp_next (a := 1) (o := 32) rfl (sp_next (a := 32) (o := 0) (by rw [bvs_length]; exact hk3) (sp_here rfl)))))
  clear hb2 hLen
  replace hF := hF.trans' hf2 (fun i hi e => absurd e (by omega))
  replace h := h.keep hf2 (fun e => hbp e.symm) (fun i hi => by have := h.old i hi; omega)
  have hs1 := hf2.size
  replace hs0 := Nat.le_trans hs0 hs1
  refine kl_nil ?_
  refine x_seq ?_
  refine k_seq ?_
  refine k_region ?_
  refine kl_val (y_move) rfl rfl rfl ?_
  refine kl_ow rfl (ow_call1 fn102 rfl rfl rfl (number_r h) (kret_retP (fun u5 w1 ⟨x5, rest5, v5, hq5, hR5, hf, hu5⟩ => ?_) (fun c w' ⟨e, he, hc, hf⟩ => ⟨rfl, .inr ⟨c, rfl, e, by simp only [pEnv, pBind_ok hq0, pBind_ok hq1, pBind_ok hq2, pBind_ok hq3, pBind_ok hq4, pBind_err he], hc, hF.trans hf⟩⟩)))
  obtain ⟨rfl, hx5⟩ := hu5
  have hs1 := hf.size
  replace hs0 := Nat.le_trans hs0 hs1
  replace hF := hF.trans hf
  replace hb := hb.keep hf hbp
  replace h := hR5
  refine kl_val (y_sub64 rfl rfl (by omega)) rfl rfl rfl ?_
  refine kl_val (y_fieldAddr Try.underlying38 rfl I3 S3 rfl rfl) rfl rfl rfl ?_
  have hLen : ([i64 (x0 : Int)] ++ ([i64 (x1 : Int)] ++ ([Value.bool x2] ++ (bvs x3 ++ ([i64 (x4 : Int)] ++ ([Value.int .i64 0] ++ ((List.replicate 32 (Value.int .u8 0) ++ [Value.int .i64 0, Value.int .i64 0]) ++ ([Value.slice none 0 0])))))))).length = 72 := by simp [hk3]
  refine kl_ow rfl (ow_store (b := b) (o := 36) I3 S3 rfl (v := .int .i64 ((x5 : Int) - 1)) (xs := [i64 ((x5 : Int) - 1)]) rfl hb rfl rfl (by have hl0 : ([i64 ((x5 : Int) - 1)] : List Value).length = 1 := rfl; rw [hl0]; exact Nat.le_trans (by decide) (Nat.le_of_eq hLen.symm)) (One'.single rfl) (fun w2 hb2 hf2 hz2 => ?_))
  replace hb := bx_eq hb2 (sp_next (a := 1) (o := 35) rfl (sp_next (a := 1) (o := 34) rfl (sp_next (a := 1) (o := 33) rfl (sp_next (a := 32) (o := 1) (by rw [bvs_length]; exact hk3) (sp_next (a := 1) (o := 0) rfl (sp_here rfl))))))
  clear hb2 hLen
  replace hF := hF.trans' hf2 (fun i hi e => absurd e (by omega))
  replace h := h.keep hf2 (fun e => hbp e.symm) (fun i hi => by have := h.old i hi; omega)
  have hs1 := hf2.size
  replace hs0 := Nat.le_trans hs0 hs1
  refine kl_nil ?_
  refine x_seq ?_
  refine k_seq ?_
  refine k_region ?_
  refine kl_val (y_move) rfl rfl rfl ?_
  refine kl_ow rfl (ow_call1 fn121 rfl rfl rfl (header_r h) (kret_retP (fun u6 w1 ⟨x6, rest6, v6, hq6, hR6, hf, hu6⟩ => ?_) (fun c w' ⟨e, he, hc, hf⟩ => ⟨rfl, .inr ⟨c, rfl, e, by simp only [pEnv, pBind_ok hq0, pBind_ok hq1, pBind_ok hq2, pBind_ok hq3, pBind_ok hq4, pBind_ok hq5, pBind_err he], hc, hF.trans hf⟩⟩)))
  obtain ⟨cs6, rfl, hS6⟩ := hu6
  have hs1 := hf.size
  have hl6 := hS6.length
  skip
  replace hs0 := Nat.le_trans hs0 hs1
  replace hF := hF.trans hf
  replace hb := hb.keep hf hbp
  replace h := hR6
  refine kl_val (y_fieldAddr Try.underlying38 rfl I36 S36 rfl rfl) rfl rfl rfl ?_
  have hLen : ([i64 (x0 : Int)] ++ ([i64 (x1 : Int)] ++ ([Value.bool x2] ++ (bvs x3 ++ ([i64 (x4 : Int)] ++ ([i64 ((x5 : Int) - 1)] ++ ((List.replicate 32 (Value.int .u8 0) ++ [Value.int .i64 0, Value.int .i64 0]) ++ ([Value.slice none 0 0])))))))).length = 72 := by simp [hk3]
  refine kl_ow rfl (ow_store (b := b) (o := 37) I36 S36 rfl (v := .agg cs6.toArray) (xs := cs6) rfl hb rfl hl6 (by have hl0 : (cs6 : List Value).length = 34 := hl6; rw [hl0]; exact Nat.le_trans (by decide) (Nat.le_of_eq hLen.symm)) hS6.one (fun w2 hb2 hf2 hz2 => ?_))
  replace hb := bx_eq hb2 (sp_next (a := 1) (o := 36) rfl (sp_next (a := 1) (o := 35) rfl (sp_next (a := 1) (o := 34) rfl (sp_next (a := 32) (o := 2) (by rw [bvs_length]; exact hk3) (sp_next (a := 1) (o := 1) rfl (sp_next (a := 1) (o := 0) rfl (sp_here (by rw [hl6]; rfl))))))))
  clear hb2 hLen
  replace hF := hF.trans' hf2 (fun i hi e => absurd e (by omega))
  replace h := h.keep hf2 (fun e => hbp e.symm) (fun i hi => by have := h.old i hi; omega)
  have hs1 := hf2.size
  replace hs0 := Nat.le_trans hs0 hs1
  refine kl_nil ?_
  refine x_seq ?_
  refine k_seq ?_
  refine k_region ?_
  refine kl_val (y_move) rfl rfl rfl ?_
  refine kl_ow rfl (ow_call1 fn101 rfl rfl rfl (text_r h) (kret_retP (fun u7 w1 ⟨x7, rest7, v7, hq7, hR7, hf, hu7⟩ => ?_) (fun c w' ⟨e, he, hc, hf⟩ => ⟨rfl, .inr ⟨c, rfl, e, by simp only [pEnv, pBind_ok hq0, pBind_ok hq1, pBind_ok hq2, pBind_ok hq3, pBind_ok hq4, pBind_ok hq5, pBind_ok hq6, pBind_err he], hc, hF.trans hf⟩⟩)))
  subst hu7
  have hs1 := hf.size
  replace hs0 := Nat.le_trans hs0 hs1
  replace hF := hF.trans hf
  replace hb := hb.keep hf hbp
  replace h := hR7
  refine kl_ow rfl (ow_s2b Try.underlying9 Try.underlying22 Try.underlying5 rfl rfl (fun vb w2 hvb hE => ?_))
  replace hvb := hvb.mono (nw_up hs0)
  replace hb := hb.keep hE (fun h => h)
  replace hF := hF.trans hE.fr
  replace h := h.ext hE
  have hs2 := hE.size
  replace hs0 := Nat.le_trans hs0 hs2
  refine kl_val (y_fieldAddr Try.underlying38 rfl I22 S22 rfl rfl) rfl rfl rfl ?_
  have hLen : ([i64 (x0 : Int)] ++ ([i64 (x1 : Int)] ++ ([Value.bool x2] ++ (bvs x3 ++ ([i64 (x4 : Int)] ++ ([i64 ((x5 : Int) - 1)] ++ (cs6 ++ ([Value.slice none 0 0])))))))).length = 72 := by simp [hk3, hl6]
  refine kl_ow rfl (ow_store (b := b) (o := 71) I22 S22 rfl (v := vb) (xs := [vb]) rfl hb hvb.one.2 rfl (by have hl0 : ([vb] : List Value).length = 1 := rfl; rw [hl0]; exact Nat.le_trans (by decide) (Nat.le_of_eq hLen.symm)) (One'.single hvb.one.1) (fun w2 hb2 hf2 hz2 => ?_))
  replace hb := bx_eq hb2 (sp_next (a := 1) (o := 70) rfl (sp_next (a := 1) (o := 69) rfl (sp_next (a := 1) (o := 68) rfl (sp_next (a := 32) (o := 36) (by rw [bvs_length]; exact hk3) (sp_next (a := 1) (o := 35) rfl (sp_next (a := 1) (o := 34) rfl (sp_next (a := 34) (o := 0) hl6 (sp_last rfl))))))))
  clear hb2 hLen
  replace hF := hF.trans' hf2 (fun i hi e => absurd e (by omega))
  replace h := h.keep hf2 (fun e => hbp e.symm) (fun i hi => by have := h.old i hi; omega)
  have hs1 := hf2.size
  replace hs0 := Nat.le_trans hs0 hs1
  replace hvb := (hvb.keep hf2 (fun i hi => hNb i hi.1)).mono (nw_le hf2)
  refine kl_nil ?_
  refine x_seq ?_
  refine k_seq ?_
  refine k_region ?_
  refine kl_val (y_load rfl (ld_aggB Try.underlying38 rfl I38 S38 (by simp [hk3, hl6]) hb.cs)) rfl rfl rfl ?_
  refine kl_ow rfl (ow_store (b := b) (o := 0) (xs := [i64 (x0 : Int)] ++ ([i64 (x1 : Int)] ++ ([Value.bool x2] ++ (bvs x3 ++ ([i64 (x4 : Int)] ++ ([i64 ((x5 : Int) - 1)] ++ (cs6 ++ ([vb])))))))) I38 S38 rfl (v := .agg ([i64 (x0 : Int)] ++ ([i64 (x1 : Int)] ++ ([Value.bool x2] ++ (bvs x3 ++ ([i64 (x4 : Int)] ++ ([i64 ((x5 : Int) - 1)] ++ (cs6 ++ ([vb])))))))).toArray) rfl hb rfl (by simp [hk3, hl6]) (by omega) (((One'.single rfl)).append (((One'.single rfl)).append (((One'.single rfl)).append ((One'.bvs _ : One' _).append (((One'.single rfl)).append (((One'.single rfl)).append ((hS6.one).append ((One'.single hvb.one.1))))))))) (fun w3 hb3 hf3 hz3 => ?_))
  replace hb := bx_eq hb3 (splice_all rfl)
  replace hF := hF.trans' hf3 (fun i hi e => absurd e (by omega))
  replace h := h.keep hf3 (fun e => hbp e.symm) (fun i hi => by have := h.old i hi; omega)
  replace hvb := (hvb.keep hf3 (fun i hi => hNb i hi.1)).mono (nw_le hf3)
  refine kl_nil ?_
  refine x_seq ?_
  refine k_ret ?_
  exact k_retC rfl rfl (ld_aggB Try.underlying38 rfl I38 S38 (by simp [hk3, hl6]) hb.cs) (.inl ⟨_, rfl, ⟨(x0 : Int), (x1 : Int), x2, x3, (x4 : Int), (x5 : Int) - 1, x6, x7⟩, rest7, v7, by simp only [pEnv, pBind_ok hq0, pBind_ok hq1, pBind_ok hq2, pBind_ok hq3, pBind_ok hq4, pBind_ok hq5, pBind_ok hq6, pBind_ok hq7, pPure], h, hF, _, rfl, ⟨hk3, _, _, hS6.keep _ _, (hvb.mono (nw_up hf0.size)), rfl⟩⟩)

set_option maxRecDepth 100000 in
set_option maxHeartbeats 1000000 in
theorem all_Envelope_r {p : Addr} {v : Value} {bs : List UInt8} {B : Nat → Prop} {w : World} (h : Rd w B p v bs) :
    ReadC Try.prog 124 #[.pointer (some p), .func (.func 90) #[] #[]] w B p (pAll pEnv bs) (fun w' u x => SlX EnvR 72 w' (Nw w w') u x) := by
  refine k_enter2 Try.func124 rfl Try.ntmps124 rfl ?_
  have hlt := h.lt
  have hNp : ∀ i, New w i → ¬ i = p.block := fun i hi => by unfold New at hi; omega
  refine k_seq ?_
  refine k_region ?_
  refine kl_val (y_assign) rfl rfl rfl ?_
  refine kl_nil ?_
  refine x_seq ?_
  refine k_seq ?_
  refine k_region ?_
  refine kl_val (y_assign) rfl rfl rfl ?_
  refine kl_nil ?_
  refine x_seq ?_
  refine k_seq ?_
  refine k_seq ?_
  refine k_region ?_
  refine kl_val (y_move) rfl rfl rfl ?_
  refine kl_ow rfl (ow_call2 fn100 rfl rfl rfl rfl (upTo_r (most := 60000) h) (kret_retP (fun u w1 ⟨n, rest, v1, hn, hR, hF, hu, hnm⟩ => ?_) (fun c w' ⟨e, he, hc, hf⟩ => ⟨rfl, .inr ⟨c, rfl, e, pBind_err he, hc, hf⟩⟩)))
  subst hu
  clear h
  have hX : OwnX EnvR 72 38 w1 (New w) (.slice none 0 0) [] := OwnX.nil
  refine kl_val (y_move) rfl rfl rfl ?_
  refine kl_nil ?_
  refine x_seq ?_
  refine k_block ?_
  refine k_loop (fun m ρ w' => ∃ (i : Nat) (bs' : List UInt8) (v' out : Value) (xs : List Env'), ρ 0 = .pointer (some p) ∧ ρ 1 = .func (.func 90) #[] #[] ∧ ρ 5 = out ∧ ρ 7 = .int .i64 (n : Int) ∧ ρ 8 = .int .i64 (i : Int) ∧ i ≤ n ∧ m = n - i ∧ xs.length = i ∧ Rd w' B p v' bs' ∧ Fr (· = p.block) w w' ∧ OwnX EnvR 72 38 w' (New w) out xs ∧ pAll pEnv bs = (pAllN pEnv (n - i) bs').map (fun q => (xs ++ q.1, q.2))) n ⟨0, rest, v1, _, [], rfl, rfl, rfl, rfl, rfl, Nat.zero_le _, rfl, rfl, hR, hF, hX, by unfold pAll; rw [pBind_ok hn]; show _ = (pAllN pEnv n rest).map (fun q => ([] ++ q.1, q.2)); cases pAllN pEnv n rest <;> rfl⟩ ?_
  clear hR hF hX hn
  rintro m ρ w1 ⟨i, bs', v', out, xs, h0, h1, h5, h7, h8, hi, rfl, hxl, h, hF, hX, hq⟩
  obtain ⟨σ, rfl⟩ : ∃ σ, ρ = upd (upd (upd (upd (upd σ 0 (.pointer (some p))) 1 (.func (.func 90) #[] #[])) 5 out) 7 (.int .i64 (n : Int))) 8 (.int .i64 (i : Int)) := ⟨ρ, by rw [upd_self ρ h0, upd_self ρ h1, upd_self ρ h5, upd_self ρ h7, upd_self ρ h8]⟩
  clear h0 h1 h5 h7 h8
  refine k_seq ?_
  refine k_region ?_
  refine kl_val (y_lss rfl rfl) rfl rfl rfl ?_
  refine kl_nil ?_
  refine x_seq ?_
  refine k_seq ?_
  refine k_condp rfl (fun hlt => ?_) (fun hlt => ?_)
  · skip
    obtain ⟨k, hk⟩ : ∃ k, n - i = k + 1 := ⟨n - i - 1, by omega⟩
    rw [hk] at hq
    refine k_skip ?_
    refine x_seq ?_
    refine k_seq ?_
    refine k_block ?_
    refine k_region ?_
    refine kl_val (y_move) rfl rfl rfl ?_
    refine kl_val (y_move) rfl rfl rfl ?_
    refine kl_val (y_move) rfl rfl rfl ?_
    refine kl_ow rfl (ow_call1 fn90 rfl rfl rfl (envelope_r h) (kret_retP (fun u w2 ⟨x, rest', v2, hx, hR, hf, hu⟩ => ?_) (fun c w' ⟨e, he, hc, hf⟩ => ⟨rfl, .inr ⟨c, rfl, e, by rw [hq]; exact pAllN_err xs he, hc, hF.trans hf⟩⟩)))
    obtain ⟨cs, rfl, hE⟩ := hu
    have hcl : cs.length = 72 := hE.length
    have hlX := hX.lt
    replace hE := hE.mono (B' := Bes (New w) w2 out) (fun i hi => ⟨Nat.le_trans hF.size hi.1, hi.2, fun ho => by have := hlX i ho; have := hi.1; omega⟩)
    replace hX := hX.keep hf hNp (fun _ _ h => (h.keep hf (fun i hi => hNp i hi.1)).mono (bes_le hf))
    replace hF := hF.trans hf
    replace h := hR
    refine kl_ow rfl (ow_slice1 Try.underlying59 I38 Z38 S38 rfl (v := .agg cs.toArray) rfl hcl (by decide) (by decide) rfl (fun w3 b hb hf3 he3 hz3 => ?_))
    replace hX := hX.keep hf3 (fun _ _ h => h) (fun _ _ h => (h.keep hf3 (fun _ _ h => h)).mono (bes_le hf3))
    replace hF := hF.trans hf3.fr
    replace h := h.ext hf3
    replace hE := (hE.keep hf3 (fun _ _ h => h)).mono (bes_le hf3)
    refine kl_ow rfl (ow_appendX Try.underlying59 I38 Z38 S38 rfl (by decide) (by rw [B38]; decide) rfl hX rfl hb hcl hE.one hE (fun i hi => Nat.le_trans hF.size hi) (by omega) rfl (fun v' w' hf' hle' _ _ h' => (h'.keep hf' (fun i hi => hi.2.2)).mono hle') (fun out' w4 hX' hf4 => ?_))
    have hno : ¬ ownB out p.block := fun hb' => hNp _ (hX.new _ hb') rfl
    replace hF := hF.trans' hf4 (fun i hi hb' => absurd (hX.new _ hb') (by unfold New; omega))
    replace h := h.keep hf4 hno (fun j hj hb' => absurd (hX.new _ hb') (by have := h.old j hj; unfold New; omega))
    replace hX := hX'
    refine kl_val (y_assign) rfl rfl rfl ?_
    refine kl_nil ?_
    refine x_blk ?_
    refine x_seq ?_
    refine k_region ?_
    refine kl_val (y_add64 rfl rfl (by omega)) rfl rfl rfl ?_
    refine kl_val (y_move) rfl rfl rfl ?_
    refine kl_nil ?_
    exact x_lpN (n - (i + 1)) (by omega) ⟨i + 1, rest', v2, out', xs ++ [x], rfl, rfl, rfl, rfl, rfl, by omega, rfl, by simp [hxl], h, hF, hX, by rw [hq, show n - (i + 1) = k by omega]; exact pAllN_ok xs hx⟩
  · skip
    obtain rfl : i = n := by omega
    rw [Nat.sub_self, pAllN_zero] at hq
    refine k_exit ?_
    refine x_seqX ?_
    refine x_lpX ?_
    refine x_blkX ?_
    refine x_seq ?_
    refine k_seq ?_
    refine k_region ?_
    refine kl_val (y_move) rfl rfl rfl ?_
    refine kl_val (y_assign) rfl rfl rfl ?_
    refine kl_nil ?_
    refine x_seq ?_
    refine k_ret ?_
    exact k_ret1 rfl rfl (.inl ⟨_, rfl, xs, bs', v', hq, h, hF, hX.sl (fun _ _ h => h.mono bes_nw)⟩)

set_option maxRecDepth 100000 in
set_option maxHeartbeats 1000000 in
theorem item_r {p : Addr} {v : Value} {bs : List UInt8} {B : Nat → Prop} {w : World} (h : Rd w B p v bs) :
    ReadC Try.prog 112 #[.pointer (some p)] w B p (pItem bs) (fun w' u x => ∃ cs, u = .agg cs.toArray ∧ ItemR w' (Nw w w') cs x) := by
  refine k_enter1 Try.func112 rfl Try.ntmps112 rfl ?_
  refine k_seq ?_
  refine k_region ?_
  refine kl_ow rfl (ow_alloc I55 Z55 rfl (fun w0 b hb0 hf0 he0 hz0 => ?_))
  have hlt := h.lt
  replace h := h.ext hf0
  have hF : Fr (· = p.block) w w0 := hf0.fr
  have hb : Bx w0 b _ ([Value.int .i64 0] ++ (([Value.int .i64 0, Value.int .i64 0, Value.bool false] ++ List.replicate 32 (Value.int .u8 0) ++ [Value.int .i64 0, Value.int .i64 0] ++ List.replicate 32 (Value.int .u8 0) ++ [Value.int .i64 0, Value.int .i64 0, Value.slice none 0 0]))) := bx_eq hb0 rfl
  clear hb0
  have hNp : ∀ i, w0.heap.size ≤ i → ¬ i = p.block := fun i hi => by omega
  have hNb : ∀ i, w0.heap.size ≤ i → ¬ i = b := fun i hi => by omega
  have hbw : w.heap.size ≤ b := by omega
  have hbp : ¬ b = p.block := by omega
  have hs0 := Nat.le_refl w0.heap.size
  refine kl_nil ?_
  refine x_seq ?_
  refine k_seq ?_
  refine k_region ?_
  refine kl_val (y_move) rfl rfl rfl ?_
  refine kl_ow rfl (ow_call1 fn102 rfl rfl rfl (number_r h) (kret_retP (fun u0 w1 ⟨x0, rest0, v0, hq0, hR0, hf, hu0⟩ => ?_) (fun c w' ⟨e, he, hc, hf⟩ => ⟨rfl, .inr ⟨c, rfl, e, by simp only [pItem, pBind_err he], hc, hF.trans hf⟩⟩)))
  obtain ⟨rfl, hx0⟩ := hu0
  have hs1 := hf.size
  replace hs0 := Nat.le_trans hs0 hs1
  replace hF := hF.trans hf
  replace hb := hb.keep hf hbp
  replace h := hR0
  refine kl_val (y_fieldAddr Try.underlying55 rfl I3 S3 rfl rfl) rfl rfl rfl ?_
  have hLen : ([Value.int .i64 0] ++ (([Value.int .i64 0, Value.int .i64 0, Value.bool false] ++ List.replicate 32 (Value.int .u8 0) ++ [Value.int .i64 0, Value.int .i64 0] ++ List.replicate 32 (Value.int .u8 0) ++ [Value.int .i64 0, Value.int .i64 0, Value.slice none 0 0]))).length = 73 := by simp
  refine kl_ow rfl (ow_store (b := b) (o := 0) I3 S3 rfl (v := .int .i64 (x0 : Int)) (xs := [i64 (x0 : Int)]) rfl hb rfl rfl (by have hl0 : ([i64 (x0 : Int)] : List Value).length = 1 := rfl; rw [hl0]; exact Nat.le_trans (by decide) (Nat.le_of_eq hLen.symm)) (One'.single rfl) (fun w2 hb2 hf2 hz2 => ?_))
  replace hb := bx_eq hb2 (sp_here rfl)
  clear hb2 hLen
  replace hF := hF.trans' hf2 (fun i hi e => absurd e (by omega))
  replace h := h.keep hf2 (fun e => hbp e.symm) (fun i hi => by have := h.old i hi; omega)
  have hs1 := hf2.size
  replace hs0 := Nat.le_trans hs0 hs1
  refine kl_nil ?_
  refine x_seq ?_
  refine k_seq ?_
  refine k_region ?_
  refine kl_val (y_move) rfl rfl rfl ?_
  refine kl_ow rfl (ow_call1 fn90 rfl rfl rfl (envelope_r h) (kret_retP (fun u1 w1 ⟨x1, rest1, v1, hq1, hR1, hf, hu1⟩ => ?_) (fun c w' ⟨e, he, hc, hf⟩ => ⟨rfl, .inr ⟨c, rfl, e, by simp only [pItem, pBind_ok hq0, pBind_err he], hc, hF.trans hf⟩⟩)))
  obtain ⟨cs1, rfl, hS1⟩ := hu1
  have hs1 := hf.size
  have hl1 := hS1.length
  replace hS1 := hS1.mono (nw_up hs0)
  replace hs0 := Nat.le_trans hs0 hs1
  replace hF := hF.trans hf
  replace hb := hb.keep hf hbp
  replace h := hR1
  refine kl_val (y_fieldAddr Try.underlying55 rfl I38 S38 rfl rfl) rfl rfl rfl ?_
  have hLen : ([i64 (x0 : Int)] ++ (([Value.int .i64 0, Value.int .i64 0, Value.bool false] ++ List.replicate 32 (Value.int .u8 0) ++ [Value.int .i64 0, Value.int .i64 0] ++ List.replicate 32 (Value.int .u8 0) ++ [Value.int .i64 0, Value.int .i64 0, Value.slice none 0 0]))).length = 73 := by simp
  refine kl_ow rfl (ow_store (b := b) (o := 1) I38 S38 rfl (v := .agg cs1.toArray) (xs := cs1) rfl hb rfl hl1 (by have hl0 : (cs1 : List Value).length = 72 := hl1; rw [hl0]; exact Nat.le_trans (by decide) (Nat.le_of_eq hLen.symm)) hS1.one (fun w2 hb2 hf2 hz2 => ?_))
  replace hb := bx_eq hb2 (sp_next (a := 1) (o := 0) rfl (sp_last (by rw [hl1]; rfl)))
  clear hb2 hLen
  replace hF := hF.trans' hf2 (fun i hi e => absurd e (by omega))
  replace h := h.keep hf2 (fun e => hbp e.symm) (fun i hi => by have := h.old i hi; omega)
  have hs1 := hf2.size
  replace hs0 := Nat.le_trans hs0 hs1
  replace hS1 := (hS1.keep hf2 (fun i hi => hNb i hi.1)).mono (nw_le hf2)
  refine kl_nil ?_
  refine x_seq ?_
  refine k_seq ?_
  refine k_region ?_
  refine kl_val (y_load rfl (ld_aggB Try.underlying55 rfl I55 S55 (by simp [hl1]) hb.cs)) rfl rfl rfl ?_
  refine kl_ow rfl (ow_store (b := b) (o := 0) (xs := [i64 (x0 : Int)] ++ (cs1)) I55 S55 rfl (v := .agg ([i64 (x0 : Int)] ++ (cs1)).toArray) rfl hb rfl (by simp [hl1]) (by omega) (((One'.single rfl)).append (hS1.one)) (fun w3 hb3 hf3 hz3 => ?_))
  replace hb := bx_eq hb3 (splice_all rfl)
  replace hF := hF.trans' hf3 (fun i hi e => absurd e (by omega))
  replace h := h.keep hf3 (fun e => hbp e.symm) (fun i hi => by have := h.old i hi; omega)
  replace hS1 := (hS1.keep hf3 (fun i hi => hNb i hi.1)).mono (nw_le hf3)
  refine kl_nil ?_
  refine x_seq ?_
  refine k_ret ?_
  exact k_retC rfl rfl (ld_aggB Try.underlying55 rfl I55 S55 (by simp [hl1]) hb.cs) (.inl ⟨_, rfl, ⟨(x0 : Int), x1⟩, rest1, v1, by simp only [pItem, pBind_ok hq0, pBind_ok hq1, pPure], h, hF, _, rfl, ⟨_, (hS1.mono (nw_up hf0.size)), rfl⟩⟩)

set_option maxRecDepth 100000 in
set_option maxHeartbeats 1000000 in
theorem all_Item_r {p : Addr} {v : Value} {bs : List UInt8} {B : Nat → Prop} {w : World} (h : Rd w B p v bs) :
    ReadC Try.prog 111 #[.pointer (some p), .func (.func 112) #[] #[]] w B p (pAll pItem bs) (fun w' u x => SlX ItemR 73 w' (Nw w w') u x) := by
  refine k_enter2 Try.func111 rfl Try.ntmps111 rfl ?_
  have hlt := h.lt
  have hNp : ∀ i, New w i → ¬ i = p.block := fun i hi => by unfold New at hi; omega
  refine k_seq ?_
  refine k_region ?_
  refine kl_val (y_assign) rfl rfl rfl ?_
  refine kl_nil ?_
  refine x_seq ?_
  refine k_seq ?_
  refine k_region ?_
  refine kl_val (y_assign) rfl rfl rfl ?_
  refine kl_nil ?_
  refine x_seq ?_
  refine k_seq ?_
  refine k_seq ?_
  refine k_region ?_
  refine kl_val (y_move) rfl rfl rfl ?_
  refine kl_ow rfl (ow_call2 fn100 rfl rfl rfl rfl (upTo_r (most := 60000) h) (kret_retP (fun u w1 ⟨n, rest, v1, hn, hR, hF, hu, hnm⟩ => ?_) (fun c w' ⟨e, he, hc, hf⟩ => ⟨rfl, .inr ⟨c, rfl, e, pBind_err he, hc, hf⟩⟩)))
  subst hu
  clear h
  have hX : OwnX ItemR 73 55 w1 (New w) (.slice none 0 0) [] := OwnX.nil
  refine kl_val (y_move) rfl rfl rfl ?_
  refine kl_nil ?_
  refine x_seq ?_
  refine k_block ?_
  refine k_loop (fun m ρ w' => ∃ (i : Nat) (bs' : List UInt8) (v' out : Value) (xs : List Item'), ρ 0 = .pointer (some p) ∧ ρ 1 = .func (.func 112) #[] #[] ∧ ρ 5 = out ∧ ρ 7 = .int .i64 (n : Int) ∧ ρ 8 = .int .i64 (i : Int) ∧ i ≤ n ∧ m = n - i ∧ xs.length = i ∧ Rd w' B p v' bs' ∧ Fr (· = p.block) w w' ∧ OwnX ItemR 73 55 w' (New w) out xs ∧ pAll pItem bs = (pAllN pItem (n - i) bs').map (fun q => (xs ++ q.1, q.2))) n ⟨0, rest, v1, _, [], rfl, rfl, rfl, rfl, rfl, Nat.zero_le _, rfl, rfl, hR, hF, hX, by unfold pAll; rw [pBind_ok hn]; show _ = (pAllN pItem n rest).map (fun q => ([] ++ q.1, q.2)); cases pAllN pItem n rest <;> rfl⟩ ?_
  clear hR hF hX hn
  rintro m ρ w1 ⟨i, bs', v', out, xs, h0, h1, h5, h7, h8, hi, rfl, hxl, h, hF, hX, hq⟩
  obtain ⟨σ, rfl⟩ : ∃ σ, ρ = upd (upd (upd (upd (upd σ 0 (.pointer (some p))) 1 (.func (.func 112) #[] #[])) 5 out) 7 (.int .i64 (n : Int))) 8 (.int .i64 (i : Int)) := ⟨ρ, by rw [upd_self ρ h0, upd_self ρ h1, upd_self ρ h5, upd_self ρ h7, upd_self ρ h8]⟩
  clear h0 h1 h5 h7 h8
  refine k_seq ?_
  refine k_region ?_
  refine kl_val (y_lss rfl rfl) rfl rfl rfl ?_
  refine kl_nil ?_
  refine x_seq ?_
  refine k_seq ?_
  refine k_condp rfl (fun hlt => ?_) (fun hlt => ?_)
  · skip
    obtain ⟨k, hk⟩ : ∃ k, n - i = k + 1 := ⟨n - i - 1, by omega⟩
    rw [hk] at hq
    refine k_skip ?_
    refine x_seq ?_
    refine k_seq ?_
    refine k_block ?_
    refine k_region ?_
    refine kl_val (y_move) rfl rfl rfl ?_
    refine kl_val (y_move) rfl rfl rfl ?_
    refine kl_val (y_move) rfl rfl rfl ?_
    refine kl_ow rfl (ow_call1 fn112 rfl rfl rfl (item_r h) (kret_retP (fun u w2 ⟨x, rest', v2, hx, hR, hf, hu⟩ => ?_) (fun c w' ⟨e, he, hc, hf⟩ => ⟨rfl, .inr ⟨c, rfl, e, by rw [hq]; exact pAllN_err xs he, hc, hF.trans hf⟩⟩)))
    obtain ⟨cs, rfl, hE⟩ := hu
    have hcl : cs.length = 73 := hE.length
    have hlX := hX.lt
    replace hE := hE.mono (B' := Bes (New w) w2 out) (fun i hi => ⟨Nat.le_trans hF.size hi.1, hi.2, fun ho => by have := hlX i ho; have := hi.1; omega⟩)
    replace hX := hX.keep hf hNp (fun _ _ h => (h.keep hf (fun i hi => hNp i hi.1)).mono (bes_le hf))
    replace hF := hF.trans hf
    replace h := hR
    refine kl_ow rfl (ow_slice1 Try.underlying51 I55 Z55 S55 rfl (v := .agg cs.toArray) rfl hcl (by decide) (by decide) rfl (fun w3 b hb hf3 he3 hz3 => ?_))
    replace hX := hX.keep hf3 (fun _ _ h => h) (fun _ _ h => (h.keep hf3 (fun _ _ h => h)).mono (bes_le hf3))
    replace hF := hF.trans hf3.fr
    replace h := h.ext hf3
    replace hE := (hE.keep hf3 (fun _ _ h => h)).mono (bes_le hf3)
    refine kl_ow rfl (ow_appendX Try.underlying51 I55 Z55 S55 rfl (by decide) (by rw [B55]; decide) rfl hX rfl hb hcl hE.one hE (fun i hi => Nat.le_trans hF.size hi) (by omega) rfl (fun v' w' hf' hle' _ _ h' => (h'.keep hf' (fun i hi => hi.2.2)).mono hle') (fun out' w4 hX' hf4 => ?_))
    have hno : ¬ ownB out p.block := fun hb' => hNp _ (hX.new _ hb') rfl
    replace hF := hF.trans' hf4 (fun i hi hb' => absurd (hX.new _ hb') (by unfold New; omega))
    replace h := h.keep hf4 hno (fun j hj hb' => absurd (hX.new _ hb') (by have := h.old j hj; unfold New; omega))
    replace hX := hX'
    refine kl_val (y_assign) rfl rfl rfl ?_
    refine kl_nil ?_
    refine x_blk ?_
    refine x_seq ?_
    refine k_region ?_
    refine kl_val (y_add64 rfl rfl (by omega)) rfl rfl rfl ?_
    refine kl_val (y_move) rfl rfl rfl ?_
    refine kl_nil ?_
    exact x_lpN (n - (i + 1)) (by omega) ⟨i + 1, rest', v2, out', xs ++ [x], rfl, rfl, rfl, rfl, rfl, by omega, rfl, by simp [hxl], h, hF, hX, by rw [hq, show n - (i + 1) = k by omega]; exact pAllN_ok xs hx⟩
  · skip
    obtain rfl : i = n := by omega
    rw [Nat.sub_self, pAllN_zero] at hq
    refine k_exit ?_
    refine x_seqX ?_
    refine x_lpX ?_
    refine x_blkX ?_
    refine x_seq ?_
    refine k_seq ?_
    refine k_region ?_
    refine kl_val (y_move) rfl rfl rfl ?_
    refine kl_val (y_assign) rfl rfl rfl ?_
    refine kl_nil ?_
    refine x_seq ?_
    refine k_ret ?_
    exact k_ret1 rfl rfl (.inl ⟨_, rfl, xs, bs', v', hq, h, hF, hX.sl (fun _ _ h => h.mono bes_nw)⟩)

set_option maxRecDepth 100000 in
set_option maxHeartbeats 1000000 in
theorem slot_r {p : Addr} {v : Value} {bs : List UInt8} {B : Nat → Prop} {w : World} (h : Rd w B p v bs) :
    ReadC Try.prog 118 #[.pointer (some p)] w B p (pSlot bs) (fun w' u x => ∃ cs, u = .agg cs.toArray ∧ SlotR w' (Nw w w') cs x) := by
  refine k_enter1 Try.func118 rfl Try.ntmps118 rfl ?_
  refine k_seq ?_
  refine k_region ?_
  refine kl_ow rfl (ow_alloc I145 Z145 rfl (fun w0 b hb0 hf0 he0 hz0 => ?_))
  have hlt := h.lt
  replace h := h.ext hf0
  have hF : Fr (· = p.block) w w0 := hf0.fr
  have hb : Bx w0 b _ ([Value.int .i64 0] ++ (([Value.int .i64 0] ++ List.replicate 32 (Value.int .u8 0)) ++ ((List.replicate 64 (Value.int .u8 0)) ++ ([Value.slice none 0 0] ++ ([Value.int .i64 0] ++ ([Value.slice none 0 0])))))) := bx_eq hb0 rfl
  clear hb0
  have hNp : ∀ i, w0.heap.size ≤ i → ¬ i = p.block := fun i hi => by omega
  have hNb : ∀ i, w0.heap.size ≤ i → ¬ i = b := fun i hi => by omega
  have hbw : w.heap.size ≤ b := by omega
  have hbp : ¬ b = p.block := by omega
  have hs0 := Nat.le_refl w0.heap.size
  refine kl_nil ?_
  refine x_seq ?_
  refine k_seq ?_
  refine k_region ?_
  refine kl_val (y_move) rfl rfl rfl ?_
  refine kl_ow rfl (ow_call1 fn102 rfl rfl rfl (number_r h) (kret_retP (fun u0 w1 ⟨x0, rest0, v0, hq0, hR0, hf, hu0⟩ => ?_) (fun c w' ⟨e, he, hc, hf⟩ => ⟨rfl, .inr ⟨c, rfl, e, by simp only [pSlot, pBind_err he], hc, hF.trans hf⟩⟩)))
  obtain ⟨rfl, hx0⟩ := hu0
  have hs1 := hf.size
  replace hs0 := Nat.le_trans hs0 hs1
  replace hF := hF.trans hf
  replace hb := hb.keep hf hbp
  replace h := hR0
  refine kl_val (y_fieldAddr Try.underlying145 rfl I3 S3 rfl rfl) rfl rfl rfl ?_
  have hLen : ([Value.int .i64 0] ++ (([Value.int .i64 0] ++ List.replicate 32 (Value.int .u8 0)) ++ ((List.replicate 64 (Value.int .u8 0)) ++ ([Value.slice none 0 0] ++ ([Value.int .i64 0] ++ ([Value.slice none 0 0])))))).length = 101 := by simp
  refine kl_ow rfl (ow_store (b := b) (o := 0) I3 S3 rfl (v := .int .i64 (x0 : Int)) (xs := [i64 (x0 : Int)]) rfl hb rfl rfl (by have hl0 : ([i64 (x0 : Int)] : List Value).length = 1 := rfl; rw [hl0]; exact Nat.le_trans (by decide) (Nat.le_of_eq hLen.symm)) (One'.single rfl) (fun w2 hb2 hf2 hz2 => ?_))
  replace hb := bx_eq hb2 (sp_here rfl)
  clear hb2 hLen
  replace hF := hF.trans' hf2 (fun i hi e => absurd e (by omega))
  replace h := h.keep hf2 (fun e => hbp e.symm) (fun i hi => by have := h.old i hi; omega)
  have hs1 := hf2.size
  replace hs0 := Nat.le_trans hs0 hs1
  refine kl_nil ?_
  refine x_seq ?_
  refine k_seq ?_
  refine k_region ?_
  refine kl_val (y_move) rfl rfl rfl ?_
  refine kl_ow rfl (ow_call1 fn108 rfl rfl rfl (prekey_r h) (kret_retP (fun u1 w1 ⟨x1, rest1, v1, hq1, hR1, hf, hu1⟩ => ?_) (fun c w' ⟨e, he, hc, hf⟩ => ⟨rfl, .inr ⟨c, rfl, e, by simp only [pSlot, pBind_ok hq0, pBind_err he], hc, hF.trans hf⟩⟩)))
  obtain ⟨cs1, rfl, hS1⟩ := hu1
  have hs1 := hf.size
  have hl1 := hS1.length
  skip
  replace hs0 := Nat.le_trans hs0 hs1
  replace hF := hF.trans hf
  replace hb := hb.keep hf hbp
  replace h := hR1
  refine kl_val (y_fieldAddr Try.underlying145 rfl I49 S49 rfl rfl) rfl rfl rfl ?_
  have hLen : ([i64 (x0 : Int)] ++ (([Value.int .i64 0] ++ List.replicate 32 (Value.int .u8 0)) ++ ((List.replicate 64 (Value.int .u8 0)) ++ ([Value.slice none 0 0] ++ ([Value.int .i64 0] ++ ([Value.slice none 0 0])))))).length = 101 := by simp
  refine kl_ow rfl (ow_store (b := b) (o := 1) I49 S49 rfl (v := .agg cs1.toArray) (xs := cs1) rfl hb rfl hl1 (by have hl0 : (cs1 : List Value).length = 33 := hl1; rw [hl0]; exact Nat.le_trans (by decide) (Nat.le_of_eq hLen.symm)) hS1.one (fun w2 hb2 hf2 hz2 => ?_))
  replace hb := bx_eq hb2 (sp_next (a := 1) (o := 0) rfl (sp_here (by rw [hl1]; rfl)))
  clear hb2 hLen
  replace hF := hF.trans' hf2 (fun i hi e => absurd e (by omega))
  replace h := h.keep hf2 (fun e => hbp e.symm) (fun i hi => by have := h.old i hi; omega)
  have hs1 := hf2.size
  replace hs0 := Nat.le_trans hs0 hs1
  refine kl_nil ?_
  refine x_seq ?_
  refine k_seq ?_
  refine k_region ?_
  refine kl_val (y_move) rfl rfl rfl ?_
  refine kl_ow rfl (ow_call1 fn109 rfl rfl rfl (sig_r h) (kret_retP (fun u2 w1 ⟨x2, rest2, v2, hq2, hR2, hf, hu2⟩ => ?_) (fun c w' ⟨e, he, hc, hf⟩ => ⟨rfl, .inr ⟨c, rfl, e, by simp only [pSlot, pBind_ok hq0, pBind_ok hq1, pBind_err he], hc, hF.trans hf⟩⟩)))
  obtain ⟨rfl, hk2⟩ := hu2
  have hs1 := hf.size
  replace hs0 := Nat.le_trans hs0 hs1
  replace hF := hF.trans hf
  replace hb := hb.keep hf hbp
  replace h := hR2
  refine kl_val (y_fieldAddr Try.underlying145 rfl I45 S45 rfl rfl) rfl rfl rfl ?_
  have hLen : ([i64 (x0 : Int)] ++ (cs1 ++ ((List.replicate 64 (Value.int .u8 0)) ++ ([Value.slice none 0 0] ++ ([Value.int .i64 0] ++ ([Value.slice none 0 0])))))).length = 101 := by simp [hl1]
  refine kl_ow rfl (ow_store (b := b) (o := 34) I45 S45 rfl (v := .agg (bvs x2).toArray) (xs := bvs x2) rfl hb rfl (by rw [bvs_length]; exact hk2) (by have hl0 : (bvs x2 : List Value).length = 64 := (by rw [bvs_length]; exact hk2); rw [hl0]; exact Nat.le_trans (by decide) (Nat.le_of_eq hLen.symm)) (bvs_one _) (fun w2 hb2 hf2 hz2 => ?_))
  replace hb := bx_eq hb2 (sp_next (a := 1) (o := 33) rfl (sp_next (a := 33) (o := 0) hl1 (sp_here (by rw [bvs_length, hk2]; rfl))))
  clear hb2 hLen
  replace hF := hF.trans' hf2 (fun i hi e => absurd e (by omega))
  replace h := h.keep hf2 (fun e => hbp e.symm) (fun i hi => by have := h.old i hi; omega)
  have hs1 := hf2.size
  replace hs0 := Nat.le_trans hs0 hs1
  refine kl_nil ?_
  refine x_seq ?_
  refine k_seq ?_
  refine k_region ?_
  refine kl_val (y_move) rfl rfl rfl ?_
  refine kl_ow rfl (ow_call2 fn110 rfl rfl rfl rfl (all_Prekey_r h) (kret_retP (fun u3 w1 ⟨x3, rest3, v3, hq3, hR3, hf, hu3⟩ => ?_) (fun c w' ⟨e, he, hc, hf⟩ => ⟨rfl, .inr ⟨c, rfl, e, by simp only [pSlot, pBind_ok hq0, pBind_ok hq1, pBind_ok hq2, pBind_err he], hc, hF.trans hf⟩⟩)))
  have hs1 := hf.size
  replace hu3 := hu3.mono (nw_up hs0) (fun _ _ h => h.keep _ _)
  replace hs0 := Nat.le_trans hs0 hs1
  replace hF := hF.trans hf
  replace hb := hb.keep hf hbp
  replace h := hR3
  refine kl_val (y_fieldAddr Try.underlying145 rfl I50 S50 rfl rfl) rfl rfl rfl ?_
  have hLen : ([i64 (x0 : Int)] ++ (cs1 ++ (bvs x2 ++ ([Value.slice none 0 0] ++ ([Value.int .i64 0] ++ ([Value.slice none 0 0])))))).length = 101 := by simp [hl1, hk2]
  refine kl_ow rfl (ow_store (b := b) (o := 98) I50 S50 rfl (v := u3) (xs := [u3]) rfl hb hu3.one.2 rfl (by have hl0 : ([u3] : List Value).length = 1 := rfl; rw [hl0]; exact Nat.le_trans (by decide) (Nat.le_of_eq hLen.symm)) (One'.single hu3.one.1) (fun w2 hb2 hf2 hz2 => ?_))
  replace hb := bx_eq hb2 (sp_next (a := 1) (o := 97) rfl (sp_next (a := 33) (o := 64) hl1 (sp_next (a := 64) (o := 0) (by rw [bvs_length]; exact hk2) (sp_here rfl))))
  clear hb2 hLen
  replace hF := hF.trans' hf2 (fun i hi e => absurd e (by omega))
  replace h := h.keep hf2 (fun e => hbp e.symm) (fun i hi => by have := h.old i hi; omega)
  have hs1 := hf2.size
  replace hs0 := Nat.le_trans hs0 hs1
  replace hu3 := (hu3.keep hf2 (fun i hi => hNb i hi.1) (fun _ _ h => h.keep _ _)).mono (nw_le hf2) (fun _ _ h => h.keep _ _)
  refine kl_nil ?_
  refine x_seq ?_
  refine k_seq ?_
  refine k_region ?_
  refine kl_val (y_move) rfl rfl rfl ?_
  refine kl_ow rfl (ow_call1 fn102 rfl rfl rfl (number_r h) (kret_retP (fun u4 w1 ⟨x4, rest4, v4, hq4, hR4, hf, hu4⟩ => ?_) (fun c w' ⟨e, he, hc, hf⟩ => ⟨rfl, .inr ⟨c, rfl, e, by simp only [pSlot, pBind_ok hq0, pBind_ok hq1, pBind_ok hq2, pBind_ok hq3, pBind_err he], hc, hF.trans hf⟩⟩)))
  obtain ⟨rfl, hx4⟩ := hu4
  have hs1 := hf.size
  replace hs0 := Nat.le_trans hs0 hs1
  replace hF := hF.trans hf
  replace hb := hb.keep hf hbp
  replace hu3 := (hu3.keep hf (fun i hi => hNp i hi.1) (fun _ _ h => h.keep _ _)).mono (nw_le hf) (fun _ _ h => h.keep _ _)
  replace h := hR4
  refine kl_val (y_fieldAddr Try.underlying145 rfl I3 S3 rfl rfl) rfl rfl rfl ?_
  have hLen : ([i64 (x0 : Int)] ++ (cs1 ++ (bvs x2 ++ ([u3] ++ ([Value.int .i64 0] ++ ([Value.slice none 0 0])))))).length = 101 := by simp [hl1, hk2]
  refine kl_ow rfl (ow_store (b := b) (o := 99) I3 S3 rfl (v := .int .i64 (x4 : Int)) (xs := [i64 (x4 : Int)]) rfl hb rfl rfl (by have hl0 : ([i64 (x4 : Int)] : List Value).length = 1 := rfl; rw [hl0]; exact Nat.le_trans (by decide) (Nat.le_of_eq hLen.symm)) (One'.single rfl) (fun w2 hb2 hf2 hz2 => ?_))
  replace hb := bx_eq hb2 (sp_next (a := 1) (o := 98) rfl (sp_next (a := 33) (o := 65) hl1 (sp_next (a := 64) (o := 1) (by rw [bvs_length]; exact hk2) (sp_next (a := 1) (o := 0) rfl (sp_here rfl)))))
  clear hb2 hLen
  replace hF := hF.trans' hf2 (fun i hi e => absurd e (by omega))
  replace h := h.keep hf2 (fun e => hbp e.symm) (fun i hi => by have := h.old i hi; omega)
  have hs1 := hf2.size
  replace hs0 := Nat.le_trans hs0 hs1
  replace hu3 := (hu3.keep hf2 (fun i hi => hNb i hi.1) (fun _ _ h => h.keep _ _)).mono (nw_le hf2) (fun _ _ h => h.keep _ _)
  refine kl_nil ?_
  refine x_seq ?_
  refine k_seq ?_
  refine k_region ?_
  refine kl_val (y_move) rfl rfl rfl ?_
  refine kl_ow rfl (ow_call2 fn124 rfl rfl rfl rfl (all_Envelope_r h) (kret_retP (fun u5 w1 ⟨x5, rest5, v5, hq5, hR5, hf, hu5⟩ => ?_) (fun c w' ⟨e, he, hc, hf⟩ => ⟨rfl, .inr ⟨c, rfl, e, by simp only [pSlot, pBind_ok hq0, pBind_ok hq1, pBind_ok hq2, pBind_ok hq3, pBind_ok hq4, pBind_err he], hc, hF.trans hf⟩⟩)))
  have hs1 := hf.size
  replace hu5 := hu5.mono (nw_up hs0) (fun _ _ h => h.mono (nw_up hs0))
  replace hs0 := Nat.le_trans hs0 hs1
  replace hF := hF.trans hf
  replace hb := hb.keep hf hbp
  replace hu3 := (hu3.keep hf (fun i hi => hNp i hi.1) (fun _ _ h => h.keep _ _)).mono (nw_le hf) (fun _ _ h => h.keep _ _)
  replace h := hR5
  refine kl_val (y_fieldAddr Try.underlying145 rfl I59 S59 rfl rfl) rfl rfl rfl ?_
  have hLen : ([i64 (x0 : Int)] ++ (cs1 ++ (bvs x2 ++ ([u3] ++ ([i64 (x4 : Int)] ++ ([Value.slice none 0 0])))))).length = 101 := by simp [hl1, hk2]
  refine kl_ow rfl (ow_store (b := b) (o := 100) I59 S59 rfl (v := u5) (xs := [u5]) rfl hb hu5.one.2 rfl (by have hl0 : ([u5] : List Value).length = 1 := rfl; rw [hl0]; exact Nat.le_trans (by decide) (Nat.le_of_eq hLen.symm)) (One'.single hu5.one.1) (fun w2 hb2 hf2 hz2 => ?_))
  replace hb := bx_eq hb2 (sp_next (a := 1) (o := 99) rfl (sp_next (a := 33) (o := 66) hl1 (sp_next (a := 64) (o := 2) (by rw [bvs_length]; exact hk2) (sp_next (a := 1) (o := 1) rfl (sp_next (a := 1) (o := 0) rfl (sp_last rfl))))))
  clear hb2 hLen
  replace hF := hF.trans' hf2 (fun i hi e => absurd e (by omega))
  replace h := h.keep hf2 (fun e => hbp e.symm) (fun i hi => by have := h.old i hi; omega)
  have hs1 := hf2.size
  replace hs0 := Nat.le_trans hs0 hs1
  replace hu3 := (hu3.keep hf2 (fun i hi => hNb i hi.1) (fun _ _ h => h.keep _ _)).mono (nw_le hf2) (fun _ _ h => h.keep _ _)
  replace hu5 := (hu5.keep hf2 (fun i hi => hNb i hi.1) (fun _ _ h => h.keep hf2 (fun i hi => hNb i hi.1))).mono (nw_le hf2) (fun _ _ h => h.mono (nw_le hf2))
  refine kl_nil ?_
  refine x_seq ?_
  refine k_seq ?_
  refine k_region ?_
  refine kl_val (y_load rfl (ld_aggB Try.underlying145 rfl I145 S145 (by simp [hl1, hk2]) hb.cs)) rfl rfl rfl ?_
  refine kl_ow rfl (ow_store (b := b) (o := 0) (xs := [i64 (x0 : Int)] ++ (cs1 ++ (bvs x2 ++ ([u3] ++ ([i64 (x4 : Int)] ++ ([u5])))))) I145 S145 rfl (v := .agg ([i64 (x0 : Int)] ++ (cs1 ++ (bvs x2 ++ ([u3] ++ ([i64 (x4 : Int)] ++ ([u5])))))).toArray) rfl hb rfl (by simp [hl1, hk2]) (by omega) (((One'.single rfl)).append ((hS1.one).append ((One'.bvs _ : One' _).append ((One'.single hu3.one.1).append (((One'.single rfl)).append (One'.single hu5.one.1)))))) (fun w3 hb3 hf3 hz3 => ?_))
  replace hb := bx_eq hb3 (splice_all rfl)
  replace hF := hF.trans' hf3 (fun i hi e => absurd e (by omega))
  replace h := h.keep hf3 (fun e => hbp e.symm) (fun i hi => by have := h.old i hi; omega)
  replace hu3 := (hu3.keep hf3 (fun i hi => hNb i hi.1) (fun _ _ h => h.keep _ _)).mono (nw_le hf3) (fun _ _ h => h.keep _ _)
  replace hu5 := (hu5.keep hf3 (fun i hi => hNb i hi.1) (fun _ _ h => h.keep hf3 (fun i hi => hNb i hi.1))).mono (nw_le hf3) (fun _ _ h => h.mono (nw_le hf3))
  refine kl_nil ?_
  refine x_seq ?_
  refine k_ret ?_
  exact k_retC rfl rfl (ld_aggB Try.underlying145 rfl I145 S145 (by simp [hl1, hk2]) hb.cs) (.inl ⟨_, rfl, ⟨(x0 : Int), x1, x2, x3, (x4 : Int), x5⟩, rest5, v5, by simp only [pSlot, pBind_ok hq0, pBind_ok hq1, pBind_ok hq2, pBind_ok hq3, pBind_ok hq4, pBind_ok hq5, pPure], h, hF, _, rfl, ⟨hk2, _, _, _, hS1.keep _ _, (hu3.mono (nw_up hf0.size) (fun _ _ h => h.keep _ _)), (hu5.mono (nw_up hf0.size) (fun _ _ h => h.mono (nw_up hf0.size))), rfl⟩⟩)

set_option maxRecDepth 100000 in
set_option maxHeartbeats 1000000 in
theorem all_Slot_r {p : Addr} {v : Value} {bs : List UInt8} {B : Nat → Prop} {w : World} (h : Rd w B p v bs) :
    ReadC Try.prog 117 #[.pointer (some p), .func (.func 118) #[] #[]] w B p (pAll pSlot bs) (fun w' u x => SlX SlotR 101 w' (Nw w w') u x) := by
  refine k_enter2 Try.func117 rfl Try.ntmps117 rfl ?_
  have hlt := h.lt
  have hNp : ∀ i, New w i → ¬ i = p.block := fun i hi => by unfold New at hi; omega
  refine k_seq ?_
  refine k_region ?_
  refine kl_val (y_assign) rfl rfl rfl ?_
  refine kl_nil ?_
  refine x_seq ?_
  refine k_seq ?_
  refine k_region ?_
  refine kl_val (y_assign) rfl rfl rfl ?_
  refine kl_nil ?_
  refine x_seq ?_
  refine k_seq ?_
  refine k_seq ?_
  refine k_region ?_
  refine kl_val (y_move) rfl rfl rfl ?_
  refine kl_ow rfl (ow_call2 fn100 rfl rfl rfl rfl (upTo_r (most := 60000) h) (kret_retP (fun u w1 ⟨n, rest, v1, hn, hR, hF, hu, hnm⟩ => ?_) (fun c w' ⟨e, he, hc, hf⟩ => ⟨rfl, .inr ⟨c, rfl, e, pBind_err he, hc, hf⟩⟩)))
  subst hu
  clear h
  have hX : OwnX SlotR 101 145 w1 (New w) (.slice none 0 0) [] := OwnX.nil
  refine kl_val (y_move) rfl rfl rfl ?_
  refine kl_nil ?_
  refine x_seq ?_
  refine k_block ?_
  refine k_loop (fun m ρ w' => ∃ (i : Nat) (bs' : List UInt8) (v' out : Value) (xs : List Slot'), ρ 0 = .pointer (some p) ∧ ρ 1 = .func (.func 118) #[] #[] ∧ ρ 5 = out ∧ ρ 7 = .int .i64 (n : Int) ∧ ρ 8 = .int .i64 (i : Int) ∧ i ≤ n ∧ m = n - i ∧ xs.length = i ∧ Rd w' B p v' bs' ∧ Fr (· = p.block) w w' ∧ OwnX SlotR 101 145 w' (New w) out xs ∧ pAll pSlot bs = (pAllN pSlot (n - i) bs').map (fun q => (xs ++ q.1, q.2))) n ⟨0, rest, v1, _, [], rfl, rfl, rfl, rfl, rfl, Nat.zero_le _, rfl, rfl, hR, hF, hX, by unfold pAll; rw [pBind_ok hn]; show _ = (pAllN pSlot n rest).map (fun q => ([] ++ q.1, q.2)); cases pAllN pSlot n rest <;> rfl⟩ ?_
  clear hR hF hX hn
  rintro m ρ w1 ⟨i, bs', v', out, xs, h0, h1, h5, h7, h8, hi, rfl, hxl, h, hF, hX, hq⟩
  obtain ⟨σ, rfl⟩ : ∃ σ, ρ = upd (upd (upd (upd (upd σ 0 (.pointer (some p))) 1 (.func (.func 118) #[] #[])) 5 out) 7 (.int .i64 (n : Int))) 8 (.int .i64 (i : Int)) := ⟨ρ, by rw [upd_self ρ h0, upd_self ρ h1, upd_self ρ h5, upd_self ρ h7, upd_self ρ h8]⟩
  clear h0 h1 h5 h7 h8
  refine k_seq ?_
  refine k_region ?_
  refine kl_val (y_lss rfl rfl) rfl rfl rfl ?_
  refine kl_nil ?_
  refine x_seq ?_
  refine k_seq ?_
  refine k_condp rfl (fun hlt => ?_) (fun hlt => ?_)
  · skip
    obtain ⟨k, hk⟩ : ∃ k, n - i = k + 1 := ⟨n - i - 1, by omega⟩
    rw [hk] at hq
    refine k_skip ?_
    refine x_seq ?_
    refine k_seq ?_
    refine k_block ?_
    refine k_region ?_
    refine kl_val (y_move) rfl rfl rfl ?_
    refine kl_val (y_move) rfl rfl rfl ?_
    refine kl_val (y_move) rfl rfl rfl ?_
    refine kl_ow rfl (ow_call1 fn118 rfl rfl rfl (slot_r h) (kret_retP (fun u w2 ⟨x, rest', v2, hx, hR, hf, hu⟩ => ?_) (fun c w' ⟨e, he, hc, hf⟩ => ⟨rfl, .inr ⟨c, rfl, e, by rw [hq]; exact pAllN_err xs he, hc, hF.trans hf⟩⟩)))
    obtain ⟨cs, rfl, hE⟩ := hu
    have hcl : cs.length = 101 := hE.length
    have hlX := hX.lt
    replace hE := hE.mono (B' := Bes (New w) w2 out) (fun i hi => ⟨Nat.le_trans hF.size hi.1, hi.2, fun ho => by have := hlX i ho; have := hi.1; omega⟩)
    replace hX := hX.keep hf hNp (fun _ _ h => (h.keep hf (fun i hi => hNp i hi.1)).mono (bes_le hf))
    replace hF := hF.trans hf
    replace h := hR
    refine kl_ow rfl (ow_slice1 Try.underlying69 I145 Z145 S145 rfl (v := .agg cs.toArray) rfl hcl (by decide) (by decide) rfl (fun w3 b hb hf3 he3 hz3 => ?_))
    replace hX := hX.keep hf3 (fun _ _ h => h) (fun _ _ h => (h.keep hf3 (fun _ _ h => h)).mono (bes_le hf3))
    replace hF := hF.trans hf3.fr
    replace h := h.ext hf3
    replace hE := (hE.keep hf3 (fun _ _ h => h)).mono (bes_le hf3)
    refine kl_ow rfl (ow_appendX Try.underlying69 I145 Z145 S145 rfl (by decide) (by rw [B145]; decide) rfl hX rfl hb hcl hE.one hE (fun i hi => Nat.le_trans hF.size hi) (by omega) rfl (fun v' w' hf' hle' _ _ h' => (h'.keep hf' (fun i hi => hi.2.2)).mono hle') (fun out' w4 hX' hf4 => ?_))
    have hno : ¬ ownB out p.block := fun hb' => hNp _ (hX.new _ hb') rfl
    replace hF := hF.trans' hf4 (fun i hi hb' => absurd (hX.new _ hb') (by unfold New; omega))
    replace h := h.keep hf4 hno (fun j hj hb' => absurd (hX.new _ hb') (by have := h.old j hj; unfold New; omega))
    replace hX := hX'
    refine kl_val (y_assign) rfl rfl rfl ?_
    refine kl_nil ?_
    refine x_blk ?_
    refine x_seq ?_
    refine k_region ?_
    refine kl_val (y_add64 rfl rfl (by omega)) rfl rfl rfl ?_
    refine kl_val (y_move) rfl rfl rfl ?_
    refine kl_nil ?_
    exact x_lpN (n - (i + 1)) (by omega) ⟨i + 1, rest', v2, out', xs ++ [x], rfl, rfl, rfl, rfl, rfl, by omega, rfl, by simp [hxl], h, hF, hX, by rw [hq, show n - (i + 1) = k by omega]; exact pAllN_ok xs hx⟩
  · skip
    obtain rfl : i = n := by omega
    rw [Nat.sub_self, pAllN_zero] at hq
    refine k_exit ?_
    refine x_seqX ?_
    refine x_lpX ?_
    refine x_blkX ?_
    refine x_seq ?_
    refine k_seq ?_
    refine k_region ?_
    refine kl_val (y_move) rfl rfl rfl ?_
    refine kl_val (y_assign) rfl rfl rfl ?_
    refine kl_nil ?_
    refine x_seq ?_
    refine k_ret ?_
    exact k_ret1 rfl rfl (.inl ⟨_, rfl, xs, bs', v', hq, h, hF, hX.sl (fun _ _ h => h.mono bes_nw)⟩)

end Go.Proofs.Ythpocekigliomaa.K
