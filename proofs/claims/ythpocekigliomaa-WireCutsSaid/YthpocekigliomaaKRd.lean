/- The reader of requests, answers, accounts, names. Condition: a reader stands at p. -/
import Derived.Test.YthpocekigliomaaKRc
namespace Go.Proofs.Ythpocekigliomaa.K
open Go

set_option maxRecDepth 100000 in
set_option maxHeartbeats 1000000 in
theorem user_r {p : Addr} {v : Value} {bs : List UInt8} {B : Nat → Prop} {w : World} (h : Rd w B p v bs) :
    ReadC Try.prog 52 #[.pointer (some p)] w B p (pUsr bs) (fun w' u x => ∃ cs, u = .agg cs.toArray ∧ UsrR w' (Nw w w') cs x) := by
  refine k_enter1 Try.func52 rfl Try.ntmps52 rfl ?_
  refine k_seq ?_
  refine k_region ?_
  refine kl_ow rfl (ow_alloc I25 Z25 rfl (fun w0 b hb0 hf0 he0 hz0 => ?_))
  have hlt := h.lt
  replace h := h.ext hf0
  have hF : Fr (· = p.block) w w0 := hf0.fr
  have hb : Bx w0 b _ ([Value.string ByteArray.empty] ++ ([Value.int .i64 0] ++ ([Value.bool false]))) := bx_eq hb0 rfl
  clear hb0
  have hNp : ∀ i, w0.heap.size ≤ i → ¬ i = p.block := fun i hi => by omega
  have hNb : ∀ i, w0.heap.size ≤ i → ¬ i = b := fun i hi => by omega
  have hbw : w.heap.size ≤ b := by omega
  have hbp : ¬ b = p.block := by omega
  have hs0 := Nat.le_refl w0.heap.size
  refine kl_nil ?_
  refine x_seq ?_
  refine k_seq ?_
  refine k_region ?_
  refine kl_val (y_move) rfl rfl rfl ?_
  refine kl_ow rfl (ow_call1 fn101 rfl rfl rfl (text_r h) (kret_retP (fun u0 w1 ⟨x0, rest0, v0, hq0, hR0, hf, hu0⟩ => ?_) (fun c w' ⟨e, he, hc, hf⟩ => ⟨rfl, .inr ⟨c, rfl, e, by simp only [pUsr, pBind_err he], hc, hF.trans hf⟩⟩)))
  subst hu0
  have hs1 := hf.size
  replace hs0 := Nat.le_trans hs0 hs1
  replace hF := hF.trans hf
  replace hb := hb.keep hf hbp
  replace h := hR0
  refine kl_val (y_fieldAddr Try.underlying25 rfl I9 S9 rfl rfl) rfl rfl rfl ?_
  have hLen : ([Value.string ByteArray.empty] ++ ([Value.int .i64 0] ++ ([Value.bool false]))).length = 3 := by simp
  refine kl_ow rfl (ow_store (b := b) (o := 0) I9 S9 rfl (v := .string ⟨x0.toArray⟩) (xs := [Value.string ⟨x0.toArray⟩]) rfl hb rfl rfl (by have hl0 : ([Value.string ⟨x0.toArray⟩] : List Value).length = 1 := rfl; rw [hl0]; exact Nat.le_trans (by decide) (Nat.le_of_eq hLen.symm)) (One'.single rfl) (fun w2 hb2 hf2 hz2 => ?_))
  replace hb := bx_eq hb2 (sp_here rfl)
  clear hb2 hLen
  replace hF := hF.trans' hf2 (fun i hi e => absurd e (by omega))
  replace h := h.keep hf2 (fun e => hbp e.symm) (fun i hi => by have := h.old i hi; omega)
  have hs1 := hf2.size
  replace hs0 := Nat.le_trans hs0 hs1
  refine kl_nil ?_
  refine x_seq ?_
  refine k_seq ?_
  refine k_region ?_
  refine kl_val (y_move) rfl rfl rfl ?_
  refine kl_ow rfl (ow_call1 fn102 rfl rfl rfl (number_r h) (kret_retP (fun u1 w1 ⟨x1, rest1, v1, hq1, hR1, hf, hu1⟩ => ?_) (fun c w' ⟨e, he, hc, hf⟩ => ⟨rfl, .inr ⟨c, rfl, e, by simp only [pUsr, pBind_ok hq0, pBind_err he], hc, hF.trans hf⟩⟩)))
  obtain ⟨rfl, hx1⟩ := hu1
  have hs1 := hf.size
  replace hs0 := Nat.le_trans hs0 hs1
  replace hF := hF.trans hf
  replace hb := hb.keep hf hbp
  replace h := hR1
  refine kl_val (y_fieldAddr Try.underlying25 rfl I3 S3 rfl rfl) rfl rfl rfl ?_
  have hLen : ([Value.string ⟨x0.toArray⟩] ++ ([Value.int .i64 0] ++ ([Value.bool false]))).length = 3 := by simp
  refine kl_ow rfl (ow_store (b := b) (o := 1) I3 S3 rfl (v := .int .i64 (x1 : Int)) (xs := [i64 (x1 : Int)]) rfl hb rfl rfl (by have hl0 : ([i64 (x1 : Int)] : List Value).length = 1 := rfl; rw [hl0]; exact Nat.le_trans (by decide) (Nat.le_of_eq hLen.symm)) (One'.single rfl) (fun w2 hb2 hf2 hz2 => ?_))
  replace hb := bx_eq hb2 (sp_next (a := 1) (o := 0) rfl (sp_here rfl))
  clear hb2 hLen
  replace hF := hF.trans' hf2 (fun i hi e => absurd e (by omega))
  replace h := h.keep hf2 (fun e => hbp e.symm) (fun i hi => by have := h.old i hi; omega)
  have hs1 := hf2.size
  replace hs0 := Nat.le_trans hs0 hs1
  refine kl_nil ?_
  refine x_seq ?_
  refine k_seq ?_
  refine k_region ?_
  refine kl_val (y_move) rfl rfl rfl ?_
  refine kl_ow rfl (ow_call1 fn103 rfl rfl rfl (truth_r h) (kret_retP (fun u2 w1 ⟨x2, rest2, v2, hq2, hR2, hf, hu2⟩ => ?_) (fun c w' ⟨e, he, hc, hf⟩ => ⟨rfl, .inr ⟨c, rfl, e, by simp only [pUsr, pBind_ok hq0, pBind_ok hq1, pBind_err he], hc, hF.trans hf⟩⟩)))
  subst hu2
  have hs1 := hf.size
  replace hs0 := Nat.le_trans hs0 hs1
  replace hF := hF.trans hf
  replace hb := hb.keep hf hbp
  replace h := hR2
  refine kl_val (y_fieldAddr Try.underlying25 rfl I4 S4 rfl rfl) rfl rfl rfl ?_
  have hLen : ([Value.string ⟨x0.toArray⟩] ++ ([i64 (x1 : Int)] ++ ([Value.bool false]))).length = 3 := by simp
  refine kl_ow rfl (ow_store (b := b) (o := 2) I4 S4 rfl (v := .bool x2) (xs := [Value.bool x2]) rfl hb rfl rfl (by have hl0 : ([Value.bool x2] : List Value).length = 1 := rfl; rw [hl0]; exact Nat.le_trans (by decide) (Nat.le_of_eq hLen.symm)) (One'.single rfl) (fun w2 hb2 hf2 hz2 => ?_))
  replace hb := bx_eq hb2 (sp_next (a := 1) (o := 1) rfl (sp_next (a := 1) (o := 0) rfl (sp_last rfl)))
  clear hb2 hLen
  replace hF := hF.trans' hf2 (fun i hi e => absurd e (by omega))
  replace h := h.keep hf2 (fun e => hbp e.symm) (fun i hi => by have := h.old i hi; omega)
  have hs1 := hf2.size
  replace hs0 := Nat.le_trans hs0 hs1
  refine kl_nil ?_
  refine x_seq ?_
  refine k_seq ?_
  refine k_region ?_
  refine kl_val (y_load rfl (ld_aggB Try.underlying25 rfl I25 S25 (by simp) hb.cs)) rfl rfl rfl ?_
  refine kl_ow rfl (ow_store (b := b) (o := 0) (xs := [Value.string ⟨x0.toArray⟩] ++ ([i64 (x1 : Int)] ++ ([Value.bool x2]))) I25 S25 rfl (v := .agg ([Value.string ⟨x0.toArray⟩] ++ ([i64 (x1 : Int)] ++ ([Value.bool x2]))).toArray) rfl hb rfl (by simp) (by omega) (((One'.single rfl)).append (((One'.single rfl)).append ((One'.single rfl)))) (fun w3 hb3 hf3 hz3 => ?_))
  replace hb := bx_eq hb3 (splice_all rfl)
  replace hF := hF.trans' hf3 (fun i hi e => absurd e (by omega))
  replace h := h.keep hf3 (fun e => hbp e.symm) (fun i hi => by have := h.old i hi; omega)
  refine kl_nil ?_
  refine x_seq ?_
  refine k_ret ?_
  exact k_retC rfl rfl (ld_aggB Try.underlying25 rfl I25 S25 (by simp) hb.cs) (.inl ⟨_, rfl, ⟨bytesOf x0, (x1 : Int), x2⟩, rest2, v2, by simp only [pUsr, pBind_ok hq0, pBind_ok hq1, pBind_ok hq2, pPure], h, hF, _, rfl, ⟨rfl⟩⟩)

set_option maxRecDepth 100000 in
set_option maxHeartbeats 1000000 in
theorem all_User_r {p : Addr} {v : Value} {bs : List UInt8} {B : Nat → Prop} {w : World} (h : Rd w B p v bs) :
    ReadC Try.prog 51 #[.pointer (some p), .func (.func 52) #[] #[]] w B p (pAll pUsr bs) (fun w' u x => SlX UsrR 3 w' (Nw w w') u x) := by
  refine k_enter2 Try.func51 rfl Try.ntmps51 rfl ?_
  have hlt := h.lt
  have hNp : ∀ i, New w i → ¬ i = p.block := fun i hi => by unfold New at hi; omega
  refine k_seq ?_
  refine k_region ?_
  refine kl_val (y_assign) rfl rfl rfl ?_
  refine kl_nil ?_
  refine x_seq ?_
  refine k_seq ?_
  refine k_region ?_
  refine kl_val (y_assign) rfl rfl rfl ?_
  refine kl_nil ?_
  refine x_seq ?_
  refine k_seq ?_
  refine k_seq ?_
  refine k_region ?_
  refine kl_val (y_move) rfl rfl rfl ?_
  refine kl_ow rfl (ow_call2 fn100 rfl rfl rfl rfl (upTo_r (most := 60000) h) (kret_retP (fun u w1 ⟨n, rest, v1, hn, hR, hF, hu, hnm⟩ => ?_) (fun c w' ⟨e, he, hc, hf⟩ => ⟨rfl, .inr ⟨c, rfl, e, pBind_err he, hc, hf⟩⟩)))
  subst hu
  clear h
  have hX : OwnX UsrR 3 25 w1 (New w) (.slice none 0 0) [] := OwnX.nil
  refine kl_val (y_move) rfl rfl rfl ?_
  refine kl_nil ?_
  refine x_seq ?_
  refine k_block ?_
  refine k_loop (fun m ρ w' => ∃ (i : Nat) (bs' : List UInt8) (v' out : Value) (xs : List Usr), ρ 0 = .pointer (some p) ∧ ρ 1 = .func (.func 52) #[] #[] ∧ ρ 5 = out ∧ ρ 7 = .int .i64 (n : Int) ∧ ρ 8 = .int .i64 (i : Int) ∧ i ≤ n ∧ m = n - i ∧ xs.length = i ∧ Rd w' B p v' bs' ∧ Fr (· = p.block) w w' ∧ OwnX UsrR 3 25 w' (New w) out xs ∧ pAll pUsr bs = (pAllN pUsr (n - i) bs').map (fun q => (xs ++ q.1, q.2))) n ⟨0, rest, v1, _, [], rfl, rfl, rfl, rfl, rfl, Nat.zero_le _, rfl, rfl, hR, hF, hX, by unfold pAll; rw [pBind_ok hn]; show _ = (pAllN pUsr n rest).map (fun q => ([] ++ q.1, q.2)); cases pAllN pUsr n rest <;> rfl⟩ ?_
  clear hR hF hX hn
  rintro m ρ w1 ⟨i, bs', v', out, xs, h0, h1, h5, h7, h8, hi, rfl, hxl, h, hF, hX, hq⟩
  obtain ⟨σ, rfl⟩ : ∃ σ, ρ = upd (upd (upd (upd (upd σ 0 (.pointer (some p))) 1 (.func (.func 52) #[] #[])) 5 out) 7 (.int .i64 (n : Int))) 8 (.int .i64 (i : Int)) := ⟨ρ, by rw [upd_self ρ h0, upd_self ρ h1, upd_self ρ h5, upd_self ρ h7, upd_self ρ h8]⟩
  clear h0 h1 h5 h7 h8
  refine k_seq ?_
  refine k_region ?_
  refine kl_val (y_lss rfl rfl) rfl rfl rfl ?_
  refine kl_nil ?_
  refine x_seq ?_
  refine k_seq ?_
  refine k_condp rfl (fun hlt => ?_) (fun hlt => ?_)
  · skip
    obtain ⟨k, hk⟩ : ∃ k, n - i = k + 1 := ⟨n - i - 1, by omega⟩
    rw [hk] at hq
    refine k_skip ?_
    refine x_seq ?_
    refine k_seq ?_
    refine k_block ?_
    refine k_region ?_
    refine kl_val (y_move) rfl rfl rfl ?_
    refine kl_val (y_move) rfl rfl rfl ?_
    refine kl_val (y_move) rfl rfl rfl ?_
    refine kl_ow rfl (ow_call1 fn52 rfl rfl rfl (user_r h) (kret_retP (fun u w2 ⟨x, rest', v2, hx, hR, hf, hu⟩ => ?_) (fun c w' ⟨e, he, hc, hf⟩ => ⟨rfl, .inr ⟨c, rfl, e, by rw [hq]; exact pAllN_err xs he, hc, hF.trans hf⟩⟩)))
    obtain ⟨cs, rfl, hE⟩ := hu
    have hcl : cs.length = 3 := hE.length
    have hlX := hX.lt
    replace hE := hE.keep w2 (Bes (New w) w2 out)
    replace hX := hX.keep hf hNp (fun _ _ h => h.keep _ _)
    replace hF := hF.trans hf
    replace h := hR
    refine kl_ow rfl (ow_slice1 Try.underlying26 I25 Z25 S25 rfl (v := .agg cs.toArray) rfl hcl (by decide) (by decide) rfl (fun w3 b hb hf3 he3 hz3 => ?_))
    replace hX := hX.keep hf3 (fun _ _ h => h) (fun _ _ h => h.keep _ _)
    replace hF := hF.trans hf3.fr
    replace h := h.ext hf3
    replace hE := hE.keep w3 (Bes (New w) w3 out)
    refine kl_ow rfl (ow_appendX Try.underlying26 I25 Z25 S25 rfl (by decide) (by rw [B25]; decide) rfl hX rfl hb hcl hE.one hE (fun i hi => Nat.le_trans hF.size hi) (by omega) rfl (fun v' w' hf' hle' _ _ h' => h'.keep _ _) (fun out' w4 hX' hf4 => ?_))
    have hno : ¬ ownB out p.block := fun hb' => hNp _ (hX.new _ hb') rfl
    replace hF := hF.trans' hf4 (fun i hi hb' => absurd (hX.new _ hb') (by unfold New; omega))
    replace h := h.keep hf4 hno (fun j hj hb' => absurd (hX.new _ hb') (by have := h.old j hj; unfold New; omega))
    replace hX := hX'
    refine kl_val (y_assign) rfl rfl rfl ?_
    refine kl_nil ?_
    refine x_blk ?_
    refine x_seq ?_
    refine k_region ?_
    refine kl_val (y_add64 rfl rfl (by omega)) rfl rfl rfl ?_
    refine kl_val (y_move) rfl rfl rfl ?_
    refine kl_nil ?_
    exact x_lpN (n - (i + 1)) (by omega) ⟨i + 1, rest', v2, out', xs ++ [x], rfl, rfl, rfl, rfl, rfl, by omega, rfl, by simp [hxl], h, hF, hX, by rw [hq, show n - (i + 1) = k by omega]; exact pAllN_ok xs hx⟩
  · skip
    obtain rfl : i = n := by omega
    rw [Nat.sub_self, pAllN_zero] at hq
    refine k_exit ?_
    refine x_seqX ?_
    refine x_lpX ?_
    refine x_blkX ?_
    refine x_seq ?_
    refine k_seq ?_
    refine k_region ?_
    refine kl_val (y_move) rfl rfl rfl ?_
    refine kl_val (y_assign) rfl rfl rfl ?_
    refine kl_nil ?_
    refine x_seq ?_
    refine k_ret ?_
    exact k_ret1 rfl rfl (.inl ⟨_, rfl, xs, bs', v', hq, h, hF, hX.sl (fun _ _ h => h.keep _ _)⟩)

set_option maxRecDepth 100000 in
set_option maxHeartbeats 1000000 in
theorem request_r {p : Addr} {v : Value} {bs : List UInt8} {B : Nat → Prop} {w : World} (h : Rd w B p v bs) :
    ReadC Try.prog 84 #[.pointer (some p)] w B p (pReq bs) (fun w' u x => ∃ cs, u = .agg cs.toArray ∧ ReqR w' (Nw w w') cs x) := by
  refine k_enter1 Try.func84 rfl Try.ntmps84 rfl ?_
  refine k_seq ?_
  refine k_region ?_
  refine kl_ow rfl (ow_alloc I53 Z53 rfl (fun w0 b hb0 hf0 he0 hz0 => ?_))
  have hlt := h.lt
  replace h := h.ext hf0
  have hF : Fr (· = p.block) w w0 := hf0.fr
  have hb : Bx w0 b _ ([Value.int .u8 0] ++ ([Value.int .i64 0] ++ ([Value.int .i64 0] ++ ([Value.string ByteArray.empty] ++ ([Value.string ByteArray.empty] ++ ([Value.string ByteArray.empty] ++ (([Value.int .i64 0, Value.int .i64 0] ++ List.replicate 32 (Value.int .u8 0) ++ [Value.slice none 0 0] ++ List.replicate 64 (Value.int .u8 0)) ++ ((List.replicate 32 (Value.int .u8 0)) ++ (([Value.int .i64 0] ++ List.replicate 32 (Value.int .u8 0)) ++ ((List.replicate 64 (Value.int .u8 0)) ++ ([Value.slice none 0 0] ++ ([Value.int .i64 0] ++ ([Value.slice none 0 0]))))))))))))) := bx_eq hb0 rfl
  clear hb0
  have hNp : ∀ i, w0.heap.size ≤ i → ¬ i = p.block := fun i hi => by omega
  have hNb : ∀ i, w0.heap.size ≤ i → ¬ i = b := fun i hi => by omega
  have hbw : w.heap.size ≤ b := by omega
  have hbp : ¬ b = p.block := by omega
  have hs0 := Nat.le_refl w0.heap.size
  refine kl_nil ?_
  refine x_seq ?_
  refine k_seq ?_
  refine k_region ?_
  refine kl_val (y_move) rfl rfl rfl ?_
  refine kl_ow rfl (ow_call2 fn100 rfl rfl rfl rfl (upTo_r (most := 255) h) (kret_retP (fun u0 w1 ⟨x0, rest0, v0, hq0, hR0, hf, hu0⟩ => ?_) (fun c w' ⟨e, he, hc, hf⟩ => ⟨rfl, .inr ⟨c, rfl, e, by simp only [pReq, pBind_err he], hc, hF.trans hf⟩⟩)))
  obtain ⟨rfl, hx0⟩ := hu0
  have hs1 := hf.size
  replace hs0 := Nat.le_trans hs0 hs1
  replace hF := hF.trans hf
  replace hb := hb.keep hf hbp
  replace h := hR0
  refine kl_val (Y.cast (v' := .int .u8 (x0 : Int)) (y_conv_int ⟨_, Try.underlying3⟩ Try.underlying5 rfl) (congrArg (Value.int .u8) (wrap8_eq (by omega) (by omega)))) rfl rfl rfl ?_
  refine kl_val (y_fieldAddr Try.underlying53 rfl I5 S5 rfl rfl) rfl rfl rfl ?_
  have hLen : ([Value.int .u8 0] ++ ([Value.int .i64 0] ++ ([Value.int .i64 0] ++ ([Value.string ByteArray.empty] ++ ([Value.string ByteArray.empty] ++ ([Value.string ByteArray.empty] ++ (([Value.int .i64 0, Value.int .i64 0] ++ List.replicate 32 (Value.int .u8 0) ++ [Value.slice none 0 0] ++ List.replicate 64 (Value.int .u8 0)) ++ ((List.replicate 32 (Value.int .u8 0)) ++ (([Value.int .i64 0] ++ List.replicate 32 (Value.int .u8 0)) ++ ((List.replicate 64 (Value.int .u8 0)) ++ ([Value.slice none 0 0] ++ ([Value.int .i64 0] ++ ([Value.slice none 0 0]))))))))))))).length = 237 := by simp
  refine kl_ow rfl (ow_store (b := b) (o := 0) I5 S5 rfl (v := .int .u8 (x0 : Int)) (xs := [Value.int .u8 (x0 : Int)]) rfl hb rfl rfl (by have hl0 : ([Value.int .u8 (x0 : Int)] : List Value).length = 1 := rfl; rw [hl0]; exact Nat.le_trans (by decide) (Nat.le_of_eq hLen.symm)) (One'.single rfl) (fun w2 hb2 hf2 hz2 => ?_))
  replace hb := bx_eq hb2 (sp_here rfl)
  clear hb2 hLen
  replace hF := hF.trans' hf2 (fun i hi e => absurd e (by omega))
  replace h := h.keep hf2 (fun e => hbp e.symm) (fun i hi => by have := h.old i hi; omega)
  have hs1 := hf2.size
  replace hs0 := Nat.le_trans hs0 hs1
  refine kl_nil ?_
  refine x_seq ?_
  refine k_seq ?_
  refine k_region ?_
  refine kl_val (y_move) rfl rfl rfl ?_
  refine kl_ow rfl (ow_call1 fn102 rfl rfl rfl (number_r h) (kret_retP (fun u1 w1 ⟨x1, rest1, v1, hq1, hR1, hf, hu1⟩ => ?_) (fun c w' ⟨e, he, hc, hf⟩ => ⟨rfl, .inr ⟨c, rfl, e, by simp only [pReq, pBind_ok hq0, pBind_err he], hc, hF.trans hf⟩⟩)))
  obtain ⟨rfl, hx1⟩ := hu1
  have hs1 := hf.size
  replace hs0 := Nat.le_trans hs0 hs1
  replace hF := hF.trans hf
  replace hb := hb.keep hf hbp
  replace h := hR1
  refine kl_val (y_fieldAddr Try.underlying53 rfl I3 S3 rfl rfl) rfl rfl rfl ?_
  have hLen : ([Value.int .u8 (x0 : Int)] ++ ([Value.int .i64 0] ++ ([Value.int .i64 0] ++ ([Value.string ByteArray.empty] ++ ([Value.string ByteArray.empty] ++ ([Value.string ByteArray.empty] ++ (([Value.int .i64 0, Value.int .i64 0] ++ List.replicate 32 (Value.int .u8 0) ++ [Value.slice none 0 0] ++ List.replicate 64 (Value.int .u8 0)) ++ ((List.replicate 32 (Value.int .u8 0)) ++ (([Value.int .i64 0] ++ List.replicate 32 (Value.int .u8 0)) ++ ((List.replicate 64 (Value.int .u8 0)) ++ ([Value.slice none 0 0] ++ ([Value.int .i64 0] ++ ([Value.slice none 0 0]))))))))))))).length = 237 := by simp
  refine kl_ow rfl (ow_store (b := b) (o := 1) I3 S3 rfl (v := .int .i64 (x1 : Int)) (xs := [i64 (x1 : Int)]) rfl hb rfl rfl (by have hl0 : ([i64 (x1 : Int)] : List Value).length = 1 := rfl; rw [hl0]; exact Nat.le_trans (by decide) (Nat.le_of_eq hLen.symm)) (One'.single rfl) (fun w2 hb2 hf2 hz2 => ?_))
  replace hb := bx_eq hb2 (sp_next (a := 1) (o := 0) rfl (sp_here rfl))
  clear hb2 hLen
  replace hF := hF.trans' hf2 (fun i hi e => absurd e (by omega))
  replace h := h.keep hf2 (fun e => hbp e.symm) (fun i hi => by have := h.old i hi; omega)
  have hs1 := hf2.size
  replace hs0 := Nat.le_trans hs0 hs1
  refine kl_nil ?_
  refine x_seq ?_
  refine k_seq ?_
  refine k_region ?_
  refine kl_val (y_move) rfl rfl rfl ?_
  refine kl_ow rfl (ow_call1 fn102 rfl rfl rfl (number_r h) (kret_retP (fun u2 w1 ⟨x2, rest2, v2, hq2, hR2, hf, hu2⟩ => ?_) (fun c w' ⟨e, he, hc, hf⟩ => ⟨rfl, .inr ⟨c, rfl, e, by simp only [pReq, pBind_ok hq0, pBind_ok hq1, pBind_err he], hc, hF.trans hf⟩⟩)))
  obtain ⟨rfl, hx2⟩ := hu2
  have hs1 := hf.size
  replace hs0 := Nat.le_trans hs0 hs1
  replace hF := hF.trans hf
  replace hb := hb.keep hf hbp
  replace h := hR2
  refine kl_val (y_fieldAddr Try.underlying53 rfl I3 S3 rfl rfl) rfl rfl rfl ?_
  have hLen : ([Value.int .u8 (x0 : Int)] ++ ([i64 (x1 : Int)] ++ ([Value.int .i64 0] ++ ([Value.string ByteArray.empty] ++ ([Value.string ByteArray.empty] ++ ([Value.string ByteArray.empty] ++ (([Value.int .i64 0, Value.int .i64 0] ++ List.replicate 32 (Value.int .u8 0) ++ [Value.slice none 0 0] ++ List.replicate 64 (Value.int .u8 0)) ++ ((List.replicate 32 (Value.int .u8 0)) ++ (([Value.int .i64 0] ++ List.replicate 32 (Value.int .u8 0)) ++ ((List.replicate 64 (Value.int .u8 0)) ++ ([Value.slice none 0 0] ++ ([Value.int .i64 0] ++ ([Value.slice none 0 0]))))))))))))).length = 237 := by simp
  refine kl_ow rfl (ow_store (b := b) (o := 2) I3 S3 rfl (v := .int .i64 (x2 : Int)) (xs := [i64 (x2 : Int)]) rfl hb rfl rfl (by have hl0 : ([i64 (x2 : Int)] : List Value).length = 1 := rfl; rw [hl0]; exact Nat.le_trans (by decide) (Nat.le_of_eq hLen.symm)) (One'.single rfl) (fun w2 hb2 hf2 hz2 => ?_))
  replace hb := bx_eq hb2 (sp_next (a := 1) (o := 1) rfl (sp_next (a := 1) (o := 0) rfl (sp_here rfl)))
  clear hb2 hLen
  replace hF := hF.trans' hf2 (fun i hi e => absurd e (by omega))
  replace h := h.keep hf2 (fun e => hbp e.symm) (fun i hi => by have := h.old i hi; omega)
  have hs1 := hf2.size
  replace hs0 := Nat.le_trans hs0 hs1
  refine kl_nil ?_
  refine x_seq ?_
  refine k_seq ?_
  refine k_region ?_
  refine kl_val (y_move) rfl rfl rfl ?_
  refine kl_ow rfl (ow_call1 fn101 rfl rfl rfl (text_r h) (kret_retP (fun u3 w1 ⟨x3, rest3, v3, hq3, hR3, hf, hu3⟩ => ?_) (fun c w' ⟨e, he, hc, hf⟩ => ⟨rfl, .inr ⟨c, rfl, e, by simp only [pReq, pBind_ok hq0, pBind_ok hq1, pBind_ok hq2, pBind_err he], hc, hF.trans hf⟩⟩)))
  subst hu3
  have hs1 := hf.size
  replace hs0 := Nat.le_trans hs0 hs1
  replace hF := hF.trans hf
  replace hb := hb.keep hf hbp
  replace h := hR3
  refine kl_val (y_fieldAddr Try.underlying53 rfl I9 S9 rfl rfl) rfl rfl rfl ?_
  have hLen : ([Value.int .u8 (x0 : Int)] ++ ([i64 (x1 : Int)] ++ ([i64 (x2 : Int)] ++ ([Value.string ByteArray.empty] ++ ([Value.string ByteArray.empty] ++ ([Value.string ByteArray.empty] ++ (([Value.int .i64 0, Value.int .i64 0] ++ List.replicate 32 (Value.int .u8 0) ++ [Value.slice none 0 0] ++ List.replicate 64 (Value.int .u8 0)) ++ ((List.replicate 32 (Value.int .u8 0)) ++ (([Value.int .i64 0] ++ List.replicate 32 (Value.int .u8 0)) ++ ((List.replicate 64 (Value.int .u8 0)) ++ ([Value.slice none 0 0] ++ ([Value.int .i64 0] ++ ([Value.slice none 0 0]))))))))))))).length = 237 := by simp
  refine kl_ow rfl (ow_store (b := b) (o := 3) I9 S9 rfl (v := .string ⟨x3.toArray⟩) (xs := [Value.string ⟨x3.toArray⟩]) rfl hb rfl rfl (by have hl0 : ([Value.string ⟨x3.toArray⟩] : List Value).length = 1 := rfl; rw [hl0]; exact Nat.le_trans (by decide) (Nat.le_of_eq hLen.symm)) (One'.single rfl) (fun w2 hb2 hf2 hz2 => ?_))
  replace hb := bx_eq hb2 (sp_next (a := 1) (o := 2) rfl (sp_next (a := 1) (o := 1) rfl (sp_next (a := 1) (o := 0) rfl (sp_here rfl))))
  clear hb2 hLen
  replace hF := hF.trans' hf2 (fun i hi e => absurd e (by omega))
  replace h := h.keep hf2 (fun e => hbp e.symm) (fun i hi => by have := h.old i hi; omega)
  have hs1 := hf2.size
  replace hs0 := Nat.le_trans hs0 hs1
  refine kl_nil ?_
  refine x_seq ?_
  refine k_seq ?_
  refine k_region ?_
  refine kl_val (y_move) rfl rfl rfl ?_
  refine kl_ow rfl (ow_call1 fn101 rfl rfl rfl (text_r h) (kret_retP (fun u4 w1 ⟨x4, rest4, v4, hq4, hR4, hf, hu4⟩ => ?_) (fun c w' ⟨e, he, hc, hf⟩ => ⟨rfl, .inr ⟨c, rfl, e, by simp only [pReq, pBind_ok hq0, pBind_ok hq1, pBind_ok hq2, pBind_ok hq3, pBind_err he], hc, hF.trans hf⟩⟩)))
  subst hu4
  have hs1 := hf.size
  replace hs0 := Nat.le_trans hs0 hs1
  replace hF := hF.trans hf
  replace hb := hb.keep hf hbp
  replace h := hR4
  refine kl_val (y_fieldAddr Try.underlying53 rfl I9 S9 rfl rfl) rfl rfl rfl ?_
  have hLen : ([Value.int .u8 (x0 : Int)] ++ ([i64 (x1 : Int)] ++ ([i64 (x2 : Int)] ++ ([Value.string ⟨x3.toArray⟩] ++ ([Value.string ByteArray.empty] ++ ([Value.string ByteArray.empty] ++ (([Value.int .i64 0, Value.int .i64 0] ++ List.replicate 32 (Value.int .u8 0) ++ [Value.slice none 0 0] ++ List.replicate 64 (Value.int .u8 0)) ++ ((List.replicate 32 (Value.int .u8 0)) ++ (([Value.int .i64 0] ++ List.replicate 32 (Value.int .u8 0)) ++ ((List.replicate 64 (Value.int .u8 0)) ++ ([Value.slice none 0 0] ++ ([Value.int .i64 0] ++ ([Value.slice none 0 0]))))))))))))).length = 237 := by simp
  refine kl_ow rfl (ow_store (b := b) (o := 4) I9 S9 rfl (v := .string ⟨x4.toArray⟩) (xs := [Value.string ⟨x4.toArray⟩]) rfl hb rfl rfl (by have hl0 : ([Value.string ⟨x4.toArray⟩] : List Value).length = 1 := rfl; rw [hl0]; exact Nat.le_trans (by decide) (Nat.le_of_eq hLen.symm)) (One'.single rfl) (fun w2 hb2 hf2 hz2 => ?_))
  replace hb := bx_eq hb2 (sp_next (a := 1) (o := 3) rfl (sp_next (a := 1) (o := 2) rfl (sp_next (a := 1) (o := 1) rfl (sp_next (a := 1) (o := 0) rfl (sp_here rfl)))))
  clear hb2 hLen
  replace hF := hF.trans' hf2 (fun i hi e => absurd e (by omega))
  replace h := h.keep hf2 (fun e => hbp e.symm) (fun i hi => by have := h.old i hi; omega)
  have hs1 := hf2.size
  replace hs0 := Nat.le_trans hs0 hs1
  refine kl_nil ?_
  refine x_seq ?_
  refine k_seq ?_
  refine k_region ?_
  refine kl_val (y_move) rfl rfl rfl ?_
  refine kl_ow rfl (ow_call1 fn101 rfl rfl rfl (text_r h) (kret_retP (fun u5 w1 ⟨x5, rest5, v5, hq5, hR5, hf, hu5⟩ => ?_) (fun c w' ⟨e, he, hc, hf⟩ => ⟨rfl, .inr ⟨c, rfl, e, by simp only [pReq, pBind_ok hq0, pBind_ok hq1, pBind_ok hq2, pBind_ok hq3, pBind_ok hq4, pBind_err he], hc, hF.trans hf⟩⟩)))
  subst hu5
  have hs1 := hf.size
  replace hs0 := Nat.le_trans hs0 hs1
  replace hF := hF.trans hf
  replace hb := hb.keep hf hbp
  replace h := hR5
  refine kl_val (y_fieldAddr Try.underlying53 rfl I9 S9 rfl rfl) rfl rfl rfl ?_
  have hLen : ([Value.int .u8 (x0 : Int)] ++ ([i64 (x1 : Int)] ++ ([i64 (x2 : Int)] ++ ([Value.string ⟨x3.toArray⟩] ++ ([Value.string ⟨x4.toArray⟩] ++ ([Value.string ByteArray.empty] ++ (([Value.int .i64 0, Value.int .i64 0] ++ List.replicate 32 (Value.int .u8 0) ++ [Value.slice none 0 0] ++ List.replicate 64 (Value.int .u8 0)) ++ ((List.replicate 32 (Value.int .u8 0)) ++ (([Value.int .i64 0] ++ List.replicate 32 (Value.int .u8 0)) ++ ((List.replicate 64 (Value.int .u8 0)) ++ ([Value.slice none 0 0] ++ ([Value.int .i64 0] ++ ([Value.slice none 0 0]))))))))))))).length = 237 := by simp
  refine kl_ow rfl (ow_store (b := b) (o := 5) I9 S9 rfl (v := .string ⟨x5.toArray⟩) (xs := [Value.string ⟨x5.toArray⟩]) rfl hb rfl rfl (by have hl0 : ([Value.string ⟨x5.toArray⟩] : List Value).length = 1 := rfl; rw [hl0]; exact Nat.le_trans (by decide) (Nat.le_of_eq hLen.symm)) (One'.single rfl) (fun w2 hb2 hf2 hz2 => ?_))
  replace hb := bx_eq hb2 (sp_next (a := 1) (o := 4) rfl (sp_next (a := 1) (o := 3) rfl (sp_next (a := 1) (o := 2) rfl (sp_next (a := 1) (o := 1) rfl (sp_next (a := 1) (o := 0) rfl (sp_here rfl))))))
  clear hb2 hLen
  replace hF := hF.trans' hf2 (fun i hi e => absurd e (by omega))
  replace h := h.keep hf2 (fun e => hbp e.symm) (fun i hi => by have := h.old i hi; omega)
  have hs1 := hf2.size
  replace hs0 := Nat.le_trans hs0 hs1
  refine kl_nil ?_
  refine x_seq ?_
  refine k_seq ?_
  refine k_region ?_
  refine kl_val (y_move) rfl rfl rfl ?_
  refine kl_ow rfl (ow_call1 fn86 rfl rfl rfl (list_r h) (kret_retP (fun u6 w1 ⟨x6, rest6, v6, hq6, hR6, hf, hu6⟩ => ?_) (fun c w' ⟨e, he, hc, hf⟩ => ⟨rfl, .inr ⟨c, rfl, e, by simp only [pReq, pBind_ok hq0, pBind_ok hq1, pBind_ok hq2, pBind_ok hq3, pBind_ok hq4, pBind_ok hq5, pBind_err he], hc, hF.trans hf⟩⟩)))
  obtain ⟨cs6, rfl, hS6⟩ := hu6
  have hs1 := hf.size
  have hl6 := hS6.length
  replace hS6 := hS6.mono (nw_up hs0)
  replace hs0 := Nat.le_trans hs0 hs1
  replace hF := hF.trans hf
  replace hb := hb.keep hf hbp
  replace h := hR6
  refine kl_val (y_fieldAddr Try.underlying53 rfl I47 S47 rfl rfl) rfl rfl rfl ?_
  have hLen : ([Value.int .u8 (x0 : Int)] ++ ([i64 (x1 : Int)] ++ ([i64 (x2 : Int)] ++ ([Value.string ⟨x3.toArray⟩] ++ ([Value.string ⟨x4.toArray⟩] ++ ([Value.string ⟨x5.toArray⟩] ++ (([Value.int .i64 0, Value.int .i64 0] ++ List.replicate 32 (Value.int .u8 0) ++ [Value.slice none 0 0] ++ List.replicate 64 (Value.int .u8 0)) ++ ((List.replicate 32 (Value.int .u8 0)) ++ (([Value.int .i64 0] ++ List.replicate 32 (Value.int .u8 0)) ++ ((List.replicate 64 (Value.int .u8 0)) ++ ([Value.slice none 0 0] ++ ([Value.int .i64 0] ++ ([Value.slice none 0 0]))))))))))))).length = 237 := by simp
  refine kl_ow rfl (ow_store (b := b) (o := 6) I47 S47 rfl (v := .agg cs6.toArray) (xs := cs6) rfl hb rfl hl6 (by have hl0 : (cs6 : List Value).length = 99 := hl6; rw [hl0]; exact Nat.le_trans (by decide) (Nat.le_of_eq hLen.symm)) hS6.one (fun w2 hb2 hf2 hz2 => ?_))
  replace hb := bx_eq hb2 (sp_next (a := 1) (o := 5) rfl (sp_next (a := 1) (o := 4) rfl (sp_next (a := 1) (o := 3) rfl (sp_next (a := 1) (o := 2) rfl (sp_next (a := 1) (o := 1) rfl (sp_next (a := 1) (o := 0) rfl (sp_here (by rw [hl6]; rfl))))))))
  clear hb2 hLen
  replace hF := hF.trans' hf2 (fun i hi e => absurd e (by omega))
  replace h := h.keep hf2 (fun e => hbp e.symm) (fun i hi => by have := h.old i hi; omega)
  have hs1 := hf2.size
  replace hs0 := Nat.le_trans hs0 hs1
  replace hS6 := (hS6.keep hf2 (fun i hi => hNb i hi.1)).mono (nw_le hf2)
  refine kl_nil ?_
  refine x_seq ?_
  refine k_seq ?_
  refine k_region ?_
  refine kl_val (y_move) rfl rfl rfl ?_
  refine kl_ow rfl (ow_call1 fn107 rfl rfl rfl (key_r h) (kret_retP (fun u7 w1 ⟨x7, rest7, v7, hq7, hR7, hf, hu7⟩ => ?_) (fun c w' ⟨e, he, hc, hf⟩ => ⟨rfl, .inr ⟨c, rfl, e, by simp only [pReq, pBind_ok hq0, pBind_ok hq1, pBind_ok hq2, pBind_ok hq3, pBind_ok hq4, pBind_ok hq5, pBind_ok hq6, pBind_err he], hc, hF.trans hf⟩⟩)))
  obtain ⟨rfl, hk7⟩ := hu7
  have hs1 := hf.size
  replace hs0 := Nat.le_trans hs0 hs1
  replace hF := hF.trans hf
  replace hb := hb.keep hf hbp
  replace hS6 := (hS6.keep hf (fun i hi => hNp i hi.1)).mono (nw_le hf)
  replace h := hR7
  refine kl_val (y_fieldAddr Try.underlying53 rfl I34 S34 rfl rfl) rfl rfl rfl ?_
  have hLen : ([Value.int .u8 (x0 : Int)] ++ ([i64 (x1 : Int)] ++ ([i64 (x2 : Int)] ++ ([Value.string ⟨x3.toArray⟩] ++ ([Value.string ⟨x4.toArray⟩] ++ ([Value.string ⟨x5.toArray⟩] ++ (cs6 ++ ((List.replicate 32 (Value.int .u8 0)) ++ (([Value.int .i64 0] ++ List.replicate 32 (Value.int .u8 0)) ++ ((List.replicate 64 (Value.int .u8 0)) ++ ([Value.slice none 0 0] ++ ([Value.int .i64 0] ++ ([Value.slice none 0 0]))))))))))))).length = 237 := by simp [hl6]
  refine kl_ow rfl (ow_store (b := b) (o := 105) I34 S34 rfl (v := .agg (bvs x7).toArray) (xs := bvs x7) rfl hb rfl (by rw [bvs_length]; exact hk7) (by have hl0 : (bvs x7 : List Value).length = 32 := (by rw [bvs_length]; exact hk7); rw [hl0]; exact Nat.le_trans (by decide) (Nat.le_of_eq hLen.symm)) (bvs_one _) (fun w2 hb2 hf2 hz2 => ?_))
  replace hb := bx_eq hb2 (sp_next (a := 1) (o := 104) rfl (sp_next (a := 1) (o := 103) rfl (sp_next (a := 1) (o := 102) rfl (sp_next (a := 1) (o := 101) rfl (sp_next (a := 1) (o := 100) rfl (sp_next (a := 1) (o := 99) rfl (sp_next (a := 99) (o := 0) hl6 (sp_here (by rw [bvs_length, hk7]; rfl)))))))))
  clear hb2 hLen
  replace hF := hF.trans' hf2 (fun i hi e => absurd e (by omega))
  replace h := h.keep hf2 (fun e => hbp e.symm) (fun i hi => by have := h.old i hi; omega)
  have hs1 := hf2.size
  replace hs0 := Nat.le_trans hs0 hs1
  replace hS6 := (hS6.keep hf2 (fun i hi => hNb i hi.1)).mono (nw_le hf2)
  refine kl_nil ?_
  refine x_seq ?_
  refine k_seq ?_
  refine k_region ?_
  refine kl_val (y_move) rfl rfl rfl ?_
  refine kl_ow rfl (ow_call1 fn108 rfl rfl rfl (prekey_r h) (kret_retP (fun u8 w1 ⟨x8, rest8, v8, hq8, hR8, hf, hu8⟩ => ?_) (fun c w' ⟨e, he, hc, hf⟩ => ⟨rfl, .inr ⟨c, rfl, e, by simp only [pReq, pBind_ok hq0, pBind_ok hq1, pBind_ok hq2, pBind_ok hq3, pBind_ok hq4, pBind_ok hq5, pBind_ok hq6, pBind_ok hq7, pBind_err he], hc, hF.trans hf⟩⟩)))
  obtain ⟨cs8, rfl, hS8⟩ := hu8
  have hs1 := hf.size
  have hl8 := hS8.length
  skip
  replace hs0 := Nat.le_trans hs0 hs1
  replace hF := hF.trans hf
  replace hb := hb.keep hf hbp
  replace hS6 := (hS6.keep hf (fun i hi => hNp i hi.1)).mono (nw_le hf)
  replace h := hR8
  refine kl_val (y_fieldAddr Try.underlying53 rfl I49 S49 rfl rfl) rfl rfl rfl ?_
  have hLen : ([Value.int .u8 (x0 : Int)] ++ ([i64 (x1 : Int)] ++ ([i64 (x2 : Int)] ++ ([Value.string ⟨x3.toArray⟩] ++ ([Value.string ⟨x4.toArray⟩] ++ ([Value.string ⟨x5.toArray⟩] ++ (cs6 ++ (bvs x7 ++ (([Value.int .i64 0] ++ List.replicate 32 (Value.int .u8 0)) ++ ((List.replicate 64 (Value.int .u8 0)) ++ ([Value.slice none 0 0] ++ ([Value.int .i64 0] ++ ([Value.slice none 0 0]))))))))))))).length = 237 := by simp [hl6, hk7]
  refine kl_ow rfl (ow_store (b := b) (o := 137) I49 S49 rfl (v := .agg cs8.toArray) (xs := cs8) rfl hb rfl hl8 (by have hl0 : (cs8 : List Value).length = 33 := hl8; rw [hl0]; exact Nat.le_trans (by decide) (Nat.le_of_eq hLen.symm)) hS8.one (fun w2 hb2 hf2 hz2 => ?_))
  replace hb := bx_eq hb2 (sp_next (a := 1) (o := 136) rfl (sp_next (a := 1) (o := 135) rfl (sp_next (a := 1) (o := 134) rfl (sp_next (a := 1) (o := 133) rfl (sp_next (a := 1) (o := 132) rfl (sp_next (a := 1) (o := 131) rfl (sp_next (a := 99) (o := 32) hl6 (sp_next (a := 32) (o := 0) (by rw [bvs_length]; exact hk7) (sp_here (by rw [hl8]; rfl))))))))))
  clear hb2 hLen
  replace hF := hF.trans' hf2 (fun i hi e => absurd e (by omega))
  replace h := h.keep hf2 (fun e => hbp e.symm) (fun i hi => by have := h.old i hi; omega)
  have hs1 := hf2.size
  replace hs0 := Nat.le_trans hs0 hs1
  replace hS6 := (hS6.keep hf2 (fun i hi => hNb i hi.1)).mono (nw_le hf2)
  refine kl_nil ?_
  refine x_seq ?_
  refine k_seq ?_
  refine k_region ?_
  refine kl_val (y_move) rfl rfl rfl ?_
  refine kl_ow rfl (ow_call1 fn109 rfl rfl rfl (sig_r h) (kret_retP (fun u9 w1 ⟨x9, rest9, v9, hq9, hR9, hf, hu9⟩ => ?_) (fun c w' ⟨e, he, hc, hf⟩ => ⟨rfl, .inr ⟨c, rfl, e, by simp only [pReq, pBind_ok hq0, pBind_ok hq1, pBind_ok hq2, pBind_ok hq3, pBind_ok hq4, pBind_ok hq5, pBind_ok hq6, pBind_ok hq7, pBind_ok hq8, pBind_err he], hc, hF.trans hf⟩⟩)))
  obtain ⟨rfl, hk9⟩ := hu9
  have hs1 := hf.size
  replace hs0 := Nat.le_trans hs0 hs1
  replace hF := hF.trans hf
  replace hb := hb.keep hf hbp
  replace hS6 := (hS6.keep hf (fun i hi => hNp i hi.1)).mono (nw_le hf)
  replace h := hR9
  refine kl_val (y_fieldAddr Try.underlying53 rfl I45 S45 rfl rfl) rfl rfl rfl ?_
  have hLen : ([Value.int .u8 (x0 : Int)] ++ ([i64 (x1 : Int)] ++ ([i64 (x2 : Int)] ++ ([Value.string ⟨x3.toArray⟩] ++ ([Value.string ⟨x4.toArray⟩] ++ ([Value.string ⟨x5.toArray⟩] ++ (cs6 ++ (bvs x7 ++ (cs8 ++ ((List.replicate 64 (Value.int .u8 0)) ++ ([Value.slice none 0 0] ++ ([Value.int .i64 0] ++ ([Value.slice none 0 0]))))))))))))).length = 237 := by simp [hl6, hk7, hl8]
  refine kl_ow rfl (ow_store (b := b) (o := 170) I45 S45 rfl (v := .agg (bvs x9).toArray) (xs := bvs x9) rfl hb rfl (by rw [bvs_length]; exact hk9) (by have hl0 : (bvs x9 : List Value).length = 64 := (by rw [bvs_length]; exact hk9); rw [hl0]; exact Nat.le_trans (by decide) (Nat.le_of_eq hLen.symm)) (bvs_one _) (fun w2 hb2 hf2 hz2 => ?_))
  replace hb := bx_eq hb2 (sp_next (a := 1) (o := 169) rfl (sp_next (a := 1) (o := 168) rfl (sp_next (a := 1) (o := 167) rfl (sp_next (a := 1) (o := 166) rfl (sp_next (a := 1) (o := 165) rfl (sp_next (a := 1) (o := 164) rfl (sp_next (a := 99) (o := 65) hl6 (sp_next (a := 32) (o := 33) (by rw [bvs_length]; exact hk7) (sp_next (a := 33) (o := 0) hl8 (sp_here (by rw [bvs_length, hk9]; rfl)))))))))))
  clear hb2 hLen
  replace hF := hF.trans' hf2 (fun i hi e => absurd e (by omega))
  replace h := h.keep hf2 (fun e => hbp e.symm) (fun i hi => by have := h.old i hi; omega)
  have hs1 := hf2.size
  replace hs0 := Nat.le_trans hs0 hs1
  replace hS6 := (hS6.keep hf2 (fun i hi => hNb i hi.1)).mono (nw_le hf2)
  refine kl_nil ?_
  refine x_seq ?_
  refine k_seq ?_
  refine k_region ?_
  refine kl_val (y_move) rfl rfl rfl ?_
  refine kl_ow rfl (ow_call2 fn110 rfl rfl rfl rfl (all_Prekey_r h) (kret_retP (fun u10 w1 ⟨x10, rest10, v10, hq10, hR10, hf, hu10⟩ => ?_) (fun c w' ⟨e, he, hc, hf⟩ => ⟨rfl, .inr ⟨c, rfl, e, by simp only [pReq, pBind_ok hq0, pBind_ok hq1, pBind_ok hq2, pBind_ok hq3, pBind_ok hq4, pBind_ok hq5, pBind_ok hq6, pBind_ok hq7, pBind_ok hq8, pBind_ok hq9, pBind_err he], hc, hF.trans hf⟩⟩)))
  have hs1 := hf.size
  replace hu10 := hu10.mono (nw_up hs0) (fun _ _ h => h.keep _ _)
  replace hs0 := Nat.le_trans hs0 hs1
  replace hF := hF.trans hf
  replace hb := hb.keep hf hbp
  replace hS6 := (hS6.keep hf (fun i hi => hNp i hi.1)).mono (nw_le hf)
  replace h := hR10
  refine kl_val (y_fieldAddr Try.underlying53 rfl I50 S50 rfl rfl) rfl rfl rfl ?_
  have hLen : ([Value.int .u8 (x0 : Int)] ++ ([i64 (x1 : Int)] ++ ([i64 (x2 : Int)] ++ ([Value.string ⟨x3.toArray⟩] ++ ([Value.string ⟨x4.toArray⟩] ++ ([Value.string ⟨x5.toArray⟩] ++ (cs6 ++ (bvs x7 ++ (cs8 ++ (bvs x9 ++ ([Value.slice none 0 0] ++ ([Value.int .i64 0] ++ ([Value.slice none 0 0]))))))))))))).length = 237 := by simp [hl6, hk7, hl8, hk9]
  refine kl_ow rfl (ow_store (b := b) (o := 234) I50 S50 rfl (v := u10) (xs := [u10]) rfl hb hu10.one.2 rfl (by have hl0 : ([u10] : List Value).length = 1 := rfl; rw [hl0]; exact Nat.le_trans (by decide) (Nat.le_of_eq hLen.symm)) (One'.single hu10.one.1) (fun w2 hb2 hf2 hz2 => ?_))
  replace hb := bx_eq hb2 (sp_next (a := 1) (o := 233) rfl (sp_next (a := 1) (o := 232) rfl (sp_next (a := 1) (o := 231) rfl (sp_next (a := 1) (o := 230) rfl (sp_next (a := 1) (o := 229) rfl (sp_next (a := 1) (o := 228) rfl (sp_next (a := 99) (o := 129) hl6 (sp_next (a := 32) (o := 97) (by rw [bvs_length]; exact hk7) (sp_next (a := 33) (o := 64) hl8 (sp_next (a := 64) (o := 0) (by rw [bvs_length]; exact hk9) (sp_here rfl)))))))))))
  clear hb2 hLen
  replace hF := hF.trans' hf2 (fun i hi e => absurd e (by omega))
  replace h := h.keep hf2 (fun e => hbp e.symm) (fun i hi => by have := h.old i hi; omega)
  have hs1 := hf2.size
  replace hs0 := Nat.le_trans hs0 hs1
  replace hS6 := (hS6.keep hf2 (fun i hi => hNb i hi.1)).mono (nw_le hf2)
  replace hu10 := (hu10.keep hf2 (fun i hi => hNb i hi.1) (fun _ _ h => h.keep _ _)).mono (nw_le hf2) (fun _ _ h => h.keep _ _)
  refine kl_nil ?_
  refine x_seq ?_
  refine k_seq ?_
  refine k_region ?_
  refine kl_val (y_move) rfl rfl rfl ?_
  refine kl_ow rfl (ow_call1 fn102 rfl rfl rfl (number_r h) (kret_retP (fun u11 w1 ⟨x11, rest11, v11, hq11, hR11, hf, hu11⟩ => ?_) (fun c w' ⟨e, he, hc, hf⟩ => ⟨rfl, .inr ⟨c, rfl, e, by simp only [pReq, pBind_ok hq0, pBind_ok hq1, pBind_ok hq2, pBind_ok hq3, pBind_ok hq4, pBind_ok hq5, pBind_ok hq6, pBind_ok hq7, pBind_ok hq8, pBind_ok hq9, pBind_ok hq10, pBind_err he], hc, hF.trans hf⟩⟩)))
  obtain ⟨rfl, hx11⟩ := hu11
  have hs1 := hf.size
  replace hs0 := Nat.le_trans hs0 hs1
  replace hF := hF.trans hf
  replace hb := hb.keep hf hbp
  replace hS6 := (hS6.keep hf (fun i hi => hNp i hi.1)).mono (nw_le hf)
  replace hu10 := (hu10.keep hf (fun i hi => hNp i hi.1) (fun _ _ h => h.keep _ _)).mono (nw_le hf) (fun _ _ h => h.keep _ _)
  replace h := hR11
  refine kl_val (y_fieldAddr Try.underlying53 rfl I3 S3 rfl rfl) rfl rfl rfl ?_
  have hLen : ([Value.int .u8 (x0 : Int)] ++ ([i64 (x1 : Int)] ++ ([i64 (x2 : Int)] ++ ([Value.string ⟨x3.toArray⟩] ++ ([Value.string ⟨x4.toArray⟩] ++ ([Value.string ⟨x5.toArray⟩] ++ (cs6 ++ (bvs x7 ++ (cs8 ++ (bvs x9 ++ ([u10] ++ ([Value.int .i64 0] ++ ([Value.slice none 0 0]))))))))))))).length = 237 := by simp [hl6, hk7, hl8, hk9]
  refine kl_ow rfl (ow_store (b := b) (o := 235) I3 S3 rfl (v := .int .i64 (x11 : Int)) (xs := [i64 (x11 : Int)]) rfl hb rfl rfl (by have hl0 : ([i64 (x11 : Int)] : List Value).length = 1 := rfl; rw [hl0]; exact Nat.le_trans (by decide) (Nat.le_of_eq hLen.symm)) (One'.single rfl) (fun w2 hb2 hf2 hz2 => ?_))
  replace hb := bx_eq hb2 (sp_next (a := 1) (o := 234) rfl (sp_next (a := 1) (o := 233) rfl (sp_next (a := 1) (o := 232) rfl (sp_next (a := 1) (o := 231) rfl (sp_next (a := 1) (o := 230) rfl (sp_next (a := 1) (o := 229) rfl (sp_next (a := 99) (o := 130) hl6 (sp_next (a := 32) (o := 98) (by rw [bvs_length]; exact hk7) (sp_next (a := 33) (o := 65) hl8 (sp_next (a := 64) (o := 1) (by rw [bvs_length]; exact hk9) (sp_next (a := 1) (o := 0) rfl (sp_here rfl))))))))))))
  clear hb2 hLen
  replace hF := hF.trans' hf2 (fun i hi e => absurd e (by omega))
  replace h := h.keep hf2 (fun e => hbp e.symm) (fun i hi => by have := h.old i hi; omega)
  have hs1 := hf2.size
  replace hs0 := Nat.le_trans hs0 hs1
  replace hS6 := (hS6.keep hf2 (fun i hi => hNb i hi.1)).mono (nw_le hf2)
  replace hu10 := (hu10.keep hf2 (fun i hi => hNb i hi.1) (fun _ _ h => h.keep _ _)).mono (nw_le hf2) (fun _ _ h => h.keep _ _)
  refine kl_nil ?_
  refine x_seq ?_
  refine k_seq ?_
  refine k_region ?_
  refine kl_val (y_move) rfl rfl rfl ?_
  refine kl_ow rfl (ow_call2 fn111 rfl rfl rfl rfl (all_Item_r h) (kret_retP (fun u12 w1 ⟨x12, rest12, v12, hq12, hR12, hf, hu12⟩ => ?_) (fun c w' ⟨e, he, hc, hf⟩ => ⟨rfl, .inr ⟨c, rfl, e, by simp only [pReq, pBind_ok hq0, pBind_ok hq1, pBind_ok hq2, pBind_ok hq3, pBind_ok hq4, pBind_ok hq5, pBind_ok hq6, pBind_ok hq7, pBind_ok hq8, pBind_ok hq9, pBind_ok hq10, pBind_ok hq11, pBind_err he], hc, hF.trans hf⟩⟩)))
  have hs1 := hf.size
  replace hu12 := hu12.mono (nw_up hs0) (fun _ _ h => h.mono (nw_up hs0))
  replace hs0 := Nat.le_trans hs0 hs1
  replace hF := hF.trans hf
  replace hb := hb.keep hf hbp
  replace hS6 := (hS6.keep hf (fun i hi => hNp i hi.1)).mono (nw_le hf)
  replace hu10 := (hu10.keep hf (fun i hi => hNp i hi.1) (fun _ _ h => h.keep _ _)).mono (nw_le hf) (fun _ _ h => h.keep _ _)
  replace h := hR12
  refine kl_val (y_fieldAddr Try.underlying53 rfl I51 S51 rfl rfl) rfl rfl rfl ?_
  have hLen : ([Value.int .u8 (x0 : Int)] ++ ([i64 (x1 : Int)] ++ ([i64 (x2 : Int)] ++ ([Value.string ⟨x3.toArray⟩] ++ ([Value.string ⟨x4.toArray⟩] ++ ([Value.string ⟨x5.toArray⟩] ++ (cs6 ++ (bvs x7 ++ (cs8 ++ (bvs x9 ++ ([u10] ++ ([i64 (x11 : Int)] ++ ([Value.slice none 0 0]))))))))))))).length = 237 := by simp [hl6, hk7, hl8, hk9]
  refine kl_ow rfl (ow_store (b := b) (o := 236) I51 S51 rfl (v := u12) (xs := [u12]) rfl hb hu12.one.2 rfl (by have hl0 : ([u12] : List Value).length = 1 := rfl; rw [hl0]; exact Nat.le_trans (by decide) (Nat.le_of_eq hLen.symm)) (One'.single hu12.one.1) (fun w2 hb2 hf2 hz2 => ?_))
  replace hb := bx_eq hb2 (sp_next (a := 1) (o := 235) rfl (sp_next (a := 1) (o := 234) rfl (sp_next (a := 1) (o := 233) rfl (sp_next (a := 1) (o := 232) rfl (sp_next (a := 1) (o := 231) rfl (sp_next (a := 1) (o := 230) rfl (sp_next (a := 99) (o := 131) hl6 (sp_next (a := 32) (o := 99) (by rw [bvs_length]; exact hk7) (sp_next (a := 33) (o := 66) hl8 (sp_next (a := 64) (o := 2) (by rw [bvs_length]; exact hk9) (sp_next (a := 1) (o := 1) rfl (sp_next (a := 1) (o := 0) rfl (sp_last rfl)))))))))))))
  clear hb2 hLen
  replace hF := hF.trans' hf2 (fun i hi e => absurd e (by omega))
  replace h := h.keep hf2 (fun e => hbp e.symm) (fun i hi => by have := h.old i hi; omega)
  have hs1 := hf2.size
  replace hs0 := Nat.le_trans hs0 hs1
  replace hS6 := (hS6.keep hf2 (fun i hi => hNb i hi.1)).mono (nw_le hf2)
  replace hu10 := (hu10.keep hf2 (fun i hi => hNb i hi.1) (fun _ _ h => h.keep _ _)).mono (nw_le hf2) (fun _ _ h => h.keep _ _)
  replace hu12 := (hu12.keep hf2 (fun i hi => hNb i hi.1) (fun _ _ h => h.keep hf2 (fun i hi => hNb i hi.1))).mono (nw_le hf2) (fun _ _ h => h.mono (nw_le hf2))
  refine kl_nil ?_
  refine x_seq ?_
  refine k_seq ?_
  refine k_region ?_
  refine kl_val (y_load rfl (ld_aggB Try.underlying53 rfl I53 S53 (by simp [hl6, hk7, hl8, hk9]) hb.cs)) rfl rfl rfl ?_
  refine kl_ow rfl (ow_store (b := b) (o := 0) (xs := [Value.int .u8 (x0 : Int)] ++ ([i64 (x1 : Int)] ++ ([i64 (x2 : Int)] ++ ([Value.string ⟨x3.toArray⟩] ++ ([Value.string ⟨x4.toArray⟩] ++ ([Value.string ⟨x5.toArray⟩] ++ (cs6 ++ (bvs x7 ++ (cs8 ++ (bvs x9 ++ ([u10] ++ ([i64 (x11 : Int)] ++ ([u12]))))))))))))) I53 S53 rfl (v := .agg ([Value.int .u8 (x0 : Int)] ++ ([i64 (x1 : Int)] ++ ([i64 (x2 : Int)] ++ ([Value.string ⟨x3.toArray⟩] ++ ([Value.string ⟨x4.toArray⟩] ++ ([Value.string ⟨x5.toArray⟩] ++ (cs6 ++ (bvs x7 ++ (cs8 ++ (bvs x9 ++ ([u10] ++ ([i64 (x11 : Int)] ++ ([u12]))))))))))))).toArray) rfl hb rfl (by simp [hl6, hk7, hl8, hk9]) (by omega) (((One'.single rfl)).append (((One'.single rfl)).append (((One'.single rfl)).append (((One'.single rfl)).append (((One'.single rfl)).append (((One'.single rfl)).append ((hS6.one).append ((One'.bvs _ : One' _).append ((hS8.one).append ((One'.bvs _ : One' _).append ((One'.single hu10.one.1).append (((One'.single rfl)).append (One'.single hu12.one.1))))))))))))) (fun w3 hb3 hf3 hz3 => ?_))
  replace hb := bx_eq hb3 (splice_all rfl)
  replace hF := hF.trans' hf3 (fun i hi e => absurd e (by omega))
  replace h := h.keep hf3 (fun e => hbp e.symm) (fun i hi => by have := h.old i hi; omega)
  replace hS6 := (hS6.keep hf3 (fun i hi => hNb i hi.1)).mono (nw_le hf3)
  replace hu10 := (hu10.keep hf3 (fun i hi => hNb i hi.1) (fun _ _ h => h.keep _ _)).mono (nw_le hf3) (fun _ _ h => h.keep _ _)
  replace hu12 := (hu12.keep hf3 (fun i hi => hNb i hi.1) (fun _ _ h => h.keep hf3 (fun i hi => hNb i hi.1))).mono (nw_le hf3) (fun _ _ h => h.mono (nw_le hf3))
  refine kl_nil ?_
  refine x_seq ?_
  refine k_ret ?_
  exact k_retC rfl rfl (ld_aggB Try.underlying53 rfl I53 S53 (by simp [hl6, hk7, hl8, hk9]) hb.cs) (.inl ⟨_, rfl, ⟨x0, (x1 : Int), (x2 : Int), bytesOf x3, bytesOf x4, bytesOf x5, x6, x7, x8, x9, x10, (x11 : Int), x12⟩, rest12, v12, by simp only [pReq, pBind_ok hq0, pBind_ok hq1, pBind_ok hq2, pBind_ok hq3, pBind_ok hq4, pBind_ok hq5, pBind_ok hq6, pBind_ok hq7, pBind_ok hq8, pBind_ok hq9, pBind_ok hq10, pBind_ok hq11, pBind_ok hq12, pPure], h, hF, _, rfl, ⟨hk7, hk9, by show x0 < 256; omega, _, _, _, _, (hS6.mono (nw_up hf0.size)), hS8.keep _ _, (hu10.mono (nw_up hf0.size) (fun _ _ h => h.keep _ _)), (hu12.mono (nw_up hf0.size) (fun _ _ h => h.mono (nw_up hf0.size))), rfl⟩⟩)

set_option maxRecDepth 100000 in
set_option maxHeartbeats 1000000 in
theorem response_r {p : Addr} {v : Value} {bs : List UInt8} {B : Nat → Prop} {w : World} (h : Rd w B p v bs) :
    ReadC Try.prog 92 #[.pointer (some p)] w B p (pRsp bs) (fun w' u x => ∃ cs, u = .agg cs.toArray ∧ RspR w' (Nw w w') cs x) := by
  refine k_enter1 Try.func92 rfl Try.ntmps92 rfl ?_
  refine k_seq ?_
  refine k_region ?_
  refine kl_ow rfl (ow_alloc I61 Z61 rfl (fun w0 b hb0 hf0 he0 hz0 => ?_))
  have hlt := h.lt
  replace h := h.ext hf0
  have hF : Fr (· = p.block) w w0 := hf0.fr
  have hb : Bx w0 b _ ([Value.int .u16 0] ++ (([Value.int .i64 0, Value.int .i64 0] ++ List.replicate 32 (Value.int .u8 0) ++ [Value.slice none 0 0] ++ List.replicate 64 (Value.int .u8 0)) ++ (([Value.int .i64 0, Value.int .i64 0] ++ List.replicate 64 (Value.int .u8 0) ++ [Value.int .i64 0] ++ List.replicate 96 (Value.int .u8 0) ++ [Value.slice none 0 0]) ++ ([Value.slice none 0 0])))) := bx_eq hb0 rfl
  clear hb0
  have hNp : ∀ i, w0.heap.size ≤ i → ¬ i = p.block := fun i hi => by omega
  have hNb : ∀ i, w0.heap.size ≤ i → ¬ i = b := fun i hi => by omega
  have hbw : w.heap.size ≤ b := by omega
  have hbp : ¬ b = p.block := by omega
  have hs0 := Nat.le_refl w0.heap.size
  refine kl_nil ?_
  refine x_seq ?_
  refine k_seq ?_
  refine k_region ?_
  refine kl_val (y_move) rfl rfl rfl ?_
  refine kl_ow rfl (ow_call2 fn100 rfl rfl rfl rfl (upTo_r (most := 255) h) (kret_retP (fun u0 w1 ⟨x0, rest0, v0, hq0, hR0, hf, hu0⟩ => ?_) (fun c w' ⟨e, he, hc, hf⟩ => ⟨rfl, .inr ⟨c, rfl, e, by simp only [pRsp, pBind_err he], hc, hF.trans hf⟩⟩)))
  obtain ⟨rfl, hx0⟩ := hu0
  have hs1 := hf.size
  replace hs0 := Nat.le_trans hs0 hs1
  replace hF := hF.trans hf
  replace hb := hb.keep hf hbp
  replace h := hR0
  refine kl_val (Y.cast (v' := .int .u16 (x0 : Int)) (y_conv_int ⟨_, Try.underlying3⟩ Try.underlying28 rfl) (congrArg (Value.int .u16) (wrap16_eq (by omega) (by omega)))) rfl rfl rfl ?_
  refine kl_val (y_fieldAddr Try.underlying61 rfl I28 S28 rfl rfl) rfl rfl rfl ?_
  have hLen : ([Value.int .u16 0] ++ (([Value.int .i64 0, Value.int .i64 0] ++ List.replicate 32 (Value.int .u8 0) ++ [Value.slice none 0 0] ++ List.replicate 64 (Value.int .u8 0)) ++ (([Value.int .i64 0, Value.int .i64 0] ++ List.replicate 64 (Value.int .u8 0) ++ [Value.int .i64 0] ++ List.replicate 96 (Value.int .u8 0) ++ [Value.slice none 0 0]) ++ ([Value.slice none 0 0])))).length = 265 := by simp
  refine kl_ow rfl (ow_store (b := b) (o := 0) I28 S28 rfl (v := .int .u16 (x0 : Int)) (xs := [Value.int .u16 (x0 : Int)]) rfl hb rfl rfl (by have hl0 : ([Value.int .u16 (x0 : Int)] : List Value).length = 1 := rfl; rw [hl0]; exact Nat.le_trans (by decide) (Nat.le_of_eq hLen.symm)) (One'.single rfl) (fun w2 hb2 hf2 hz2 => ?_))
  replace hb := bx_eq hb2 (sp_here rfl)
  clear hb2 hLen
  replace hF := hF.trans' hf2 (fun i hi e => absurd e (by omega))
  replace h := h.keep hf2 (fun e => hbp e.symm) (fun i hi => by have := h.old i hi; omega)
  have hs1 := hf2.size
  replace hs0 := Nat.le_trans hs0 hs1
  refine kl_nil ?_
  refine x_seq ?_
  refine k_seq ?_
  refine k_region ?_
  refine kl_val (y_move) rfl rfl rfl ?_
  refine kl_ow rfl (ow_call1 fn86 rfl rfl rfl (list_r h) (kret_retP (fun u1 w1 ⟨x1, rest1, v1, hq1, hR1, hf, hu1⟩ => ?_) (fun c w' ⟨e, he, hc, hf⟩ => ⟨rfl, .inr ⟨c, rfl, e, by simp only [pRsp, pBind_ok hq0, pBind_err he], hc, hF.trans hf⟩⟩)))
  obtain ⟨cs1, rfl, hS1⟩ := hu1
  have hs1 := hf.size
  have hl1 := hS1.length
  replace hS1 := hS1.mono (nw_up hs0)
  replace hs0 := Nat.le_trans hs0 hs1
  replace hF := hF.trans hf
  replace hb := hb.keep hf hbp
  replace h := hR1
  refine kl_val (y_fieldAddr Try.underlying61 rfl I47 S47 rfl rfl) rfl rfl rfl ?_
  have hLen : ([Value.int .u16 (x0 : Int)] ++ (([Value.int .i64 0, Value.int .i64 0] ++ List.replicate 32 (Value.int .u8 0) ++ [Value.slice none 0 0] ++ List.replicate 64 (Value.int .u8 0)) ++ (([Value.int .i64 0, Value.int .i64 0] ++ List.replicate 64 (Value.int .u8 0) ++ [Value.int .i64 0] ++ List.replicate 96 (Value.int .u8 0) ++ [Value.slice none 0 0]) ++ ([Value.slice none 0 0])))).length = 265 := by simp
  refine kl_ow rfl (ow_store (b := b) (o := 1) I47 S47 rfl (v := .agg cs1.toArray) (xs := cs1) rfl hb rfl hl1 (by have hl0 : (cs1 : List Value).length = 99 := hl1; rw [hl0]; exact Nat.le_trans (by decide) (Nat.le_of_eq hLen.symm)) hS1.one (fun w2 hb2 hf2 hz2 => ?_))
  replace hb := bx_eq hb2 (sp_next (a := 1) (o := 0) rfl (sp_here (by rw [hl1]; rfl)))
  clear hb2 hLen
  replace hF := hF.trans' hf2 (fun i hi e => absurd e (by omega))
  replace h := h.keep hf2 (fun e => hbp e.symm) (fun i hi => by have := h.old i hi; omega)
  have hs1 := hf2.size
  replace hs0 := Nat.le_trans hs0 hs1
  replace hS1 := (hS1.keep hf2 (fun i hi => hNb i hi.1)).mono (nw_le hf2)
  refine kl_nil ?_
  refine x_seq ?_
  refine k_seq ?_
  refine k_region ?_
  refine kl_val (y_move) rfl rfl rfl ?_
  refine kl_ow rfl (ow_call1 fn123 rfl rfl rfl (bundle_r h) (kret_retP (fun u2 w1 ⟨x2, rest2, v2, hq2, hR2, hf, hu2⟩ => ?_) (fun c w' ⟨e, he, hc, hf⟩ => ⟨rfl, .inr ⟨c, rfl, e, by simp only [pRsp, pBind_ok hq0, pBind_ok hq1, pBind_err he], hc, hF.trans hf⟩⟩)))
  obtain ⟨cs2, rfl, hS2⟩ := hu2
  have hs1 := hf.size
  have hl2 := hS2.length
  replace hS2 := hS2.mono (nw_up hs0)
  replace hs0 := Nat.le_trans hs0 hs1
  replace hF := hF.trans hf
  replace hb := hb.keep hf hbp
  replace hS1 := (hS1.keep hf (fun i hi => hNp i hi.1)).mono (nw_le hf)
  replace h := hR2
  refine kl_val (y_fieldAddr Try.underlying61 rfl I58 S58 rfl rfl) rfl rfl rfl ?_
  have hLen : ([Value.int .u16 (x0 : Int)] ++ (cs1 ++ (([Value.int .i64 0, Value.int .i64 0] ++ List.replicate 64 (Value.int .u8 0) ++ [Value.int .i64 0] ++ List.replicate 96 (Value.int .u8 0) ++ [Value.slice none 0 0]) ++ ([Value.slice none 0 0])))).length = 265 := by simp [hl1]
  refine kl_ow rfl (ow_store (b := b) (o := 100) I58 S58 rfl (v := .agg cs2.toArray) (xs := cs2) rfl hb rfl hl2 (by have hl0 : (cs2 : List Value).length = 164 := hl2; rw [hl0]; exact Nat.le_trans (by decide) (Nat.le_of_eq hLen.symm)) hS2.one (fun w2 hb2 hf2 hz2 => ?_))
  replace hb := bx_eq hb2 (sp_next (a := 1) (o := 99) rfl (sp_next (a := 99) (o := 0) hl1 (sp_here (by rw [hl2]; rfl))))
  clear hb2 hLen
  replace hF := hF.trans' hf2 (fun i hi e => absurd e (by omega))
  replace h := h.keep hf2 (fun e => hbp e.symm) (fun i hi => by have := h.old i hi; omega)
  have hs1 := hf2.size
  replace hs0 := Nat.le_trans hs0 hs1
  replace hS1 := (hS1.keep hf2 (fun i hi => hNb i hi.1)).mono (nw_le hf2)
  replace hS2 := (hS2.keep hf2 (fun i hi => hNb i hi.1)).mono (nw_le hf2)
  refine kl_nil ?_
  refine x_seq ?_
  refine k_seq ?_
  refine k_region ?_
  refine kl_val (y_move) rfl rfl rfl ?_
  refine kl_ow rfl (ow_call2 fn124 rfl rfl rfl rfl (all_Envelope_r h) (kret_retP (fun u3 w1 ⟨x3, rest3, v3, hq3, hR3, hf, hu3⟩ => ?_) (fun c w' ⟨e, he, hc, hf⟩ => ⟨rfl, .inr ⟨c, rfl, e, by simp only [pRsp, pBind_ok hq0, pBind_ok hq1, pBind_ok hq2, pBind_err he], hc, hF.trans hf⟩⟩)))
  have hs1 := hf.size
  replace hu3 := hu3.mono (nw_up hs0) (fun _ _ h => h.mono (nw_up hs0))
  replace hs0 := Nat.le_trans hs0 hs1
  replace hF := hF.trans hf
  replace hb := hb.keep hf hbp
  replace hS1 := (hS1.keep hf (fun i hi => hNp i hi.1)).mono (nw_le hf)
  replace hS2 := (hS2.keep hf (fun i hi => hNp i hi.1)).mono (nw_le hf)
  replace h := hR3
  refine kl_val (y_fieldAddr Try.underlying61 rfl I59 S59 rfl rfl) rfl rfl rfl ?_
  have hLen : ([Value.int .u16 (x0 : Int)] ++ (cs1 ++ (cs2 ++ ([Value.slice none 0 0])))).length = 265 := by simp [hl1, hl2]
  refine kl_ow rfl (ow_store (b := b) (o := 264) I59 S59 rfl (v := u3) (xs := [u3]) rfl hb hu3.one.2 rfl (by have hl0 : ([u3] : List Value).length = 1 := rfl; rw [hl0]; exact Nat.le_trans (by decide) (Nat.le_of_eq hLen.symm)) (One'.single hu3.one.1) (fun w2 hb2 hf2 hz2 => ?_))
  replace hb := bx_eq hb2 (sp_next (a := 1) (o := 263) rfl (sp_next (a := 99) (o := 164) hl1 (sp_next (a := 164) (o := 0) hl2 (sp_last rfl))))
  clear hb2 hLen
  replace hF := hF.trans' hf2 (fun i hi e => absurd e (by omega))
  replace h := h.keep hf2 (fun e => hbp e.symm) (fun i hi => by have := h.old i hi; omega)
  have hs1 := hf2.size
  replace hs0 := Nat.le_trans hs0 hs1
  replace hS1 := (hS1.keep hf2 (fun i hi => hNb i hi.1)).mono (nw_le hf2)
  replace hS2 := (hS2.keep hf2 (fun i hi => hNb i hi.1)).mono (nw_le hf2)
  replace hu3 := (hu3.keep hf2 (fun i hi => hNb i hi.1) (fun _ _ h => h.keep hf2 (fun i hi => hNb i hi.1))).mono (nw_le hf2) (fun _ _ h => h.mono (nw_le hf2))
  refine kl_nil ?_
  refine x_seq ?_
  refine k_seq ?_
  refine k_region ?_
  refine kl_val (y_load rfl (ld_aggB Try.underlying61 rfl I61 S61 (by simp [hl1, hl2]) hb.cs)) rfl rfl rfl ?_
  refine kl_ow rfl (ow_store (b := b) (o := 0) (xs := [Value.int .u16 (x0 : Int)] ++ (cs1 ++ (cs2 ++ ([u3])))) I61 S61 rfl (v := .agg ([Value.int .u16 (x0 : Int)] ++ (cs1 ++ (cs2 ++ ([u3])))).toArray) rfl hb rfl (by simp [hl1, hl2]) (by omega) (((One'.single rfl)).append ((hS1.one).append ((hS2.one).append (One'.single hu3.one.1)))) (fun w3 hb3 hf3 hz3 => ?_))
  replace hb := bx_eq hb3 (splice_all rfl)
  replace hF := hF.trans' hf3 (fun i hi e => absurd e (by omega))
  replace h := h.keep hf3 (fun e => hbp e.symm) (fun i hi => by have := h.old i hi; omega)
  replace hS1 := (hS1.keep hf3 (fun i hi => hNb i hi.1)).mono (nw_le hf3)
  replace hS2 := (hS2.keep hf3 (fun i hi => hNb i hi.1)).mono (nw_le hf3)
  replace hu3 := (hu3.keep hf3 (fun i hi => hNb i hi.1) (fun _ _ h => h.keep hf3 (fun i hi => hNb i hi.1))).mono (nw_le hf3) (fun _ _ h => h.mono (nw_le hf3))
  refine kl_nil ?_
  refine x_seq ?_
  refine k_ret ?_
  exact k_retC rfl rfl (ld_aggB Try.underlying61 rfl I61 S61 (by simp [hl1, hl2]) hb.cs) (.inl ⟨_, rfl, ⟨x0, x1, x2, x3⟩, rest3, v3, by simp only [pRsp, pBind_ok hq0, pBind_ok hq1, pBind_ok hq2, pBind_ok hq3, pPure], h, hF, _, rfl, ⟨by show x0 < 65536; omega, _, _, _, (hS1.mono (nw_up hf0.size)), (hS2.mono (nw_up hf0.size)), (hu3.mono (nw_up hf0.size) (fun _ _ h => h.mono (nw_up hf0.size))), rfl⟩⟩)

set_option maxRecDepth 100000 in
set_option maxHeartbeats 1000000 in
theorem account_r {p : Addr} {v : Value} {bs : List UInt8} {B : Nat → Prop} {w : World} (h : Rd w B p v bs) :
    ReadC Try.prog 88 #[.pointer (some p)] w B p (pAcct bs) (fun w' u x => ∃ cs, u = .agg cs.toArray ∧ AcctR w' (Nw w w') cs x) := by
  refine k_enter1 Try.func88 rfl Try.ntmps88 rfl ?_
  refine k_seq ?_
  refine k_region ?_
  refine kl_ow rfl (ow_alloc I72 Z72 rfl (fun w0 b hb0 hf0 he0 hz0 => ?_))
  have hlt := h.lt
  replace h := h.ext hf0
  have hF : Fr (· = p.block) w w0 := hf0.fr
  have hb : Bx w0 b _ ([Value.int .i64 0] ++ ([Value.string ByteArray.empty] ++ ([Value.int .i64 0] ++ ([Value.int .i64 0] ++ (([Value.int .i64 0, Value.int .i64 0] ++ List.replicate 32 (Value.int .u8 0) ++ [Value.slice none 0 0] ++ List.replicate 64 (Value.int .u8 0)) ++ ([Value.slice none 0 0] ++ ([Value.slice none 0 0]))))))) := bx_eq hb0 rfl
  clear hb0
  have hNp : ∀ i, w0.heap.size ≤ i → ¬ i = p.block := fun i hi => by omega
  have hNb : ∀ i, w0.heap.size ≤ i → ¬ i = b := fun i hi => by omega
  have hbw : w.heap.size ≤ b := by omega
  have hbp : ¬ b = p.block := by omega
  have hs0 := Nat.le_refl w0.heap.size
  refine kl_nil ?_
  refine x_seq ?_
  refine k_seq ?_
  refine k_region ?_
  refine kl_val (y_move) rfl rfl rfl ?_
  refine kl_ow rfl (ow_call1 fn102 rfl rfl rfl (number_r h) (kret_retP (fun u0 w1 ⟨x0, rest0, v0, hq0, hR0, hf, hu0⟩ => ?_) (fun c w' ⟨e, he, hc, hf⟩ => ⟨rfl, .inr ⟨c, rfl, e, by simp only [pAcct, pBind_err he], hc, hF.trans hf⟩⟩)))
  obtain ⟨rfl, hx0⟩ := hu0
  have hs1 := hf.size
  replace hs0 := Nat.le_trans hs0 hs1
  replace hF := hF.trans hf
  replace hb := hb.keep hf hbp
  replace h := hR0
  refine kl_val (y_fieldAddr Try.underlying72 rfl I3 S3 rfl rfl) rfl rfl rfl ?_
  have hLen : ([Value.int .i64 0] ++ ([Value.string ByteArray.empty] ++ ([Value.int .i64 0] ++ ([Value.int .i64 0] ++ (([Value.int .i64 0, Value.int .i64 0] ++ List.replicate 32 (Value.int .u8 0) ++ [Value.slice none 0 0] ++ List.replicate 64 (Value.int .u8 0)) ++ ([Value.slice none 0 0] ++ ([Value.slice none 0 0]))))))).length = 105 := by simp
  refine kl_ow rfl (ow_store (b := b) (o := 0) I3 S3 rfl (v := .int .i64 (x0 : Int)) (xs := [i64 (x0 : Int)]) rfl hb rfl rfl (by have hl0 : ([i64 (x0 : Int)] : List Value).length = 1 := rfl; rw [hl0]; exact Nat.le_trans (by decide) (Nat.le_of_eq hLen.symm)) (One'.single rfl) (fun w2 hb2 hf2 hz2 => ?_))
  replace hb := bx_eq hb2 (sp_here rfl)
  clear hb2 hLen
  replace hF := hF.trans' hf2 (fun i hi e => absurd e (by omega))
  replace h := h.keep hf2 (fun e => hbp e.symm) (fun i hi => by have := h.old i hi; omega)
  have hs1 := hf2.size
  replace hs0 := Nat.le_trans hs0 hs1
  refine kl_nil ?_
  refine x_seq ?_
  refine k_seq ?_
  refine k_region ?_
  refine kl_val (y_move) rfl rfl rfl ?_
  refine kl_ow rfl (ow_call1 fn101 rfl rfl rfl (text_r h) (kret_retP (fun u1 w1 ⟨x1, rest1, v1, hq1, hR1, hf, hu1⟩ => ?_) (fun c w' ⟨e, he, hc, hf⟩ => ⟨rfl, .inr ⟨c, rfl, e, by simp only [pAcct, pBind_ok hq0, pBind_err he], hc, hF.trans hf⟩⟩)))
  subst hu1
  have hs1 := hf.size
  replace hs0 := Nat.le_trans hs0 hs1
  replace hF := hF.trans hf
  replace hb := hb.keep hf hbp
  replace h := hR1
  refine kl_val (y_fieldAddr Try.underlying72 rfl I9 S9 rfl rfl) rfl rfl rfl ?_
  have hLen : ([i64 (x0 : Int)] ++ ([Value.string ByteArray.empty] ++ ([Value.int .i64 0] ++ ([Value.int .i64 0] ++ (([Value.int .i64 0, Value.int .i64 0] ++ List.replicate 32 (Value.int .u8 0) ++ [Value.slice none 0 0] ++ List.replicate 64 (Value.int .u8 0)) ++ ([Value.slice none 0 0] ++ ([Value.slice none 0 0]))))))).length = 105 := by simp
  refine kl_ow rfl (ow_store (b := b) (o := 1) I9 S9 rfl (v := .string ⟨x1.toArray⟩) (xs := [Value.string ⟨x1.toArray⟩]) rfl hb rfl rfl (by have hl0 : ([Value.string ⟨x1.toArray⟩] : List Value).length = 1 := rfl; rw [hl0]; exact Nat.le_trans (by decide) (Nat.le_of_eq hLen.symm)) (One'.single rfl) (fun w2 hb2 hf2 hz2 => ?_))
  replace hb := bx_eq hb2 (sp_next (a := 1) (o := 0) rfl (sp_here rfl))
  clear hb2 hLen
  replace hF := hF.trans' hf2 (fun i hi e => absurd e (by omega))
  replace h := h.keep hf2 (fun e => hbp e.symm) (fun i hi => by have := h.old i hi; omega)
  have hs1 := hf2.size
  replace hs0 := Nat.le_trans hs0 hs1
  refine kl_nil ?_
  refine x_seq ?_
  refine k_seq ?_
  refine k_region ?_
  refine kl_val (y_move) rfl rfl rfl ?_
  refine kl_ow rfl (ow_call1 fn102 rfl rfl rfl (number_r h) (kret_retP (fun u2 w1 ⟨x2, rest2, v2, hq2, hR2, hf, hu2⟩ => ?_) (fun c w' ⟨e, he, hc, hf⟩ => ⟨rfl, .inr ⟨c, rfl, e, by simp only [pAcct, pBind_ok hq0, pBind_ok hq1, pBind_err he], hc, hF.trans hf⟩⟩)))
  obtain ⟨rfl, hx2⟩ := hu2
  have hs1 := hf.size
  replace hs0 := Nat.le_trans hs0 hs1
  replace hF := hF.trans hf
  replace hb := hb.keep hf hbp
  replace h := hR2
  refine kl_val (y_fieldAddr Try.underlying72 rfl I3 S3 rfl rfl) rfl rfl rfl ?_
  have hLen : ([i64 (x0 : Int)] ++ ([Value.string ⟨x1.toArray⟩] ++ ([Value.int .i64 0] ++ ([Value.int .i64 0] ++ (([Value.int .i64 0, Value.int .i64 0] ++ List.replicate 32 (Value.int .u8 0) ++ [Value.slice none 0 0] ++ List.replicate 64 (Value.int .u8 0)) ++ ([Value.slice none 0 0] ++ ([Value.slice none 0 0]))))))).length = 105 := by simp
  refine kl_ow rfl (ow_store (b := b) (o := 2) I3 S3 rfl (v := .int .i64 (x2 : Int)) (xs := [i64 (x2 : Int)]) rfl hb rfl rfl (by have hl0 : ([i64 (x2 : Int)] : List Value).length = 1 := rfl; rw [hl0]; exact Nat.le_trans (by decide) (Nat.le_of_eq hLen.symm)) (One'.single rfl) (fun w2 hb2 hf2 hz2 => ?_))
  replace hb := bx_eq hb2 (sp_next (a := 1) (o := 1) rfl (sp_next (a := 1) (o := 0) rfl (sp_here rfl)))
  clear hb2 hLen
  replace hF := hF.trans' hf2 (fun i hi e => absurd e (by omega))
  replace h := h.keep hf2 (fun e => hbp e.symm) (fun i hi => by have := h.old i hi; omega)
  have hs1 := hf2.size
  replace hs0 := Nat.le_trans hs0 hs1
  refine kl_nil ?_
  refine x_seq ?_
  refine k_seq ?_
  refine k_region ?_
  refine kl_val (y_move) rfl rfl rfl ?_
  refine kl_ow rfl (ow_call1 fn102 rfl rfl rfl (number_r h) (kret_retP (fun u3 w1 ⟨x3, rest3, v3, hq3, hR3, hf, hu3⟩ => ?_) (fun c w' ⟨e, he, hc, hf⟩ => ⟨rfl, .inr ⟨c, rfl, e, by simp only [pAcct, pBind_ok hq0, pBind_ok hq1, pBind_ok hq2, pBind_err he], hc, hF.trans hf⟩⟩)))
  obtain ⟨rfl, hx3⟩ := hu3
  have hs1 := hf.size
  replace hs0 := Nat.le_trans hs0 hs1
  replace hF := hF.trans hf
  replace hb := hb.keep hf hbp
  replace h := hR3
  refine kl_val (y_fieldAddr Try.underlying72 rfl I3 S3 rfl rfl) rfl rfl rfl ?_
  have hLen : ([i64 (x0 : Int)] ++ ([Value.string ⟨x1.toArray⟩] ++ ([i64 (x2 : Int)] ++ ([Value.int .i64 0] ++ (([Value.int .i64 0, Value.int .i64 0] ++ List.replicate 32 (Value.int .u8 0) ++ [Value.slice none 0 0] ++ List.replicate 64 (Value.int .u8 0)) ++ ([Value.slice none 0 0] ++ ([Value.slice none 0 0]))))))).length = 105 := by simp
  refine kl_ow rfl (ow_store (b := b) (o := 3) I3 S3 rfl (v := .int .i64 (x3 : Int)) (xs := [i64 (x3 : Int)]) rfl hb rfl rfl (by have hl0 : ([i64 (x3 : Int)] : List Value).length = 1 := rfl; rw [hl0]; exact Nat.le_trans (by decide) (Nat.le_of_eq hLen.symm)) (One'.single rfl) (fun w2 hb2 hf2 hz2 => ?_))
  replace hb := bx_eq hb2 (sp_next (a := 1) (o := 2) rfl (sp_next (a := 1) (o := 1) rfl (sp_next (a := 1) (o := 0) rfl (sp_here rfl))))
  clear hb2 hLen
  replace hF := hF.trans' hf2 (fun i hi e => absurd e (by omega))
  replace h := h.keep hf2 (fun e => hbp e.symm) (fun i hi => by have := h.old i hi; omega)
  have hs1 := hf2.size
  replace hs0 := Nat.le_trans hs0 hs1
  refine kl_nil ?_
  refine x_seq ?_
  refine k_seq ?_
  refine k_region ?_
  refine kl_val (y_move) rfl rfl rfl ?_
  refine kl_ow rfl (ow_call1 fn86 rfl rfl rfl (list_r h) (kret_retP (fun u4 w1 ⟨x4, rest4, v4, hq4, hR4, hf, hu4⟩ => ?_) (fun c w' ⟨e, he, hc, hf⟩ => ⟨rfl, .inr ⟨c, rfl, e, by simp only [pAcct, pBind_ok hq0, pBind_ok hq1, pBind_ok hq2, pBind_ok hq3, pBind_err he], hc, hF.trans hf⟩⟩)))
  obtain ⟨cs4, rfl, hS4⟩ := hu4
  have hs1 := hf.size
  have hl4 := hS4.length
  replace hS4 := hS4.mono (nw_up hs0)
  replace hs0 := Nat.le_trans hs0 hs1
  replace hF := hF.trans hf
  replace hb := hb.keep hf hbp
  replace h := hR4
  refine kl_val (y_fieldAddr Try.underlying72 rfl I47 S47 rfl rfl) rfl rfl rfl ?_
  have hLen : ([i64 (x0 : Int)] ++ ([Value.string ⟨x1.toArray⟩] ++ ([i64 (x2 : Int)] ++ ([i64 (x3 : Int)] ++ (([Value.int .i64 0, Value.int .i64 0] ++ List.replicate 32 (Value.int .u8 0) ++ [Value.slice none 0 0] ++ List.replicate 64 (Value.int .u8 0)) ++ ([Value.slice none 0 0] ++ ([Value.slice none 0 0]))))))).length = 105 := by simp
  refine kl_ow rfl (ow_store (b := b) (o := 4) I47 S47 rfl (v := .agg cs4.toArray) (xs := cs4) rfl hb rfl hl4 (by have hl0 : (cs4 : List Value).length = 99 := hl4; rw [hl0]; exact Nat.le_trans (by decide) (Nat.le_of_eq hLen.symm)) hS4.one (fun w2 hb2 hf2 hz2 => ?_))
  replace hb := bx_eq hb2 (sp_next (a := 1) (o := 3) rfl (sp_next (a := 1) (o := 2) rfl (sp_next (a := 1) (o := 1) rfl (sp_next (a := 1) (o := 0) rfl (sp_here (by rw [hl4]; rfl))))))
  clear hb2 hLen
  replace hF := hF.trans' hf2 (fun i hi e => absurd e (by omega))
  replace h := h.keep hf2 (fun e => hbp e.symm) (fun i hi => by have := h.old i hi; omega)
  have hs1 := hf2.size
  replace hs0 := Nat.le_trans hs0 hs1
  replace hS4 := (hS4.keep hf2 (fun i hi => hNb i hi.1)).mono (nw_le hf2)
  refine kl_nil ?_
  refine x_seq ?_
  refine k_seq ?_
  refine k_region ?_
  refine kl_val (y_move) rfl rfl rfl ?_
  refine kl_ow rfl (ow_call2 fn117 rfl rfl rfl rfl (all_Slot_r h) (kret_retP (fun u5 w1 ⟨x5, rest5, v5, hq5, hR5, hf, hu5⟩ => ?_) (fun c w' ⟨e, he, hc, hf⟩ => ⟨rfl, .inr ⟨c, rfl, e, by simp only [pAcct, pBind_ok hq0, pBind_ok hq1, pBind_ok hq2, pBind_ok hq3, pBind_ok hq4, pBind_err he], hc, hF.trans hf⟩⟩)))
  have hs1 := hf.size
  replace hu5 := hu5.mono (nw_up hs0) (fun _ _ h => h.mono (nw_up hs0))
  replace hs0 := Nat.le_trans hs0 hs1
  replace hF := hF.trans hf
  replace hb := hb.keep hf hbp
  replace hS4 := (hS4.keep hf (fun i hi => hNp i hi.1)).mono (nw_le hf)
  replace h := hR5
  refine kl_val (y_fieldAddr Try.underlying72 rfl I69 S69 rfl rfl) rfl rfl rfl ?_
  have hLen : ([i64 (x0 : Int)] ++ ([Value.string ⟨x1.toArray⟩] ++ ([i64 (x2 : Int)] ++ ([i64 (x3 : Int)] ++ (cs4 ++ ([Value.slice none 0 0] ++ ([Value.slice none 0 0]))))))).length = 105 := by simp [hl4]
  refine kl_ow rfl (ow_store (b := b) (o := 103) I69 S69 rfl (v := u5) (xs := [u5]) rfl hb hu5.one.2 rfl (by have hl0 : ([u5] : List Value).length = 1 := rfl; rw [hl0]; exact Nat.le_trans (by decide) (Nat.le_of_eq hLen.symm)) (One'.single hu5.one.1) (fun w2 hb2 hf2 hz2 => ?_))
  replace hb := bx_eq hb2 (sp_next (a := 1) (o := 102) rfl (sp_next (a := 1) (o := 101) rfl (sp_next (a := 1) (o := 100) rfl (sp_next (a := 1) (o := 99) rfl (sp_next (a := 99) (o := 0) hl4 (sp_here rfl))))))
  clear hb2 hLen
  replace hF := hF.trans' hf2 (fun i hi e => absurd e (by omega))
  replace h := h.keep hf2 (fun e => hbp e.symm) (fun i hi => by have := h.old i hi; omega)
  have hs1 := hf2.size
  replace hs0 := Nat.le_trans hs0 hs1
  replace hS4 := (hS4.keep hf2 (fun i hi => hNb i hi.1)).mono (nw_le hf2)
  replace hu5 := (hu5.keep hf2 (fun i hi => hNb i hi.1) (fun _ _ h => h.keep hf2 (fun i hi => hNb i hi.1))).mono (nw_le hf2) (fun _ _ h => h.mono (nw_le hf2))
  refine kl_nil ?_
  refine x_seq ?_
  refine k_seq ?_
  refine k_region ?_
  refine kl_val (y_move) rfl rfl rfl ?_
  refine kl_ow rfl (ow_call2 fn119 rfl rfl rfl rfl (all_Key_r h) (kret_retP (fun u6 w1 ⟨x6, rest6, v6, hq6, hR6, hf, hu6⟩ => ?_) (fun c w' ⟨e, he, hc, hf⟩ => ⟨rfl, .inr ⟨c, rfl, e, by simp only [pAcct, pBind_ok hq0, pBind_ok hq1, pBind_ok hq2, pBind_ok hq3, pBind_ok hq4, pBind_ok hq5, pBind_err he], hc, hF.trans hf⟩⟩)))
  have hs1 := hf.size
  replace hu6 := hu6.mono (nw_up hs0) (fun _ _ h => h.keep _ _)
  replace hs0 := Nat.le_trans hs0 hs1
  replace hF := hF.trans hf
  replace hb := hb.keep hf hbp
  replace hS4 := (hS4.keep hf (fun i hi => hNp i hi.1)).mono (nw_le hf)
  replace hu5 := (hu5.keep hf (fun i hi => hNp i hi.1) (fun _ _ h => h.keep hf (fun i hi => hNp i hi.1))).mono (nw_le hf) (fun _ _ h => h.mono (nw_le hf))
  replace h := hR6
  refine kl_val (y_fieldAddr Try.underlying72 rfl I70 S70 rfl rfl) rfl rfl rfl ?_
  have hLen : ([i64 (x0 : Int)] ++ ([Value.string ⟨x1.toArray⟩] ++ ([i64 (x2 : Int)] ++ ([i64 (x3 : Int)] ++ (cs4 ++ ([u5] ++ ([Value.slice none 0 0]))))))).length = 105 := by simp [hl4]
  refine kl_ow rfl (ow_store (b := b) (o := 104) I70 S70 rfl (v := u6) (xs := [u6]) rfl hb hu6.one.2 rfl (by have hl0 : ([u6] : List Value).length = 1 := rfl; rw [hl0]; exact Nat.le_trans (by decide) (Nat.le_of_eq hLen.symm)) (One'.single hu6.one.1) (fun w2 hb2 hf2 hz2 => ?_))
  replace hb := bx_eq hb2 (sp_next (a := 1) (o := 103) rfl (sp_next (a := 1) (o := 102) rfl (sp_next (a := 1) (o := 101) rfl (sp_next (a := 1) (o := 100) rfl (sp_next (a := 99) (o := 1) hl4 (sp_next (a := 1) (o := 0) rfl (sp_last rfl)))))))
  clear hb2 hLen
  replace hF := hF.trans' hf2 (fun i hi e => absurd e (by omega))
  replace h := h.keep hf2 (fun e => hbp e.symm) (fun i hi => by have := h.old i hi; omega)
  have hs1 := hf2.size
  replace hs0 := Nat.le_trans hs0 hs1
  replace hS4 := (hS4.keep hf2 (fun i hi => hNb i hi.1)).mono (nw_le hf2)
  replace hu5 := (hu5.keep hf2 (fun i hi => hNb i hi.1) (fun _ _ h => h.keep hf2 (fun i hi => hNb i hi.1))).mono (nw_le hf2) (fun _ _ h => h.mono (nw_le hf2))
  replace hu6 := (hu6.keep hf2 (fun i hi => hNb i hi.1) (fun _ _ h => h.keep _ _)).mono (nw_le hf2) (fun _ _ h => h.keep _ _)
  refine kl_nil ?_
  refine x_seq ?_
  refine k_seq ?_
  refine k_region ?_
  refine kl_val (y_load rfl (ld_aggB Try.underlying72 rfl I72 S72 (by simp [hl4]) hb.cs)) rfl rfl rfl ?_
  refine kl_ow rfl (ow_store (b := b) (o := 0) (xs := [i64 (x0 : Int)] ++ ([Value.string ⟨x1.toArray⟩] ++ ([i64 (x2 : Int)] ++ ([i64 (x3 : Int)] ++ (cs4 ++ ([u5] ++ ([u6]))))))) I72 S72 rfl (v := .agg ([i64 (x0 : Int)] ++ ([Value.string ⟨x1.toArray⟩] ++ ([i64 (x2 : Int)] ++ ([i64 (x3 : Int)] ++ (cs4 ++ ([u5] ++ ([u6]))))))).toArray) rfl hb rfl (by simp [hl4]) (by omega) (((One'.single rfl)).append (((One'.single rfl)).append (((One'.single rfl)).append (((One'.single rfl)).append ((hS4.one).append ((One'.single hu5.one.1).append (One'.single hu6.one.1))))))) (fun w3 hb3 hf3 hz3 => ?_))
  replace hb := bx_eq hb3 (splice_all rfl)
  replace hF := hF.trans' hf3 (fun i hi e => absurd e (by omega))
  replace h := h.keep hf3 (fun e => hbp e.symm) (fun i hi => by have := h.old i hi; omega)
  replace hS4 := (hS4.keep hf3 (fun i hi => hNb i hi.1)).mono (nw_le hf3)
  replace hu5 := (hu5.keep hf3 (fun i hi => hNb i hi.1) (fun _ _ h => h.keep hf3 (fun i hi => hNb i hi.1))).mono (nw_le hf3) (fun _ _ h => h.mono (nw_le hf3))
  replace hu6 := (hu6.keep hf3 (fun i hi => hNb i hi.1) (fun _ _ h => h.keep _ _)).mono (nw_le hf3) (fun _ _ h => h.keep _ _)
  refine kl_nil ?_
  refine x_seq ?_
  refine k_ret ?_
  exact k_retC rfl rfl (ld_aggB Try.underlying72 rfl I72 S72 (by simp [hl4]) hb.cs) (.inl ⟨_, rfl, ⟨(x0 : Int), bytesOf x1, (x2 : Int), (x3 : Int), x4, x5, x6⟩, rest6, v6, by simp only [pAcct, pBind_ok hq0, pBind_ok hq1, pBind_ok hq2, pBind_ok hq3, pBind_ok hq4, pBind_ok hq5, pBind_ok hq6, pPure], h, hF, _, rfl, ⟨_, _, _, (hS4.mono (nw_up hf0.size)), (hu5.mono (nw_up hf0.size) (fun _ _ h => h.mono (nw_up hf0.size))), (hu6.mono (nw_up hf0.size) (fun _ _ h => h.keep _ _)), rfl⟩⟩)

end Go.Proofs.Ythpocekigliomaa.K
