/- The reader of numbers, texts, truths. Condition: a reader stands at p. -/
import Derived.Test.YthpocekigliomaaKP
namespace Go.Proofs.Ythpocekigliomaa.K
open Go

set_option maxRecDepth 100000 in
set_option maxHeartbeats 1000000 in
theorem fail_p (e : Nat) {w : World} :
    RetP Try.prog 99 #[.int .u16 (e : Int)] w (fun _ _ => False) (fun c w' => c = wrong e ∧ w' = w) := by
  refine k_enter1 Try.func99 rfl Try.ntmps99 rfl ?_
  refine k_region ?_
  refine kl_val (y_move) rfl rfl rfl ?_
  refine kl_val (y_build (cells := #[.int .u16 (e : Int)]) rfl (by kernel_rfl)) rfl rfl rfl ?_
  refine kl_val (y_iface Try.underlying172 rfl rfl) rfl rfl rfl ?_
  refine kl_ow rfl (ow_panic (t := 172) rfl ⟨rfl, .inr ⟨_, rfl, rfl, rfl⟩⟩)

set_option maxRecDepth 100000 in
set_option maxHeartbeats 1000000 in
theorem take_r {p : Addr} {v : Value} {bs : List UInt8} {B : Nat → Prop} {w : World} {n : Nat} (h : Rd w B p v bs) (hn : n ≤ 60000) :
    ReadC Try.prog 125 #[.pointer (some p), .int .i64 (n : Int)] w B p (pTake n bs) (fun w' u x => SlR w' B u 1 x.length (bvs x)) := by
  refine k_enter2 Try.func125 rfl Try.ntmps125 rfl ?_
  obtain ⟨a, cap, rfl⟩ := h.sl.form
  have hlen := h.len
  refine k_seq ?_
  refine k_region ?_
  refine kl_val (y_assign) rfl rfl rfl ?_
  refine kl_nil ?_
  refine x_seq ?_
  refine k_seq ?_
  refine k_seq ?_
  refine k_region ?_
  refine kl_val (y_move) rfl rfl rfl ?_
  refine kl_val (y_nil rfl) rfl rfl rfl ?_
  refine kl_val (y_fieldAddr Try.underlying173 rfl I22 S22 rfl rfl) rfl rfl rfl ?_
  refine kl_val (y_load rfl (ld_one Try.underlying22 rfl h.cell)) rfl rfl rfl ?_
  refine kl_val (y_lenS Try.underlying22 rfl) rfl rfl rfl ?_
  refine kl_val (y_move) rfl rfl rfl ?_
  refine kl_val (y_lss rfl rfl) rfl rfl rfl ?_
  refine kl_nil ?_
  refine x_seq ?_
  refine k_condp rfl (fun hlt => ?_) (fun hlt => ?_)
  · skip
    refine k_region ?_
    exact kl_ow rfl (ow_call1 fn99 rfl rfl rfl (fail_p 10) (kret_retP (fun _ _ h => h.elim) (fun c w' hc => ⟨rfl, .inr ⟨c, rfl, 10, (by unfold pTake; rw [if_pos (by omega)]), hc.1, by rw [hc.2]; exact Fr.refl _ _⟩⟩)))
  · skip
    have hle : n ≤ bs.length := by omega
    obtain ⟨hcap, hst⟩ := h.sl.take n hle
    have hsd := h.sl.drop n hle
    obtain ⟨hR, hFr⟩ := h.set hsd (by simp)
    refine k_skip ?_
    refine x_seq ?_
    refine k_seq ?_
    refine k_region ?_
    refine kl_val (y_move) rfl rfl rfl ?_
    refine kl_val (y_nil rfl) rfl rfl rfl ?_
    refine kl_val (y_fieldAddr Try.underlying173 rfl I22 S22 rfl rfl) rfl rfl rfl ?_
    refine kl_val (y_load rfl (ld_one Try.underlying22 rfl h.cell)) rfl rfl rfl ?_
    refine kl_val (y_move) rfl rfl rfl ?_
    refine kl_val (Y.cast (v' := .slice a n cap) (y_sliceHi Try.underlying22 I5 rfl rfl (by omega) (by omega)) (by simp)) rfl rfl rfl ?_
    refine kl_val (y_assign) rfl rfl rfl ?_
    refine kl_nil ?_
    refine x_seq ?_
    refine k_seq ?_
    refine k_region ?_
    refine kl_val (y_move) rfl rfl rfl ?_
    refine kl_val (y_move) rfl rfl rfl ?_
    refine kl_val (y_nil rfl) rfl rfl rfl ?_
    refine kl_val (y_fieldAddr Try.underlying173 rfl I22 S22 rfl rfl) rfl rfl rfl ?_
    refine kl_val (y_load rfl (ld_one Try.underlying22 rfl h.cell)) rfl rfl rfl ?_
    refine kl_val (y_move) rfl rfl rfl ?_
    refine kl_val (Y.cast (v' := .slice (if cap = n then a else a.map (·.add (n * 1))) (bs.length - n) (cap - n)) (y_sliceLo Try.underlying22 I5 S5 rfl rfl (by omega) (by omega)) (by simp)) rfl rfl rfl ?_
    refine kl_val (y_nil rfl) rfl rfl rfl ?_
    refine kl_val (y_fieldAddr Try.underlying173 rfl I22 S22 rfl rfl) rfl rfl rfl ?_
    refine kl_ow rfl (ow_store1 (a := p) I22 S22 rfl rfl h.cell h.free rfl rfl ?_)
    refine kl_nil ?_
    refine x_seq ?_
    refine k_seq ?_
    refine k_region ?_
    refine kl_val (y_move) rfl rfl rfl ?_
    refine kl_val (y_assign) rfl rfl rfl ?_
    refine kl_nil ?_
    refine x_seq ?_
    refine k_ret ?_
    exact k_ret1 rfl rfl (.inl ⟨_, rfl, bs.take n, bs.drop n, _, by unfold pTake; rw [if_neg (by omega)], hR, hFr, hst.keep hFr h.no⟩)

set_option maxRecDepth 100000 in
set_option maxHeartbeats 1000000 in
theorem upTo_r {p : Addr} {v : Value} {bs : List UInt8} {B : Nat → Prop} {w : World} {most : Nat} (h : Rd w B p v bs) :
    ReadC Try.prog 100 #[.pointer (some p), .int .i64 (most : Int)] w B p (pNum most bs) (fun _ u x => u = .int .i64 (x : Int) ∧ x ≤ most) := by
  refine k_enter2 Try.func100 rfl Try.ntmps100 rfl ?_
  have hF := Fr.refl (· = p.block) w
  refine k_seq ?_
  refine k_region ?_
  refine kl_val (y_assign) rfl rfl rfl ?_
  refine kl_nil ?_
  refine x_seq ?_
  refine k_seq ?_
  refine k_region ?_
  refine kl_val (y_assign) rfl rfl rfl ?_
  refine kl_nil ?_
  refine x_seq ?_
  refine k_seq ?_
  refine k_seq ?_
  refine k_region ?_
  refine kl_val (y_move) rfl rfl rfl ?_
  refine kl_nil ?_
  refine x_seq ?_
  refine k_block ?_
  refine k_loop (fun m ρ w' => ∃ (i n : Nat) (bs' : List UInt8) (v' : Value), ρ 0 = .pointer (some p) ∧ ρ 1 = .int .i64 (most : Int) ∧ ρ 5 = .int .i64 (n : Int) ∧ ρ 8 = .int .i64 (i : Int) ∧ i ≤ 6 ∧ m = 6 - i ∧ n < 128 ^ i ∧ Rd w' B p v' bs' ∧ Fr (· = p.block) w w' ∧ pNum most bs = pNumFrom most (6 - i) i n bs') 6 ⟨0, 0, bs, v, rfl, rfl, rfl, rfl, by decide, rfl, by decide, h, hF, rfl⟩ ?_
  clear hF h
  rintro m ρ w1 ⟨i, n, bs', v', h0, h1, h5, h8, hi, rfl, hn, h, hF, hq⟩
  obtain ⟨σ, rfl⟩ : ∃ σ, ρ = upd (upd (upd (upd σ 0 (.pointer (some p))) 1 (.int .i64 (most : Int))) 5 (.int .i64 (n : Int))) 8 (.int .i64 (i : Int)) := ⟨ρ, by rw [upd_self ρ h0, upd_self ρ h1, upd_self ρ h5, upd_self ρ h8]⟩
  clear h0 h1 h5 h8
  refine k_seq ?_
  refine k_region ?_
  refine kl_val (y_lss rfl rfl) rfl rfl rfl ?_
  refine kl_nil ?_
  refine x_seq ?_
  refine k_seq ?_
  refine k_condp rfl (fun hlt => ?_) (fun hlt => ?_)
  · skip
    obtain ⟨k, hk⟩ : ∃ k, 6 - i = k + 1 := ⟨5 - i, by omega⟩
    rw [hk] at hq
    refine k_skip ?_
    refine x_seq ?_
    refine k_seq ?_
    refine k_block ?_
    refine k_seq ?_
    refine k_region ?_
    refine kl_val (y_move) rfl rfl rfl ?_
    refine kl_val (y_assign) rfl rfl rfl ?_
    refine kl_nil ?_
    refine x_seq ?_
    refine k_seq ?_
    refine k_region ?_
    refine kl_val (y_move) rfl rfl rfl ?_
    refine kl_ow rfl (ow_call2 fn125 rfl rfl rfl rfl (take_r (n := 1) h (by decide)) (kret_retP (fun u w' ⟨x, rest, v1, hx, hR, hf, hu⟩ => ?_) (fun c w' ⟨e, he, hc, hf⟩ => ⟨rfl, .inr ⟨c, rfl, e, by obtain ⟨rfl, hl⟩ := pTake_err he; rw [hq, List.eq_nil_of_length_eq_zero (by omega : bs'.length = 0)]; rfl, hc, hF.trans hf⟩⟩)))
    obtain ⟨b, rfl, rfl⟩ := pTake_one hx
    obtain ⟨ua, uc, rfl, hub⟩ := hu.byte
    replace hF := hF.trans hf
    have hbl := b.toNat_lt
    have hc128 : b.toNat % 128 < 128 := Nat.mod_lt _ (by decide)
    have hn1 : n + b.toNat % 128 * 128 ^ i < 128 ^ (i + 1) := by rw [Nat.pow_succ]; have := Nat.mul_le_mul_right (128 ^ i) (show b.toNat % 128 ≤ 127 by omega); omega
    refine kl_val (y_indexAddr Try.underlying22 I5 S5 rfl rfl (by omega) (by omega)) rfl rfl rfl ?_
    refine kl_val (y_load rfl (ld_one Try.underlying5 rfl hub)) rfl rfl rfl ?_
    refine kl_val (y_assign) rfl rfl rfl ?_
    refine kl_nil ?_
    refine x_seq ?_
    refine k_seq ?_
    refine k_region ?_
    refine kl_val (y_move) rfl rfl rfl ?_
    refine kl_val (y_move) rfl rfl rfl ?_
    refine kl_val (Y.cast (v' := .int .u8 ((b.toNat % 128 : Nat) : Int)) (y_and rfl rfl) (congrArg (Value.int .u8) (and127 b))) rfl rfl rfl ?_
    refine kl_val (Y.cast (v' := .int .i64 ((b.toNat % 128 : Nat) : Int)) (y_conv_int ⟨_, Try.underlying5⟩ Try.underlying3 rfl) (congrArg (Value.int .i64) (wrap64_eq (by omega) (by omega)))) rfl rfl rfl ?_
    refine kl_val (y_move) rfl rfl rfl ?_
    refine kl_val (y_mul64 rfl rfl (by omega)) rfl rfl rfl ?_
    refine kl_val (y_shl rfl rfl (by omega)) rfl rfl rfl ?_
    refine kl_val (Y.cast (v' := .int .i64 ((n + b.toNat % 128 * 128 ^ i : Nat) : Int)) (y_or rfl rfl) (congrArg (Value.int .i64) (shl_or hn hc128 (by omega)))) rfl rfl rfl ?_
    refine kl_val (y_assign) rfl rfl rfl ?_
    refine kl_nil ?_
    refine x_seq ?_
    refine k_seq ?_
    refine k_block ?_
    refine k_seq ?_
    refine k_region ?_
    refine kl_val (y_move) rfl rfl rfl ?_
    refine kl_val (y_and rfl rfl) rfl rfl rfl ?_
    refine kl_val (Y.cast (v' := .bool (decide (128 ≤ b.toNat))) (y_neq rfl rfl) (congrArg Value.bool (and128 b))) rfl rfl rfl ?_
    refine kl_val (y_assign) rfl rfl rfl ?_
    refine kl_nil ?_
    refine x_seq ?_
    refine k_condp rfl (fun hb => ?_) (fun hb => ?_)
    · skip
      refine k_exit ?_
      refine x_blkXn rfl ?_
      refine x_seqX ?_
      refine x_blkX ?_
      refine x_seq ?_
      refine k_region ?_
      refine kl_val (y_add64 rfl rfl (by omega)) rfl rfl rfl ?_
      refine kl_val (y_move) rfl rfl rfl ?_
      refine kl_nil ?_
      exact x_lpN (6 - (i + 1)) (by omega) ⟨i + 1, n + b.toNat % 128 * 128 ^ i, rest, v1, rfl, rfl, rfl, rfl, by omega, rfl, hn1, hR, hF, by rw [hq, show 6 - (i + 1) = k by omega]; exact num_more hb⟩
    · skip
      refine k_seq ?_
      refine k_region ?_
      refine kl_val (y_move) rfl rfl rfl ?_
      rcases (show (b.toNat = 0 ∧ 0 < i) ∨ (b.toNat = 0 ∧ i = 0) ∨ b.toNat ≠ 0 from by omega) with hz | hz | hz
      · skip
        refine kl_val (Y.cast (v' := .bool true) (y_eql rfl rfl) (by rw [decide_eq_true]; omega)) rfl rfl rfl ?_
        refine kl_val (y_move) rfl rfl rfl ?_
        first | refine kl_skipG rfl rfl rfl rfl rfl rfl ?_ | refine kl_valG (y_move) rfl rfl rfl rfl rfl ?_
        first | refine kl_skipG rfl rfl rfl rfl rfl rfl ?_ | refine kl_valG (Y.cast (v' := .bool true) (y_gtr rfl rfl) (by rw [decide_eq_true]; omega)) rfl rfl rfl rfl rfl ?_
        refine kl_val (by first | exact y_pickT rfl | exact y_pickF rfl) rfl rfl rfl ?_
        refine kl_val (y_move) rfl rfl rfl ?_
        first | refine kl_skipG rfl rfl rfl rfl rfl rfl ?_ | refine kl_valG (y_move) rfl rfl rfl rfl rfl ?_
        first | refine kl_skipG rfl rfl rfl rfl rfl rfl ?_ | refine kl_valG (y_move) rfl rfl rfl rfl rfl ?_
        first | refine kl_skipG rfl rfl rfl rfl rfl rfl ?_ | refine kl_valG (y_gtr rfl rfl) rfl rfl rfl rfl rfl ?_
        refine kl_val (by first | exact y_pickT rfl | exact y_pickF rfl) rfl rfl rfl ?_
        refine kl_val (y_assign) rfl rfl rfl ?_
        refine kl_nil ?_
        refine x_seq ?_
        refine k_condT rfl ?_
        refine k_region ?_
        exact kl_ow rfl (ow_call1 fn99 rfl rfl rfl (fail_p 11) (kret_retP (fun _ _ h => h.elim) (fun c w' hc => ⟨rfl, .inr ⟨c, rfl, 11, (by rw [hq]; exact num_bad hb (.inl hz)), hc.1, by rw [hc.2]; exact hF⟩⟩)))
      · skip
        refine kl_val (Y.cast (v' := .bool true) (y_eql rfl rfl) (by rw [decide_eq_true]; omega)) rfl rfl rfl ?_
        refine kl_val (y_move) rfl rfl rfl ?_
        first | refine kl_skipG rfl rfl rfl rfl rfl rfl ?_ | refine kl_valG (y_move) rfl rfl rfl rfl rfl ?_
        first | refine kl_skipG rfl rfl rfl rfl rfl rfl ?_ | refine kl_valG (Y.cast (v' := .bool false) (y_gtr rfl rfl) (by rw [decide_eq_false]; omega)) rfl rfl rfl rfl rfl ?_
        refine kl_val (by first | exact y_pickT rfl | exact y_pickF rfl) rfl rfl rfl ?_
        refine kl_val (y_move) rfl rfl rfl ?_
        first | refine kl_skipG rfl rfl rfl rfl rfl rfl ?_ | refine kl_valG (y_move) rfl rfl rfl rfl rfl ?_
        first | refine kl_skipG rfl rfl rfl rfl rfl rfl ?_ | refine kl_valG (y_move) rfl rfl rfl rfl rfl ?_
        first | refine kl_skipG rfl rfl rfl rfl rfl rfl ?_ | refine kl_valG (y_gtr rfl rfl) rfl rfl rfl rfl rfl ?_
        refine kl_val (by first | exact y_pickT rfl | exact y_pickF rfl) rfl rfl rfl ?_
        refine kl_val (y_assign) rfl rfl rfl ?_
        refine kl_nil ?_
        refine x_seq ?_
        refine k_condp rfl (fun hm => ?_) (fun hm => ?_)
        · skip
          refine k_region ?_
          exact kl_ow rfl (ow_call1 fn99 rfl rfl rfl (fail_p 11) (kret_retP (fun _ _ h => h.elim) (fun c w' hc => ⟨rfl, .inr ⟨c, rfl, 11, (by rw [hq]; exact num_bad hb (.inr (by omega))), hc.1, by rw [hc.2]; exact hF⟩⟩)))
        · skip
          refine k_skip ?_
          refine x_blk ?_
          refine x_seq ?_
          refine k_seq ?_
          refine k_region ?_
          refine kl_val (y_move) rfl rfl rfl ?_
          refine kl_val (y_assign) rfl rfl rfl ?_
          refine kl_nil ?_
          refine x_seq ?_
          refine k_ret ?_
          refine x_blkR ?_
          refine x_seqR ?_
          refine x_lpR ?_
          refine x_blkR ?_
          refine x_seqR ?_
          exact k_ret1 rfl rfl (.inl ⟨_, rfl, n + b.toNat % 128 * 128 ^ i, rest, v1, by rw [hq]; exact num_good hb (by omega), hR, hF, rfl, by omega⟩)
      · skip
        refine kl_val (Y.cast (v' := .bool false) (y_eql rfl rfl) (by rw [decide_eq_false]; omega)) rfl rfl rfl ?_
        refine kl_val (y_move) rfl rfl rfl ?_
        first | refine kl_skipG rfl rfl rfl rfl rfl rfl ?_ | refine kl_valG (y_move) rfl rfl rfl rfl rfl ?_
        first | refine kl_skipG rfl rfl rfl rfl rfl rfl ?_ | refine kl_valG (y_gtr rfl rfl) rfl rfl rfl rfl rfl ?_
        refine kl_val (by first | exact y_pickT rfl | exact y_pickF rfl) rfl rfl rfl ?_
        refine kl_val (y_move) rfl rfl rfl ?_
        first | refine kl_skipG rfl rfl rfl rfl rfl rfl ?_ | refine kl_valG (y_move) rfl rfl rfl rfl rfl ?_
        first | refine kl_skipG rfl rfl rfl rfl rfl rfl ?_ | refine kl_valG (y_move) rfl rfl rfl rfl rfl ?_
        first | refine kl_skipG rfl rfl rfl rfl rfl rfl ?_ | refine kl_valG (y_gtr rfl rfl) rfl rfl rfl rfl rfl ?_
        refine kl_val (by first | exact y_pickT rfl | exact y_pickF rfl) rfl rfl rfl ?_
        refine kl_val (y_assign) rfl rfl rfl ?_
        refine kl_nil ?_
        refine x_seq ?_
        refine k_condp rfl (fun hm => ?_) (fun hm => ?_)
        · skip
          refine k_region ?_
          exact kl_ow rfl (ow_call1 fn99 rfl rfl rfl (fail_p 11) (kret_retP (fun _ _ h => h.elim) (fun c w' hc => ⟨rfl, .inr ⟨c, rfl, 11, (by rw [hq]; exact num_bad hb (.inr (by omega))), hc.1, by rw [hc.2]; exact hF⟩⟩)))
        · skip
          refine k_skip ?_
          refine x_blk ?_
          refine x_seq ?_
          refine k_seq ?_
          refine k_region ?_
          refine kl_val (y_move) rfl rfl rfl ?_
          refine kl_val (y_assign) rfl rfl rfl ?_
          refine kl_nil ?_
          refine x_seq ?_
          refine k_ret ?_
          refine x_blkR ?_
          refine x_seqR ?_
          refine x_lpR ?_
          refine x_blkR ?_
          refine x_seqR ?_
          exact k_ret1 rfl rfl (.inl ⟨_, rfl, n + b.toNat % 128 * 128 ^ i, rest, v1, by rw [hq]; exact num_good hb (by omega), hR, hF, rfl, by omega⟩)
  · skip
    have : i = 6 := by omega
    subst this
    refine k_exit ?_
    refine x_seqX ?_
    refine x_lpX ?_
    refine x_blkX ?_
    refine x_seq ?_
    refine k_seq ?_
    refine k_region ?_
    refine kl_ow rfl (ow_call1 fn99 rfl rfl rfl (fail_p 11) (kret_retP (fun _ _ h => h.elim) (fun c w' hc => ⟨rfl, .inr ⟨c, rfl, 11, hq, hc.1, by rw [hc.2]; exact hF⟩⟩)))

set_option maxRecDepth 100000 in
set_option maxHeartbeats 1000000 in
theorem number_r {p : Addr} {v : Value} {bs : List UInt8} {B : Nat → Prop} {w : World} (h : Rd w B p v bs) :
    ReadC Try.prog 102 #[.pointer (some p)] w B p (pN bs) (fun _ u x => u = .int .i64 (x : Int) ∧ x ≤ 1099511627776) := by
  refine k_enter1 Try.func102 rfl Try.ntmps102 rfl ?_
  refine k_seq ?_
  refine k_region ?_
  refine kl_val (y_assign) rfl rfl rfl ?_
  refine kl_nil ?_
  refine x_seq ?_
  refine k_seq ?_
  refine k_region ?_
  refine kl_val (y_move) rfl rfl rfl ?_
  refine kl_ow rfl (ow_call2 fn100 rfl rfl rfl rfl (upTo_r (most := 1099511627776) h) (kret_retP (fun u w' hu => ?_) (fun c w' hc => ⟨rfl, .inr ⟨c, rfl, hc⟩⟩)))
  refine kl_val (y_assign) rfl rfl rfl ?_
  refine kl_nil ?_
  refine x_seq ?_
  refine k_ret ?_
  exact k_ret1 rfl rfl (.inl ⟨_, rfl, hu⟩)

set_option maxRecDepth 100000 in
set_option maxHeartbeats 1000000 in
theorem text_r {p : Addr} {v : Value} {bs : List UInt8} {B : Nat → Prop} {w : World} (h : Rd w B p v bs) :
    ReadC Try.prog 101 #[.pointer (some p)] w B p (pText bs) (fun _ u x => u = .string ⟨x.toArray⟩) := by
  refine k_enter1 Try.func101 rfl Try.ntmps101 rfl ?_
  refine k_seq ?_
  refine k_region ?_
  refine kl_val (y_assign) rfl rfl rfl ?_
  refine kl_nil ?_
  refine x_seq ?_
  refine k_seq ?_
  refine k_region ?_
  refine kl_val (y_move) rfl rfl rfl ?_
  refine kl_val (y_move) rfl rfl rfl ?_
  refine kl_ow rfl (ow_call2 fn100 rfl rfl rfl rfl (upTo_r (most := 60000) h) (kret_retP (fun u w' ⟨x, rest, v1, hx, hR, hF, hu, hxm⟩ => ?_) (fun c w' ⟨e, he, hc, hf⟩ => ⟨rfl, .inr ⟨c, rfl, e, pBind_err he, hc, hf⟩⟩)))
  subst hu
  refine kl_ow rfl (ow_call2 fn125 rfl rfl rfl rfl (take_r hR hxm) (kret_retP (fun u w' ⟨y, rest', v2, hy, hR', hf, hu⟩ => ?_) (fun c w' ⟨e, he, hc, hf⟩ => ⟨rfl, .inr ⟨c, rfl, e, (pBind_ok hx).trans he, hc, hF.trans hf⟩⟩)))
  refine kl_val (y_b2s Try.underlying22 Try.underlying5 Try.underlying9 rfl hu) rfl rfl rfl ?_
  refine kl_val (y_assign) rfl rfl rfl ?_
  refine kl_nil ?_
  refine x_seq ?_
  refine k_ret ?_
  exact k_ret1 rfl rfl (.inl ⟨_, rfl, y, rest', v2, (pBind_ok hx).trans hy, hR', hF.trans hf, rfl⟩)

set_option maxRecDepth 100000 in
set_option maxHeartbeats 1000000 in
theorem truth_r {p : Addr} {v : Value} {bs : List UInt8} {B : Nat → Prop} {w : World} (h : Rd w B p v bs) :
    ReadC Try.prog 103 #[.pointer (some p)] w B p (pTruth bs) (fun _ u x => u = .bool x) := by
  refine k_enter1 Try.func103 rfl Try.ntmps103 rfl ?_
  refine k_seq ?_
  refine k_region ?_
  refine kl_val (y_assign) rfl rfl rfl ?_
  refine kl_nil ?_
  refine x_seq ?_
  refine k_seq ?_
  refine k_region ?_
  refine kl_val (y_move) rfl rfl rfl ?_
  refine kl_ow rfl (ow_call2 fn125 rfl rfl rfl rfl (take_r (n := 1) h (by decide)) (kret_retP (fun u w' ⟨x, rest, v1, hx, hR, hF, hu⟩ => ?_) (fun c w' ⟨e, he, hc, hf⟩ => ⟨rfl, .inr ⟨c, rfl, e, pTruth_err he, hc, hf⟩⟩)))
  obtain ⟨b, rfl, rfl⟩ := pTake_one hx
  obtain ⟨ua, uc, rfl, hub⟩ := hu.byte
  refine kl_val (y_indexAddr Try.underlying22 I5 S5 rfl rfl (by omega) (by omega)) rfl rfl rfl ?_
  refine kl_val (y_load rfl (ld_one Try.underlying5 rfl hub)) rfl rfl rfl ?_
  refine kl_val (y_assign) rfl rfl rfl ?_
  refine kl_nil ?_
  refine x_seq ?_
  refine k_seq ?_
  refine k_seq ?_
  refine k_region ?_
  refine kl_val (y_move) rfl rfl rfl ?_
  refine kl_val (y_gtr rfl rfl) rfl rfl rfl ?_
  refine kl_nil ?_
  refine x_seq ?_
  refine k_condp rfl (fun hb => ?_) (fun hb => ?_)
  · skip
    refine k_region ?_
    exact kl_ow rfl (ow_call1 fn99 rfl rfl rfl (fail_p 11) (kret_retP (fun _ _ h => h.elim) (fun c w' hc => ⟨rfl, .inr ⟨c, rfl, 11, (pTruth_bad (by omega)), hc.1, by rw [hc.2]; exact hF⟩⟩)))
  · skip
    refine k_skip ?_
    refine x_seq ?_
    refine k_seq ?_
    refine k_region ?_
    refine kl_val (y_move) rfl rfl rfl ?_
    refine kl_val (Y.cast (v' := .bool (b == 1)) (y_eql rfl rfl) (congrArg Value.bool (truth_eq b))) rfl rfl rfl ?_
    refine kl_val (y_assign) rfl rfl rfl ?_
    refine kl_nil ?_
    refine x_seq ?_
    refine k_ret ?_
    exact k_ret1 rfl rfl (.inl ⟨_, rfl, b == 1, rest, v1, pTruth_good (by omega), hR, hF, rfl⟩)

end Go.Proofs.Ythpocekigliomaa.K
