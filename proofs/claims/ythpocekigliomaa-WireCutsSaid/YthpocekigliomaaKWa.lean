/- The writer of numbers, keys, texts. Conditions: a writer stands at p, its buffer is not too long. -/
import Derived.Test.YthpocekigliomaaKD
namespace Go.Proofs.Ythpocekigliomaa.K
open Go

set_option maxRecDepth 100000 in
set_option maxHeartbeats 1000000 in
theorem number_w {p : Addr} {v : Value} {l : List UInt8} {x : Int} {w : World} (h : Wr w p v l) (hl : l.length ≤ 900000000) :
    Ret Try.prog 47 #[.pointer (some p), .int .i64 x] w (fun _ w' => ∃ v', Wr w' p v' (l ++ numI x) ∧ WS p w v w' v') := by
  refine k_enter2 Try.func47 rfl Try.ntmps47 rfl ?_
  obtain ⟨k0, hk0⟩ : ∃ k0, k0 = clamp x := ⟨_, rfl⟩
  have hk1 : k0 ≤ 1099511627776 := hk0 ▸ clamp_le x
  have hnl := numI_length x
  refine k_seq ?_
  refine k_seq ?_
  refine k_region ?_
  refine kl_val (y_move) rfl rfl rfl ?_
  refine kl_val (y_min rfl rfl) rfl rfl rfl ?_
  refine kl_val (Y.cast (v' := .int .i64 (k0 : Int)) (y_max rfl rfl) (by rw [hk0]; unfold clamp; congr 1; omega)) rfl rfl rfl ?_
  refine kl_val (y_assign) rfl rfl rfl ?_
  refine kl_nil ?_
  refine x_seq ?_
  refine k_block ?_
  refine k_loop (fun m ρ w' => ∃ (k : Nat) (l' : List UInt8) (v' : Value), ρ 0 = .pointer (some p) ∧ ρ 1 = .int .i64 (k : Int) ∧ k = m ∧ k ≤ 1099511627776 ∧ Wr w' p v' l' ∧ WS p w v w' v' ∧ l' ++ num k = l ++ numI x) k0 ⟨k0, l, v, rfl, rfl, rfl, hk1, h, WS.refl _ _ _, by rw [hk0]; rfl⟩ ?_
  rintro m ρ w' ⟨k, l', v', h0, h1, rfl, hk, hW', hS', hl'⟩
  obtain ⟨σ, rfl⟩ : ∃ σ, ρ = upd (upd σ 0 (.pointer (some p))) 1 (.int .i64 (k : Int)) := ⟨ρ, by rw [upd_self ρ h0, upd_self ρ h1]⟩
  clear h0 h1
  have hlen : l'.length + (num k).length = l.length + (numI x).length := by rw [← List.length_append, hl', List.length_append]
  refine k_seq ?_
  refine k_seq ?_
  refine k_region ?_
  refine kl_val (y_move) rfl rfl rfl ?_
  refine kl_val (y_gtr rfl rfl) rfl rfl rfl ?_
  refine kl_nil ?_
  refine x_seq ?_
  refine k_condp rfl (fun hlt => ?_) (fun hlt => ?_)
  · skip
    refine k_skip ?_
    refine x_seq ?_
    refine k_seq ?_
    refine k_block ?_
    refine k_region ?_
    refine kl_val (y_move) rfl rfl rfl ?_
    refine kl_val (y_move) rfl rfl rfl ?_
    refine kl_val (y_nil rfl) rfl rfl rfl ?_
    refine kl_val (y_fieldAddr Try.underlying97 rfl I22 S22 rfl rfl) rfl rfl rfl ?_
    refine kl_val (y_load rfl (ld_one Try.underlying22 rfl hW'.cell)) rfl rfl rfl ?_
    refine kl_val (y_move) rfl rfl rfl ?_
    refine kl_val (y_conv_int ⟨_, Try.underlying3⟩ Try.underlying5 rfl) rfl rfl rfl ?_
    refine kl_val (Y.cast (v' := bv (UInt8.ofNat (k % 128 + 128))) (y_or rfl rfl) (congrArg (Value.int .u8) (or_byte k))) rfl rfl rfl ?_
    refine kl_ow rfl (ow_slice1 Try.underlying22 I5 Z5 S5 rfl (v := bv (UInt8.ofNat (k % 128 + 128))) rfl rfl (by decide) (by decide) rfl (fun wa ba hba hfa hea hza => ?_))
    refine kl_ow rfl (ow_append Try.underlying22 I5 Z5 S5 rfl (by decide) (by rw [B5]; decide) rfl (hW'.ext hfa).own rfl (news := bvs [UInt8.ofNat (k % 128 + 128)]) rfl hba.cs (bvs_one _) (by omega) rfl (fun va wb hob hfb hfrb _ => ?_))
    obtain ⟨hc, hz, hW, hS⟩ := wr_append hW' hfa hob hfb hfrb
    refine kl_val (y_nil rfl) rfl rfl rfl ?_
    refine kl_val (y_fieldAddr Try.underlying97 rfl I22 S22 rfl rfl) rfl rfl rfl ?_
    refine kl_ow rfl (ow_store1 (a := p) (v := va) I22 S22 rfl rfl hc hz (by rcases hob.2 with ⟨e, _⟩ | ⟨_, _, _, e, _⟩ <;> rw [e] <;> rfl) (by rcases hob.2 with ⟨e, _⟩ | ⟨_, _, _, e, _⟩ <;> rw [e] <;> rfl) ?_)
    refine kl_nil ?_
    refine x_blk ?_
    refine x_seq ?_
    refine k_region ?_
    refine kl_val (y_move) rfl rfl rfl ?_
    refine kl_val (Y.cast (v' := .int .i64 ((k / 128 : Nat) : Int)) (y_shr rfl rfl (by decide)) (by rw [shr7])) rfl rfl rfl ?_
    refine kl_val (y_assign) rfl rfl rfl ?_
    refine kl_nil ?_
    refine x_lpN (k / 128) (by omega) ⟨k / 128, l' ++ [UInt8.ofNat (k % 128 + 128)], va, rfl, rfl, rfl, by omega, hW, hS'.trans hS, ?_⟩
    rw [List.append_assoc, List.singleton_append, ← num_ge (by omega)]; exact hl' 
  · skip
    refine k_exit ?_
    refine x_seqX ?_
    refine x_lpX ?_
    refine x_blkX ?_
    refine x_seq ?_
    refine k_region ?_
    refine kl_val (y_move) rfl rfl rfl ?_
    refine kl_val (y_move) rfl rfl rfl ?_
    refine kl_val (y_nil rfl) rfl rfl rfl ?_
    refine kl_val (y_fieldAddr Try.underlying97 rfl I22 S22 rfl rfl) rfl rfl rfl ?_
    refine kl_val (y_load rfl (ld_one Try.underlying22 rfl hW'.cell)) rfl rfl rfl ?_
    refine kl_val (y_move) rfl rfl rfl ?_
    refine kl_val (Y.cast (v' := bv (UInt8.ofNat k)) (y_conv_int ⟨_, Try.underlying3⟩ Try.underlying5 rfl) (congrArg (Value.int .u8) (low_byte (by omega)))) rfl rfl rfl ?_
    refine kl_ow rfl (ow_slice1 Try.underlying22 I5 Z5 S5 rfl (v := bv (UInt8.ofNat k)) rfl rfl (by decide) (by decide) rfl (fun wa ba hba hfa hea hza => ?_))
    refine kl_ow rfl (ow_append Try.underlying22 I5 Z5 S5 rfl (by decide) (by rw [B5]; decide) rfl (hW'.ext hfa).own rfl (news := bvs [UInt8.ofNat k]) rfl hba.cs (bvs_one _) (by omega) rfl (fun va wb hob hfb hfrb _ => ?_))
    obtain ⟨hc, hz, hW, hS⟩ := wr_append hW' hfa hob hfb hfrb
    refine kl_val (y_nil rfl) rfl rfl rfl ?_
    refine kl_val (y_fieldAddr Try.underlying97 rfl I22 S22 rfl rfl) rfl rfl rfl ?_
    refine kl_ow rfl (ow_store1 (a := p) (v := va) I22 S22 rfl rfl hc hz (by rcases hob.2 with ⟨e, _⟩ | ⟨_, _, _, e, _⟩ <;> rw [e] <;> rfl) (by rcases hob.2 with ⟨e, _⟩ | ⟨_, _, _, e, _⟩ <;> rw [e] <;> rfl) ?_)
    refine kl_nil ?_
    refine k_end0 rfl ⟨_, rfl, va, ?_, hS'.trans hS⟩
    rw [num_lt (by omega)] at hl'
    rw [← hl']; exact hW

set_option maxRecDepth 100000 in
set_option maxHeartbeats 1000000 in
theorem key_w {p : Addr} {v : Value} {l x : List UInt8} {w : World} (h : Wr w p v l) (hx : x.length = 32) (hl : l.length ≤ 900000000) :
    Ret Try.prog 66 #[.pointer (some p), .agg (bvs x).toArray] w (fun _ w' => ∃ v', Wr w' p v' (l ++ x) ∧ WS p w v w' v') := by
  refine k_enter2 Try.func66 rfl Try.ntmps66 rfl ?_
  refine k_seq ?_
  refine k_region ?_
  refine kl_ow rfl (ow_boxA (cs := bvs x) rfl rfl (fun w0 b hb hf0 he0 hz0 => ?_))
  have hW0 := h.ext hf0
  refine kl_nil ?_
  refine x_seq ?_
  refine k_regionD (S := fun w' => w'.cell? p = some v) [9] [(0, true), (1, true), (2, true), (3, true), (4, true), (5, true), (6, false), (7, true), (8, true), (9, false)] mixed (fun _ _ _ _ _ h => h) (by kernel_rfl) ?_
  have hS0 : w0.drew.cell? p = some v := hW0.cell
  have hW1 : Wr w0.drew p v l := hW0.ext (Fr.drew1 _ _)
  have hb1 : Bx w0.drew b _ _ := hb
  refine kr_val rfl (hS0) (fun w' hS' => y_move) rfl rfl rfl ?_
  refine kr_val rfl (hS0) (fun w' hS' => y_move) rfl rfl rfl ?_
  refine kr_val rfl (hS0) (fun w' hS' => y_nil rfl) rfl rfl rfl ?_
  refine kr_val rfl (hS0) (fun w' hS' => y_fieldAddr Try.underlying97 rfl I22 S22 rfl rfl) rfl rfl rfl ?_
  refine kr_val rfl (hS0) (fun w' hS' => y_load rfl (ld_one Try.underlying22 rfl hS')) rfl rfl rfl ?_
  refine kr_val rfl (hS0) (fun w' hS' => y_sliceA Try.underlying34 I5 rfl) rfl rfl rfl ?_
  refine kr_ow rfl rfl (ow_append Try.underlying22 I5 Z5 S5 rfl (by decide) (by rw [B5]; decide) rfl hW1.own rfl (news := bvs x) (by rw [bvs_length]; omega) hb1.cs (bvs_one _) (by omega) rfl (fun va wb hob hfb hfrb _ => ?_))
  obtain ⟨hc, hz, hW, hS⟩ := wr_append (w1 := w0.drew) (bs := x) h (hf0.drew) (by rw [hx]; exact hob) hfb hfrb
  replace hS0 := hc
  refine ⟨(fun _ => hS0), ?_⟩
  refine kr_val rfl (hS0) (fun w' hS' => y_nil rfl) rfl rfl rfl ?_
  refine kr_val rfl (hS0) (fun w' hS' => y_fieldAddr Try.underlying97 rfl I22 S22 rfl rfl) rfl rfl rfl ?_
  refine kr_ow rfl rfl (ow_store1 (a := p) (v := va) I22 S22 rfl rfl hc hz (by rcases hob.2 with ⟨e, _⟩ | ⟨_, _, _, e, _⟩ <;> rw [e] <;> rfl) (by rcases hob.2 with ⟨e, _⟩ | ⟨_, _, _, e, _⟩ <;> rw [e] <;> rfl) ?_)
  refine ⟨(fun h => absurd h (by decide)), ?_⟩
  refine kr_nil ?_
  exact k_end0 rfl ⟨_, rfl, va, hW, hS⟩

set_option maxRecDepth 100000 in
set_option maxHeartbeats 1000000 in
theorem sig_w {p : Addr} {v : Value} {l x : List UInt8} {w : World} (h : Wr w p v l) (hx : x.length = 64) (hl : l.length ≤ 900000000) :
    Ret Try.prog 68 #[.pointer (some p), .agg (bvs x).toArray] w (fun _ w' => ∃ v', Wr w' p v' (l ++ x) ∧ WS p w v w' v') := by
  refine k_enter2 Try.func68 rfl Try.ntmps68 rfl ?_
  refine k_seq ?_
  refine k_region ?_
  refine kl_ow rfl (ow_boxA (cs := bvs x) rfl rfl (fun w0 b hb hf0 he0 hz0 => ?_))
  have hW0 := h.ext hf0
  refine kl_nil ?_
  refine x_seq ?_
  refine k_regionD (S := fun w' => w'.cell? p = some v) [9] [(0, true), (1, true), (2, true), (3, true), (4, true), (5, true), (6, false), (7, true), (8, true), (9, false)] mixed (fun _ _ _ _ _ h => h) (by kernel_rfl) ?_
  have hS0 : w0.drew.cell? p = some v := hW0.cell
  have hW1 : Wr w0.drew p v l := hW0.ext (Fr.drew1 _ _)
  have hb1 : Bx w0.drew b _ _ := hb
  refine kr_val rfl (hS0) (fun w' hS' => y_move) rfl rfl rfl ?_
  refine kr_val rfl (hS0) (fun w' hS' => y_move) rfl rfl rfl ?_
  refine kr_val rfl (hS0) (fun w' hS' => y_nil rfl) rfl rfl rfl ?_
  refine kr_val rfl (hS0) (fun w' hS' => y_fieldAddr Try.underlying97 rfl I22 S22 rfl rfl) rfl rfl rfl ?_
  refine kr_val rfl (hS0) (fun w' hS' => y_load rfl (ld_one Try.underlying22 rfl hS')) rfl rfl rfl ?_
  refine kr_val rfl (hS0) (fun w' hS' => y_sliceA Try.underlying45 I5 rfl) rfl rfl rfl ?_
  refine kr_ow rfl rfl (ow_append Try.underlying22 I5 Z5 S5 rfl (by decide) (by rw [B5]; decide) rfl hW1.own rfl (news := bvs x) (by rw [bvs_length]; omega) hb1.cs (bvs_one _) (by omega) rfl (fun va wb hob hfb hfrb _ => ?_))
  obtain ⟨hc, hz, hW, hS⟩ := wr_append (w1 := w0.drew) (bs := x) h (hf0.drew) (by rw [hx]; exact hob) hfb hfrb
  replace hS0 := hc
  refine ⟨(fun _ => hS0), ?_⟩
  refine kr_val rfl (hS0) (fun w' hS' => y_nil rfl) rfl rfl rfl ?_
  refine kr_val rfl (hS0) (fun w' hS' => y_fieldAddr Try.underlying97 rfl I22 S22 rfl rfl) rfl rfl rfl ?_
  refine kr_ow rfl rfl (ow_store1 (a := p) (v := va) I22 S22 rfl rfl hc hz (by rcases hob.2 with ⟨e, _⟩ | ⟨_, _, _, e, _⟩ <;> rw [e] <;> rfl) (by rcases hob.2 with ⟨e, _⟩ | ⟨_, _, _, e, _⟩ <;> rw [e] <;> rfl) ?_)
  refine ⟨(fun h => absurd h (by decide)), ?_⟩
  refine kr_nil ?_
  exact k_end0 rfl ⟨_, rfl, va, hW, hS⟩

set_option maxRecDepth 100000 in
set_option maxHeartbeats 1000000 in
theorem truth_w {p : Addr} {v : Value} {l : List UInt8} {x : Bool} {w : World} (h : Wr w p v l) (hl : l.length ≤ 900000000) :
    Ret Try.prog 48 #[.pointer (some p), .bool x] w (fun _ w' => ∃ v', Wr w' p v' (l ++ wTruth x) ∧ WS p w v w' v') := by
  refine k_enter2 Try.func48 rfl Try.ntmps48 rfl ?_
  refine k_seq ?_
  refine k_region ?_
  refine kl_val (y_assign) rfl rfl rfl ?_
  refine kl_nil ?_
  refine x_seq ?_
  refine k_seq ?_
  refine k_seq ?_
  refine k_region ?_
  refine kl_val (y_move) rfl rfl rfl ?_
  refine kl_nil ?_
  refine x_seq ?_
  refine k_cond (b := x) rfl (fun hx => ?_) (fun hx => ?_)
  · skip
    subst hx
    refine k_region ?_
    refine kl_val (y_assign) rfl rfl rfl ?_
    refine kl_nil ?_
    refine x_seq ?_
    refine k_region ?_
    refine kl_val (y_move) rfl rfl rfl ?_
    refine kl_val (y_move) rfl rfl rfl ?_
    refine kl_ow rfl (ow_call2 fn47 rfl rfl rfl rfl (number_w h hl) (kret_ret (fun _ w' ⟨v', hW, hS⟩ => ?_)))
    refine kl_nil ?_
    exact k_end0 rfl ⟨_, rfl, v', hW, hS⟩
  · skip
    subst hx
    refine k_skip ?_
    refine x_seq ?_
    refine k_region ?_
    refine kl_val (y_move) rfl rfl rfl ?_
    refine kl_val (y_move) rfl rfl rfl ?_
    refine kl_ow rfl (ow_call2 fn47 rfl rfl rfl rfl (number_w h hl) (kret_ret (fun _ w' ⟨v', hW, hS⟩ => ?_)))
    refine kl_nil ?_
    exact k_end0 rfl ⟨_, rfl, v', hW, hS⟩

set_option maxRecDepth 100000 in
set_option maxHeartbeats 1000000 in
theorem text_w {p : Addr} {v : Value} {l : List UInt8} {s : ByteArray} {w : World} (h : Wr w p v l) (hl : l.length + s.size ≤ 900000000) :
    Ret Try.prog 46 #[.pointer (some p), .string s] w (fun _ w' => ∃ v', Wr w' p v' (l ++ wText (sBytes s)) ∧ WS p w v w' v') := by
  refine k_enter2 Try.func46 rfl Try.ntmps46 rfl ?_
  refine k_seq ?_
  refine k_region ?_
  refine kl_val (y_move) rfl rfl rfl ?_
  refine kl_val (y_move) rfl rfl rfl ?_
  refine kl_val (y_lenStr Try.underlying9 rfl) rfl rfl rfl ?_
  refine kl_ow rfl (ow_call2 fn47 rfl rfl rfl rfl (number_w h (by omega)) (kret_ret (fun _ w1 ⟨v1, hW1, hS1⟩ => ?_)))
  have hnl := numI_length (s.size : Int)
  have hlen1 : (l ++ numI (s.size : Int)).length ≤ l.length + 6 := by rw [List.length_append]; omega
  refine kl_nil ?_
  refine x_seq ?_
  refine k_region ?_
  refine kl_val (y_move) rfl rfl rfl ?_
  refine kl_val (y_move) rfl rfl rfl ?_
  refine kl_val (y_nil rfl) rfl rfl rfl ?_
  refine kl_val (y_fieldAddr Try.underlying97 rfl I22 S22 rfl rfl) rfl rfl rfl ?_
  refine kl_val (y_load rfl (ld_one Try.underlying22 rfl hW1.cell)) rfl rfl rfl ?_
  refine kl_val (y_move) rfl rfl rfl ?_
  refine kl_ow rfl (ow_appendS Try.underlying22 Try.underlying9 I5 Z5 S5 B5 rfl hW1.own rfl (by omega) rfl (fun va wb hob hfb hfrb _ => ?_))
  have hsz : s.data.toList.length = s.size := rfl
  obtain ⟨hc, hz, hW, hS⟩ := wr_append (w1 := w1) (bs := s.data.toList) hW1 (Fr.refl _ _) (by rw [hsz]; exact hob) hfb hfrb
  refine kl_val (y_nil rfl) rfl rfl rfl ?_
  refine kl_val (y_fieldAddr Try.underlying97 rfl I22 S22 rfl rfl) rfl rfl rfl ?_
  refine kl_ow rfl (ow_store1 (a := p) (v := va) I22 S22 rfl rfl hc hz (by rcases hob.2 with ⟨e, _⟩ | ⟨_, _, _, e, _⟩ <;> rw [e] <;> rfl) (by rcases hob.2 with ⟨e, _⟩ | ⟨_, _, _, e, _⟩ <;> rw [e] <;> rfl) ?_)
  refine kl_nil ?_
  refine k_end0 rfl ⟨_, rfl, va, ?_, hS1.trans hS⟩
  have e : l ++ wText (sBytes s) = l ++ numI (s.size : Int) ++ s.data.toList := by rw [wText, List.append_assoc]; rfl
  rw [e]; exact hW

end Go.Proofs.Ythpocekigliomaa.K
