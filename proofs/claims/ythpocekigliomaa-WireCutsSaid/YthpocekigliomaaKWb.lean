/- The writer of what a letter and a list hold. Conditions: a writer stands at p, what is read is none of its own, its buffer is not too long. -/
import Derived.Test.YthpocekigliomaaKWa
namespace Go.Proofs.Ythpocekigliomaa.K
open Go

set_option maxRecDepth 100000 in
set_option maxHeartbeats 1000000 in
theorem prekey_w {p : Addr} {v : Value} {l : List UInt8} {x : IdKey} {cs : List Value} {w : World} {B : Nat → Prop} (h : Wr w p v l) (hx : IdKeyR w B cs x) (hs : Sep w p v B) (hl : l.length + (wIdKey x).length ≤ 800000000) :
    Ret Try.prog 67 #[.pointer (some p), .agg cs.toArray] w (fun _ w' => ∃ v', Wr w' p v' (l ++ wIdKey x) ∧ WS p w v w' v') := by
  refine k_enter2 Try.func67 rfl Try.ntmps67 rfl ?_
  obtain ⟨hk, rfl⟩ := hx
  simp only [wIdKey, List.length_append] at hl
  refine k_seq ?_
  refine k_region ?_
  refine kl_ow rfl (ow_boxA rfl rfl (fun w0 b hb hf0 he0 hz0 => ?_))
  have nb := Sep1.new h he0 hz0
  have hW := h.ext hf0
  have hS : WS p w v w0 v := WS.ext v hf0
  replace hs := hs.ext hf0
  refine kl_nil ?_
  refine x_seq ?_
  refine k_seq ?_
  refine k_region ?_
  refine kl_val (y_move) rfl rfl rfl ?_
  refine kl_val (y_fieldAddr Try.underlying49 rfl I3 S3 rfl rfl) rfl rfl rfl ?_
  refine kl_val (y_load rfl (ld_one Try.underlying3 rfl (bx_cell hb (pc_take rfl)))) rfl rfl rfl ?_
  refine kl_ow rfl (ow_call2 fn47 rfl rfl rfl rfl (number_w hW (by first | omega | (simp only [List.length_append]; omega))) (kret_ret (fun _ w' ⟨v', hW', hS'⟩ => ?_)))
  replace hb := hb.keep hS'.fr nb.no
  replace nb := nb.step hS'
  replace hs := hs.step hS'
  replace hS := hS.trans hS'
  replace hW := hW'
  refine kl_nil ?_
  refine x_seq ?_
  refine k_region ?_
  refine kl_val (y_move) rfl rfl rfl ?_
  refine kl_val (y_fieldAddr Try.underlying49 rfl I34 S34 rfl rfl) rfl rfl rfl ?_
  refine kl_val (y_load rfl (ld_aggB Try.underlying34 rfl I34 S34 (by rw [bvs_length]; exact hk) (hb.part 1 32 (pc_drop (a := 1) (o := 0) rfl (pc_last (by rw [bvs_length]; exact hk)))))) rfl rfl rfl ?_
  refine kl_ow rfl (ow_call2 fn66 rfl rfl rfl rfl (key_w hW hk (by first | omega | (simp only [List.length_append]; omega))) (kret_ret (fun _ w' ⟨v', hW', hS'⟩ => ?_)))
  replace hb := hb.keep hS'.fr nb.no
  replace nb := nb.step hS'
  replace hs := hs.step hS'
  replace hS := hS.trans hS'
  replace hW := hW'
  refine kl_nil ?_
  exact k_end0 rfl ⟨_, rfl, _, by simp only [List.append_assoc] at hW; exact hW, hS⟩

set_option maxRecDepth 100000 in
set_option maxHeartbeats 1000000 in
theorem entry_w {p : Addr} {v : Value} {l : List UInt8} {x : IdKey} {cs : List Value} {w : World} {B : Nat → Prop} (h : Wr w p v l) (hx : IdKeyR w B cs x) (hs : Sep w p v B) (hl : l.length + (wIdKey x).length ≤ 800000000) :
    Ret Try.prog 105 #[.pointer (some p), .agg cs.toArray] w (fun _ w' => ∃ v', Wr w' p v' (l ++ wIdKey x) ∧ WS p w v w' v') := by
  refine k_enter2 Try.func105 rfl Try.ntmps105 rfl ?_
  obtain ⟨hk, rfl⟩ := hx
  simp only [wIdKey, List.length_append] at hl
  refine k_seq ?_
  refine k_region ?_
  refine kl_ow rfl (ow_boxA rfl rfl (fun w0 b hb hf0 he0 hz0 => ?_))
  have nb := Sep1.new h he0 hz0
  have hW := h.ext hf0
  have hS : WS p w v w0 v := WS.ext v hf0
  replace hs := hs.ext hf0
  refine kl_nil ?_
  refine x_seq ?_
  refine k_seq ?_
  refine k_region ?_
  refine kl_val (y_move) rfl rfl rfl ?_
  refine kl_val (y_fieldAddr Try.underlying122 rfl I3 S3 rfl rfl) rfl rfl rfl ?_
  refine kl_val (y_load rfl (ld_one Try.underlying3 rfl (bx_cell hb (pc_take rfl)))) rfl rfl rfl ?_
  refine kl_ow rfl (ow_call2 fn47 rfl rfl rfl rfl (number_w hW (by first | omega | (simp only [List.length_append]; omega))) (kret_ret (fun _ w' ⟨v', hW', hS'⟩ => ?_)))
  replace hb := hb.keep hS'.fr nb.no
  replace nb := nb.step hS'
  replace hs := hs.step hS'
  replace hS := hS.trans hS'
  replace hW := hW'
  refine kl_nil ?_
  refine x_seq ?_
  refine k_region ?_
  refine kl_val (y_move) rfl rfl rfl ?_
  refine kl_val (y_fieldAddr Try.underlying122 rfl I34 S34 rfl rfl) rfl rfl rfl ?_
  refine kl_val (y_load rfl (ld_aggB Try.underlying34 rfl I34 S34 (by rw [bvs_length]; exact hk) (hb.part 1 32 (pc_drop (a := 1) (o := 0) rfl (pc_last (by rw [bvs_length]; exact hk)))))) rfl rfl rfl ?_
  refine kl_ow rfl (ow_call2 fn66 rfl rfl rfl rfl (key_w hW hk (by first | omega | (simp only [List.length_append]; omega))) (kret_ret (fun _ w' ⟨v', hW', hS'⟩ => ?_)))
  replace hb := hb.keep hS'.fr nb.no
  replace nb := nb.step hS'
  replace hs := hs.step hS'
  replace hS := hS.trans hS'
  replace hW := hW'
  refine kl_nil ?_
  exact k_end0 rfl ⟨_, rfl, _, by simp only [List.append_assoc] at hW; exact hW, hS⟩

set_option maxRecDepth 100000 in
set_option maxHeartbeats 1000000 in
theorem header_w {p : Addr} {v : Value} {l : List UInt8} {x : Hdr} {cs : List Value} {w : World} {B : Nat → Prop} (h : Wr w p v l) (hx : HdrR w B cs x) (hs : Sep w p v B) (hl : l.length + (wHdr x).length ≤ 800000000) :
    Ret Try.prog 75 #[.pointer (some p), .agg cs.toArray] w (fun _ w' => ∃ v', Wr w' p v' (l ++ wHdr x) ∧ WS p w v w' v') := by
  refine k_enter2 Try.func75 rfl Try.ntmps75 rfl ?_
  obtain ⟨hk, rfl⟩ := hx
  simp only [wHdr, List.length_append] at hl
  refine k_seq ?_
  refine k_region ?_
  refine kl_ow rfl (ow_boxA rfl rfl (fun w0 b hb hf0 he0 hz0 => ?_))
  have nb := Sep1.new h he0 hz0
  have hW := h.ext hf0
  have hS : WS p w v w0 v := WS.ext v hf0
  replace hs := hs.ext hf0
  refine kl_nil ?_
  refine x_seq ?_
  refine k_seq ?_
  refine k_region ?_
  refine kl_val (y_move) rfl rfl rfl ?_
  refine kl_val (y_fieldAddr Try.underlying36 rfl I34 S34 rfl rfl) rfl rfl rfl ?_
  refine kl_val (y_load rfl (ld_aggB Try.underlying34 rfl I34 S34 (by rw [bvs_length]; exact hk) (hb.part 0 32 (pc_take (by rw [bvs_length]; exact hk))))) rfl rfl rfl ?_
  refine kl_ow rfl (ow_call2 fn66 rfl rfl rfl rfl (key_w hW hk (by first | omega | (simp only [List.length_append]; omega))) (kret_ret (fun _ w' ⟨v', hW', hS'⟩ => ?_)))
  replace hb := hb.keep hS'.fr nb.no
  replace nb := nb.step hS'
  replace hs := hs.step hS'
  replace hS := hS.trans hS'
  replace hW := hW'
  refine kl_nil ?_
  refine x_seq ?_
  refine k_seq ?_
  refine k_region ?_
  refine kl_val (y_move) rfl rfl rfl ?_
  refine kl_val (y_fieldAddr Try.underlying36 rfl I3 S3 rfl rfl) rfl rfl rfl ?_
  refine kl_val (y_load rfl (ld_one Try.underlying3 rfl (bx_cell hb (pc_drop (a := 32) (o := 0) (by rw [bvs_length]; exact hk) (pc_take rfl))))) rfl rfl rfl ?_
  refine kl_ow rfl (ow_call2 fn47 rfl rfl rfl rfl (number_w hW (by first | omega | (simp only [List.length_append]; omega))) (kret_ret (fun _ w' ⟨v', hW', hS'⟩ => ?_)))
  replace hb := hb.keep hS'.fr nb.no
  replace nb := nb.step hS'
  replace hs := hs.step hS'
  replace hS := hS.trans hS'
  replace hW := hW'
  refine kl_nil ?_
  refine x_seq ?_
  refine k_region ?_
  refine kl_val (y_move) rfl rfl rfl ?_
  refine kl_val (y_fieldAddr Try.underlying36 rfl I3 S3 rfl rfl) rfl rfl rfl ?_
  refine kl_val (y_load rfl (ld_one Try.underlying3 rfl (bx_cell hb (pc_drop (a := 32) (o := 1) (by rw [bvs_length]; exact hk) (pc_drop (a := 1) (o := 0) rfl (pc_last rfl)))))) rfl rfl rfl ?_
  refine kl_ow rfl (ow_call2 fn47 rfl rfl rfl rfl (number_w hW (by first | omega | (simp only [List.length_append]; omega))) (kret_ret (fun _ w' ⟨v', hW', hS'⟩ => ?_)))
  replace hb := hb.keep hS'.fr nb.no
  replace nb := nb.step hS'
  replace hs := hs.step hS'
  replace hS := hS.trans hS'
  replace hW := hW'
  refine kl_nil ?_
  exact k_end0 rfl ⟨_, rfl, _, by simp only [List.append_assoc] at hW; exact hW, hS⟩

set_option maxRecDepth 100000 in
set_option maxHeartbeats 1000000 in
theorem each_prekey_w {p : Addr} {v vs : Value} {l : List UInt8} {xs : List IdKey} {w : World} {B : Nat → Prop} (h : Wr w p v l) (hx : SlX IdKeyR 33 w B vs xs) (hs : Sep w p v B) (hl : l.length + (wEach wIdKey xs).length ≤ 800000000) (hn : xs.length ≤ 800000000)  :
    Ret Try.prog 69 #[.pointer (some p), vs, .func (.func 67) #[] #[]] w (fun _ w' => ∃ v', Wr w' p v' (l ++ wEach wIdKey xs) ∧ WS p w v w' v') := by
  refine k_enter3 Try.func69 rfl Try.ntmps69 rfl ?_
  obtain ⟨sa, sc, rfl⟩ := hx.form
  have hl0 := hl
  simp only [wEach, List.length_append] at hl0
  have hnl := numI_length (xs.length : Int)
  refine k_seq ?_
  refine k_region ?_
  refine kl_val (y_move) rfl rfl rfl ?_
  refine kl_val (y_move) rfl rfl rfl ?_
  refine kl_val (y_lenS Try.underlying50 rfl) rfl rfl rfl ?_
  refine kl_ow rfl (ow_call2 fn47 rfl rfl rfl rfl (number_w h (by omega)) (kret_ret (fun _ w1 ⟨v1, hW, hS⟩ => ?_)))
  replace hx := hx.keep hS.fr hs.no (fun _ _ h => h.keep _ _)
  replace hs := hs.step hS
  refine kl_nil ?_
  refine x_seq ?_
  refine k_seq ?_
  refine k_region ?_
  refine kl_val (y_move) rfl rfl rfl ?_
  refine kl_val (y_lenS Try.underlying50 rfl) rfl rfl rfl ?_
  refine kl_val (y_move) rfl rfl rfl ?_
  refine kl_nil ?_
  refine x_seq ?_
  refine k_block ?_
  refine k_loop (fun m ρ w' => ∃ (i : Nat) (v' : Value), ρ 0 = .pointer (some p) ∧ ρ 2 = .func (.func 67) #[] #[] ∧ ρ 12 = .slice sa xs.length sc ∧ ρ 13 = .int .i64 (xs.length : Int) ∧ ρ 14 = .int .i64 (i : Int) ∧ i ≤ xs.length ∧ m = xs.length - i ∧ Wr w' p v' (l ++ numI (xs.length : Int) ++ (xs.take i).flatMap wIdKey) ∧ WS p w v w' v' ∧ SlX IdKeyR 33 w' B (.slice sa xs.length sc) xs ∧ Sep w' p v' B) xs.length ⟨0, v1, rfl, rfl, rfl, rfl, rfl, Nat.zero_le _, rfl, by simpa using hW, hS, hx, hs⟩ ?_
  clear hx hs hS hW
  rintro m ρ w1 ⟨i, v1, h0, h2, h12, h13, h14, hi, rfl, hW, hS, hx, hs⟩
  obtain ⟨σ, rfl⟩ : ∃ σ, ρ = upd (upd (upd (upd (upd σ 0 (.pointer (some p))) 2 (.func (.func 67) #[] #[])) 12 (.slice sa xs.length sc)) 13 (.int .i64 (xs.length : Int))) 14 (.int .i64 (i : Int)) := ⟨ρ, by rw [upd_self ρ h0, upd_self ρ h2, upd_self ρ h12, upd_self ρ h13, upd_self ρ h14]⟩
  clear h0 h2 h12 h13 h14
  refine k_seq ?_
  refine k_region ?_
  refine kl_val (y_lss rfl rfl) rfl rfl rfl ?_
  refine kl_nil ?_
  refine x_seq ?_
  refine k_seq ?_
  refine k_condp rfl (fun hlt => ?_) (fun hlt => ?_)
  · skip
    have hlt' : i < xs.length := by omega
    obtain ⟨a, cap, cs, hv, hcl, hR, hcs⟩ := hx.get (List.getElem?_eq_getElem hlt')
    have hle := take_flat_le wIdKey xs (i + 1)
    rw [take_flat wIdKey xs i hlt', List.length_append] at hle
    obtain ⟨rfl, rfl⟩ : sa = some a ∧ sc = cap := by simpa using hv
    refine k_skip ?_
    refine x_seq ?_
    refine k_seq ?_
    refine k_block ?_
    refine k_seq ?_
    refine k_region ?_
    refine kl_val (y_indexAddrN Try.underlying50 I49 S49 rfl rfl hlt') rfl rfl rfl ?_
    refine kl_val (y_load rfl (ld_aggB Try.underlying49 rfl I49 S49 hcl hcs)) rfl rfl rfl ?_
    refine kl_ow rfl (ow_alloc I49 Z49 rfl (fun w2 b hb0 hf1 he1 hz1 => ?_))
    refine kl_ow rfl (ow_store I49 S49 rfl (v := .agg cs.toArray) rfl hb0 rfl hcl (by rw [hcl]; decide) hR.one (fun w3 hb hf2 hz2 => ?_))
    rw [splice_all (by rw [hcl]; decide)] at hb
    have hE := ext_store hf1 hf2 (by omega)
    replace hW := hW.ext hE
    replace hS := hS.trans (WS.ext v1 hE)
    replace hx := hx.keep hE (fun _ _ h => h) (fun _ _ h => h.keep _ _)
    replace hR := hR.keep w3 B
    replace hs := hs.ext hE
    refine kl_nil ?_
    refine x_seq ?_
    refine k_region ?_
    refine kl_val (y_move) rfl rfl rfl ?_
    refine kl_val (y_move) rfl rfl rfl ?_
    refine kl_val (y_load rfl (ld_aggB Try.underlying49 rfl I49 S49 hcl hb.cs)) rfl rfl rfl ?_
    refine kl_ow rfl (ow_call2 fn67 rfl rfl rfl rfl (prekey_w hW hR hs (by first | omega | (simp only [List.length_append]; omega))) (kret_ret (fun _ w' ⟨v', hW', hS'⟩ => ?_)))
    replace hx := hx.keep hS'.fr hs.no (fun _ _ h => h.keep _ _)
    replace hs := hs.step hS'
    replace hS := hS.trans hS'
    replace hW := hW'
    refine kl_nil ?_
    refine x_blk ?_
    refine x_seq ?_
    refine k_region ?_
    refine kl_val (y_add64 rfl rfl (by omega)) rfl rfl rfl ?_
    refine kl_val (y_move) rfl rfl rfl ?_
    refine kl_nil ?_
    refine x_lpN (xs.length - (i + 1)) (by omega) ⟨i + 1, v', rfl, rfl, rfl, rfl, rfl, by omega, rfl, ?_, hS, hx, hs⟩
    rw [take_flat wIdKey xs i hlt', ← List.append_assoc]; exact hW
  · skip
    obtain rfl : i = xs.length := by omega
    refine k_exit ?_
    refine x_seqX ?_
    refine x_lpX ?_
    refine x_blkX ?_
    refine k_end0 rfl ⟨_, rfl, v1, ?_, hS⟩
    rw [List.take_length, List.append_assoc] at hW; exact hW

set_option maxRecDepth 100000 in
set_option maxHeartbeats 1000000 in
theorem each_entry_w {p : Addr} {v vs : Value} {l : List UInt8} {xs : List IdKey} {w : World} {B : Nat → Prop} (h : Wr w p v l) (hx : SlX IdKeyR 33 w B vs xs) (hs : Sep w p v B) (hl : l.length + (wEach wIdKey xs).length ≤ 800000000) (hn : xs.length ≤ 800000000)  :
    Ret Try.prog 104 #[.pointer (some p), vs, .func (.func 105) #[] #[]] w (fun _ w' => ∃ v', Wr w' p v' (l ++ wEach wIdKey xs) ∧ WS p w v w' v') := by
  refine k_enter3 Try.func104 rfl Try.ntmps104 rfl ?_
  obtain ⟨sa, sc, rfl⟩ := hx.form
  have hl0 := hl
  simp only [wEach, List.length_append] at hl0
  have hnl := numI_length (xs.length : Int)
  refine k_seq ?_
  refine k_region ?_
  refine kl_val (y_move) rfl rfl rfl ?_
  refine kl_val (y_move) rfl rfl rfl ?_
  refine kl_val (y_lenS Try.underlying43 rfl) rfl rfl rfl ?_
  refine kl_ow rfl (ow_call2 fn47 rfl rfl rfl rfl (number_w h (by omega)) (kret_ret (fun _ w1 ⟨v1, hW, hS⟩ => ?_)))
  replace hx := hx.keep hS.fr hs.no (fun _ _ h => h.keep _ _)
  replace hs := hs.step hS
  refine kl_nil ?_
  refine x_seq ?_
  refine k_seq ?_
  refine k_region ?_
  refine kl_val (y_move) rfl rfl rfl ?_
  refine kl_val (y_lenS Try.underlying43 rfl) rfl rfl rfl ?_
  refine kl_val (y_move) rfl rfl rfl ?_
  refine kl_nil ?_
  refine x_seq ?_
  refine k_block ?_
  refine k_loop (fun m ρ w' => ∃ (i : Nat) (v' : Value), ρ 0 = .pointer (some p) ∧ ρ 2 = .func (.func 105) #[] #[] ∧ ρ 12 = .slice sa xs.length sc ∧ ρ 13 = .int .i64 (xs.length : Int) ∧ ρ 14 = .int .i64 (i : Int) ∧ i ≤ xs.length ∧ m = xs.length - i ∧ Wr w' p v' (l ++ numI (xs.length : Int) ++ (xs.take i).flatMap wIdKey) ∧ WS p w v w' v' ∧ SlX IdKeyR 33 w' B (.slice sa xs.length sc) xs ∧ Sep w' p v' B) xs.length ⟨0, v1, rfl, rfl, rfl, rfl, rfl, Nat.zero_le _, rfl, by simpa using hW, hS, hx, hs⟩ ?_
  clear hx hs hS hW
  rintro m ρ w1 ⟨i, v1, h0, h2, h12, h13, h14, hi, rfl, hW, hS, hx, hs⟩
  obtain ⟨σ, rfl⟩ : ∃ σ, ρ = upd (upd (upd (upd (upd σ 0 (.pointer (some p))) 2 (.func (.func 105) #[] #[])) 12 (.slice sa xs.length sc)) 13 (.int .i64 (xs.length : Int))) 14 (.int .i64 (i : Int)) := ⟨ρ, by rw [upd_self ρ h0, upd_self ρ h2, upd_self ρ h12, upd_self ρ h13, upd_self ρ h14]⟩
  clear h0 h2 h12 h13 h14
  refine k_seq ?_
  refine k_region ?_
  refine kl_val (y_lss rfl rfl) rfl rfl rfl ?_
  refine kl_nil ?_
  refine x_seq ?_
  refine k_seq ?_
  refine k_condp rfl (fun hlt => ?_) (fun hlt => ?_)
  · skip
    have hlt' : i < xs.length := by omega
    obtain ⟨a, cap, cs, hv, hcl, hR, hcs⟩ := hx.get (List.getElem?_eq_getElem hlt')
    have hle := take_flat_le wIdKey xs (i + 1)
    rw [take_flat wIdKey xs i hlt', List.length_append] at hle
    obtain ⟨rfl, rfl⟩ : sa = some a ∧ sc = cap := by simpa using hv
    refine k_skip ?_
    refine x_seq ?_
    refine k_seq ?_
    refine k_block ?_
    refine k_seq ?_
    refine k_region ?_
    refine kl_val (y_indexAddrN Try.underlying43 I122 S122 rfl rfl hlt') rfl rfl rfl ?_
    refine kl_val (y_load rfl (ld_aggB Try.underlying122 rfl I122 S122 hcl hcs)) rfl rfl rfl ?_
    refine kl_ow rfl (ow_alloc I122 Z122 rfl (fun w2 b hb0 hf1 he1 hz1 => ?_))
    refine kl_ow rfl (ow_store I122 S122 rfl (v := .agg cs.toArray) rfl hb0 rfl hcl (by rw [hcl]; decide) hR.one (fun w3 hb hf2 hz2 => ?_))
    rw [splice_all (by rw [hcl]; decide)] at hb
    have hE := ext_store hf1 hf2 (by omega)
    replace hW := hW.ext hE
    replace hS := hS.trans (WS.ext v1 hE)
    replace hx := hx.keep hE (fun _ _ h => h) (fun _ _ h => h.keep _ _)
    replace hR := hR.keep w3 B
    replace hs := hs.ext hE
    refine kl_nil ?_
    refine x_seq ?_
    refine k_region ?_
    refine kl_val (y_move) rfl rfl rfl ?_
    refine kl_val (y_move) rfl rfl rfl ?_
    refine kl_val (y_load rfl (ld_aggB Try.underlying122 rfl I122 S122 hcl hb.cs)) rfl rfl rfl ?_
    refine kl_ow rfl (ow_call2 fn105 rfl rfl rfl rfl (entry_w hW hR hs (by first | omega | (simp only [List.length_append]; omega))) (kret_ret (fun _ w' ⟨v', hW', hS'⟩ => ?_)))
    replace hx := hx.keep hS'.fr hs.no (fun _ _ h => h.keep _ _)
    replace hs := hs.step hS'
    replace hS := hS.trans hS'
    replace hW := hW'
    refine kl_nil ?_
    refine x_blk ?_
    refine x_seq ?_
    refine k_region ?_
    refine kl_val (y_add64 rfl rfl (by omega)) rfl rfl rfl ?_
    refine kl_val (y_move) rfl rfl rfl ?_
    refine kl_nil ?_
    refine x_lpN (xs.length - (i + 1)) (by omega) ⟨i + 1, v', rfl, rfl, rfl, rfl, rfl, by omega, rfl, ?_, hS, hx, hs⟩
    rw [take_flat wIdKey xs i hlt', ← List.append_assoc]; exact hW
  · skip
    obtain rfl : i = xs.length := by omega
    refine k_exit ?_
    refine x_seqX ?_
    refine x_lpX ?_
    refine x_blkX ?_
    refine k_end0 rfl ⟨_, rfl, v1, ?_, hS⟩
    rw [List.take_length, List.append_assoc] at hW; exact hW

set_option maxRecDepth 100000 in
set_option maxHeartbeats 1000000 in
theorem list_w {p : Addr} {v : Value} {l : List UInt8} {x : Lst} {cs : List Value} {w : World} {B : Nat → Prop} (h : Wr w p v l) (hx : LstR w B cs x) (hs : Sep w p v B) (hl : l.length + (wLst x).length ≤ 800000000) (hn : x.devices.length ≤ 800000000) :
    Ret Try.prog 59 #[.pointer (some p), .agg cs.toArray] w (fun _ w' => ∃ v', Wr w' p v' (l ++ wLst x) ∧ WS p w v w' v') := by
  refine k_enter2 Try.func59 rfl Try.ntmps59 rfl ?_
  obtain ⟨hk, hg, vd, hd, rfl⟩ := hx
  simp only [wLst, List.length_append] at hl
  refine k_seq ?_
  refine k_region ?_
  refine kl_ow rfl (ow_boxA rfl rfl (fun w0 b hb hf0 he0 hz0 => ?_))
  have nb := Sep1.new h he0 hz0
  have hW := h.ext hf0
  have hS : WS p w v w0 v := WS.ext v hf0
  replace hd := hd.keep hf0 (fun _ _ h => h) (fun _ _ h => h.keep _ _)
  replace hs := hs.ext hf0
  refine kl_nil ?_
  refine x_seq ?_
  refine k_seq ?_
  refine k_region ?_
  refine kl_val (y_move) rfl rfl rfl ?_
  refine kl_val (y_fieldAddr Try.underlying47 rfl I3 S3 rfl rfl) rfl rfl rfl ?_
  refine kl_val (y_load rfl (ld_one Try.underlying3 rfl (bx_cell hb (pc_take rfl)))) rfl rfl rfl ?_
  refine kl_ow rfl (ow_call2 fn47 rfl rfl rfl rfl (number_w hW (by first | omega | (simp only [List.length_append]; omega))) (kret_ret (fun _ w' ⟨v', hW', hS'⟩ => ?_)))
  replace hb := hb.keep hS'.fr nb.no
  replace nb := nb.step hS'
  replace hd := hd.keep hS'.fr hs.no (fun _ _ h => h.keep _ _)
  replace hs := hs.step hS'
  replace hS := hS.trans hS'
  replace hW := hW'
  refine kl_nil ?_
  refine x_seq ?_
  refine k_seq ?_
  refine k_region ?_
  refine kl_val (y_move) rfl rfl rfl ?_
  refine kl_val (y_fieldAddr Try.underlying47 rfl I3 S3 rfl rfl) rfl rfl rfl ?_
  refine kl_val (y_load rfl (ld_one Try.underlying3 rfl (bx_cell hb (pc_drop (a := 1) (o := 0) rfl (pc_take rfl))))) rfl rfl rfl ?_
  refine kl_ow rfl (ow_call2 fn47 rfl rfl rfl rfl (number_w hW (by first | omega | (simp only [List.length_append]; omega))) (kret_ret (fun _ w' ⟨v', hW', hS'⟩ => ?_)))
  replace hb := hb.keep hS'.fr nb.no
  replace nb := nb.step hS'
  replace hd := hd.keep hS'.fr hs.no (fun _ _ h => h.keep _ _)
  replace hs := hs.step hS'
  replace hS := hS.trans hS'
  replace hW := hW'
  refine kl_nil ?_
  refine x_seq ?_
  refine k_seq ?_
  refine k_region ?_
  refine kl_val (y_move) rfl rfl rfl ?_
  refine kl_val (y_fieldAddr Try.underlying47 rfl I34 S34 rfl rfl) rfl rfl rfl ?_
  refine kl_val (y_load rfl (ld_aggB Try.underlying34 rfl I34 S34 (by rw [bvs_length]; exact hk) (hb.part 2 32 (pc_drop (a := 1) (o := 1) rfl (pc_drop (a := 1) (o := 0) rfl (pc_take (by rw [bvs_length]; exact hk))))))) rfl rfl rfl ?_
  refine kl_ow rfl (ow_call2 fn66 rfl rfl rfl rfl (key_w hW hk (by first | omega | (simp only [List.length_append]; omega))) (kret_ret (fun _ w' ⟨v', hW', hS'⟩ => ?_)))
  replace hb := hb.keep hS'.fr nb.no
  replace nb := nb.step hS'
  replace hd := hd.keep hS'.fr hs.no (fun _ _ h => h.keep _ _)
  replace hs := hs.step hS'
  replace hS := hS.trans hS'
  replace hW := hW'
  refine kl_nil ?_
  refine x_seq ?_
  refine k_seq ?_
  refine k_region ?_
  refine kl_val (y_move) rfl rfl rfl ?_
  refine kl_val (y_fieldAddr Try.underlying47 rfl I43 S43 rfl rfl) rfl rfl rfl ?_
  refine kl_val (y_load rfl (ld_one Try.underlying43 rfl (bx_cell hb (pc_drop (a := 1) (o := 33) rfl (pc_drop (a := 1) (o := 32) rfl (pc_drop (a := 32) (o := 0) (by rw [bvs_length]; exact hk) (pc_take rfl))))))) rfl rfl rfl ?_
  refine kl_ow rfl (ow_call3 fn104 rfl rfl rfl rfl rfl (each_entry_w hW hd hs (by first | omega | (simp only [List.length_append]; omega)) hn) (kret_ret (fun _ w' ⟨v', hW', hS'⟩ => ?_)))
  replace hb := hb.keep hS'.fr nb.no
  replace nb := nb.step hS'
  replace hd := hd.keep hS'.fr hs.no (fun _ _ h => h.keep _ _)
  replace hs := hs.step hS'
  replace hS := hS.trans hS'
  replace hW := hW'
  refine kl_nil ?_
  refine x_seq ?_
  refine k_region ?_
  refine kl_val (y_move) rfl rfl rfl ?_
  refine kl_val (y_fieldAddr Try.underlying47 rfl I45 S45 rfl rfl) rfl rfl rfl ?_
  refine kl_val (y_load rfl (ld_aggB Try.underlying45 rfl I45 S45 (by rw [bvs_length]; exact hg) (hb.part 35 64 (pc_drop (a := 1) (o := 34) rfl (pc_drop (a := 1) (o := 33) rfl (pc_drop (a := 32) (o := 1) (by rw [bvs_length]; exact hk) (pc_drop (a := 1) (o := 0) rfl (pc_last (by rw [bvs_length]; exact hg))))))))) rfl rfl rfl ?_
  refine kl_ow rfl (ow_call2 fn68 rfl rfl rfl rfl (sig_w hW hg (by first | omega | (simp only [List.length_append]; omega))) (kret_ret (fun _ w' ⟨v', hW', hS'⟩ => ?_)))
  replace hb := hb.keep hS'.fr nb.no
  replace nb := nb.step hS'
  replace hd := hd.keep hS'.fr hs.no (fun _ _ h => h.keep _ _)
  replace hs := hs.step hS'
  replace hS := hS.trans hS'
  replace hW := hW'
  refine kl_nil ?_
  exact k_end0 rfl ⟨_, rfl, _, by simp only [List.append_assoc] at hW; exact hW, hS⟩

set_option maxRecDepth 100000 in
set_option maxHeartbeats 1000000 in
theorem bundle_w {p : Addr} {v : Value} {l : List UInt8} {x : Bdl} {cs : List Value} {w : World} {B : Nat → Prop} (h : Wr w p v l) (hx : BdlR w B cs x) (hs : Sep w p v B) (hl : l.length + (wBdl x).length ≤ 800000000) (hn : x.one.length ≤ 800000000) :
    Ret Try.prog 76 #[.pointer (some p), .agg cs.toArray] w (fun _ w' => ∃ v', Wr w' p v' (l ++ wBdl x) ∧ WS p w v w' v') := by
  refine k_enter2 Try.func76 rfl Try.ntmps76 rfl ?_
  obtain ⟨hk, hj, hg, pc, vo, hp, ho, rfl⟩ := hx
  have hpl := hp.length
  simp only [wBdl, List.length_append] at hl
  refine k_seq ?_
  refine k_region ?_
  refine kl_ow rfl (ow_boxA rfl rfl (fun w0 b hb hf0 he0 hz0 => ?_))
  have nb := Sep1.new h he0 hz0
  have hW := h.ext hf0
  have hS : WS p w v w0 v := WS.ext v hf0
  replace ho := ho.keep hf0 (fun _ _ h => h) (fun _ _ h => h.keep _ _)
  replace hs := hs.ext hf0
  refine kl_nil ?_
  refine x_seq ?_
  refine k_seq ?_
  refine k_region ?_
  refine kl_val (y_move) rfl rfl rfl ?_
  refine kl_val (y_fieldAddr Try.underlying58 rfl I3 S3 rfl rfl) rfl rfl rfl ?_
  refine kl_val (y_load rfl (ld_one Try.underlying3 rfl (bx_cell hb (pc_take rfl)))) rfl rfl rfl ?_
  refine kl_ow rfl (ow_call2 fn47 rfl rfl rfl rfl (number_w hW (by first | omega | (simp only [List.length_append]; omega))) (kret_ret (fun _ w' ⟨v', hW', hS'⟩ => ?_)))
  replace hb := hb.keep hS'.fr nb.no
  replace nb := nb.step hS'
  replace ho := ho.keep hS'.fr hs.no (fun _ _ h => h.keep _ _)
  replace hs := hs.step hS'
  replace hS := hS.trans hS'
  replace hW := hW'
  refine kl_nil ?_
  refine x_seq ?_
  refine k_seq ?_
  refine k_region ?_
  refine kl_val (y_move) rfl rfl rfl ?_
  refine kl_val (y_fieldAddr Try.underlying58 rfl I3 S3 rfl rfl) rfl rfl rfl ?_
  refine kl_val (y_load rfl (ld_one Try.underlying3 rfl (bx_cell hb (pc_drop (a := 1) (o := 0) rfl (pc_take rfl))))) rfl rfl rfl ?_
  refine kl_ow rfl (ow_call2 fn47 rfl rfl rfl rfl (number_w hW (by first | omega | (simp only [List.length_append]; omega))) (kret_ret (fun _ w' ⟨v', hW', hS'⟩ => ?_)))
  replace hb := hb.keep hS'.fr nb.no
  replace nb := nb.step hS'
  replace ho := ho.keep hS'.fr hs.no (fun _ _ h => h.keep _ _)
  replace hs := hs.step hS'
  replace hS := hS.trans hS'
  replace hW := hW'
  refine kl_nil ?_
  refine x_seq ?_
  refine k_seq ?_
  refine k_region ?_
  refine kl_val (y_move) rfl rfl rfl ?_
  refine kl_val (y_fieldAddr Try.underlying58 rfl I34 S34 rfl rfl) rfl rfl rfl ?_
  refine kl_val (y_load rfl (ld_aggB Try.underlying34 rfl I34 S34 (by rw [bvs_length]; exact hk) (hb.part 2 32 (pc_drop (a := 1) (o := 1) rfl (pc_drop (a := 1) (o := 0) rfl (pc_take (by rw [bvs_length]; exact hk))))))) rfl rfl rfl ?_
  refine kl_ow rfl (ow_call2 fn66 rfl rfl rfl rfl (key_w hW hk (by first | omega | (simp only [List.length_append]; omega))) (kret_ret (fun _ w' ⟨v', hW', hS'⟩ => ?_)))
  replace hb := hb.keep hS'.fr nb.no
  replace nb := nb.step hS'
  replace ho := ho.keep hS'.fr hs.no (fun _ _ h => h.keep _ _)
  replace hs := hs.step hS'
  replace hS := hS.trans hS'
  replace hW := hW'
  refine kl_nil ?_
  refine x_seq ?_
  refine k_seq ?_
  refine k_region ?_
  refine kl_val (y_move) rfl rfl rfl ?_
  refine kl_val (y_fieldAddr Try.underlying58 rfl I34 S34 rfl rfl) rfl rfl rfl ?_
  refine kl_val (y_load rfl (ld_aggB Try.underlying34 rfl I34 S34 (by rw [bvs_length]; exact hj) (hb.part 34 32 (pc_drop (a := 1) (o := 33) rfl (pc_drop (a := 1) (o := 32) rfl (pc_drop (a := 32) (o := 0) (by rw [bvs_length]; exact hk) (pc_take (by rw [bvs_length]; exact hj)))))))) rfl rfl rfl ?_
  refine kl_ow rfl (ow_call2 fn66 rfl rfl rfl rfl (key_w hW hj (by first | omega | (simp only [List.length_append]; omega))) (kret_ret (fun _ w' ⟨v', hW', hS'⟩ => ?_)))
  replace hb := hb.keep hS'.fr nb.no
  replace nb := nb.step hS'
  replace ho := ho.keep hS'.fr hs.no (fun _ _ h => h.keep _ _)
  replace hs := hs.step hS'
  replace hS := hS.trans hS'
  replace hW := hW'
  refine kl_nil ?_
  refine x_seq ?_
  refine k_seq ?_
  refine k_region ?_
  refine kl_val (y_move) rfl rfl rfl ?_
  refine kl_val (y_fieldAddr Try.underlying58 rfl I49 S49 rfl rfl) rfl rfl rfl ?_
  refine kl_val (y_load rfl (ld_aggB Try.underlying49 rfl I49 S49 hpl (hb.part 66 33 (pc_drop (a := 1) (o := 65) rfl (pc_drop (a := 1) (o := 64) rfl (pc_drop (a := 32) (o := 32) (by rw [bvs_length]; exact hk) (pc_drop (a := 32) (o := 0) (by rw [bvs_length]; exact hj) (pc_take hpl)))))))) rfl rfl rfl ?_
  refine kl_ow rfl (ow_call2 fn67 rfl rfl rfl rfl (prekey_w hW (hp.keep _ _) hs (by first | omega | (simp only [List.length_append]; omega))) (kret_ret (fun _ w' ⟨v', hW', hS'⟩ => ?_)))
  replace hb := hb.keep hS'.fr nb.no
  replace nb := nb.step hS'
  replace ho := ho.keep hS'.fr hs.no (fun _ _ h => h.keep _ _)
  replace hs := hs.step hS'
  replace hS := hS.trans hS'
  replace hW := hW'
  refine kl_nil ?_
  refine x_seq ?_
  refine k_seq ?_
  refine k_region ?_
  refine kl_val (y_move) rfl rfl rfl ?_
  refine kl_val (y_fieldAddr Try.underlying58 rfl I45 S45 rfl rfl) rfl rfl rfl ?_
  refine kl_val (y_load rfl (ld_aggB Try.underlying45 rfl I45 S45 (by rw [bvs_length]; exact hg) (hb.part 99 64 (pc_drop (a := 1) (o := 98) rfl (pc_drop (a := 1) (o := 97) rfl (pc_drop (a := 32) (o := 65) (by rw [bvs_length]; exact hk) (pc_drop (a := 32) (o := 33) (by rw [bvs_length]; exact hj) (pc_drop (a := 33) (o := 0) hpl (pc_take (by rw [bvs_length]; exact hg)))))))))) rfl rfl rfl ?_
  refine kl_ow rfl (ow_call2 fn68 rfl rfl rfl rfl (sig_w hW hg (by first | omega | (simp only [List.length_append]; omega))) (kret_ret (fun _ w' ⟨v', hW', hS'⟩ => ?_)))
  replace hb := hb.keep hS'.fr nb.no
  replace nb := nb.step hS'
  replace ho := ho.keep hS'.fr hs.no (fun _ _ h => h.keep _ _)
  replace hs := hs.step hS'
  replace hS := hS.trans hS'
  replace hW := hW'
  refine kl_nil ?_
  refine x_seq ?_
  refine k_region ?_
  refine kl_val (y_move) rfl rfl rfl ?_
  refine kl_val (y_fieldAddr Try.underlying58 rfl I50 S50 rfl rfl) rfl rfl rfl ?_
  refine kl_val (y_load rfl (ld_one Try.underlying50 rfl (bx_cell hb (pc_drop (a := 1) (o := 162) rfl (pc_drop (a := 1) (o := 161) rfl (pc_drop (a := 32) (o := 129) (by rw [bvs_length]; exact hk) (pc_drop (a := 32) (o := 97) (by rw [bvs_length]; exact hj) (pc_drop (a := 33) (o := 64) hpl (pc_drop (a := 64) (o := 0) (by rw [bvs_length]; exact hg) (pc_last rfl)))))))))) rfl rfl rfl ?_
  refine kl_ow rfl (ow_call3 fn69 rfl rfl rfl rfl rfl (each_prekey_w hW ho hs (by first | omega | (simp only [List.length_append]; omega)) hn) (kret_ret (fun _ w' ⟨v', hW', hS'⟩ => ?_)))
  replace hb := hb.keep hS'.fr nb.no
  replace nb := nb.step hS'
  replace ho := ho.keep hS'.fr hs.no (fun _ _ h => h.keep _ _)
  replace hs := hs.step hS'
  replace hS := hS.trans hS'
  replace hW := hW'
  refine kl_nil ?_
  exact k_end0 rfl ⟨_, rfl, _, by simp only [List.append_assoc] at hW; exact hW, hS⟩

set_option maxRecDepth 100000 in
set_option maxHeartbeats 1000000 in
theorem envelope_w {p : Addr} {v : Value} {l : List UInt8} {x : Env'} {cs : List Value} {w : World} {B : Nat → Prop} (h : Wr w p v l) (hx : EnvR w B cs x) (hs : Sep w p v B) (hl : l.length + (wEnv x).length ≤ 800000000) (h1 : -9223372036854775808 ≤ x.one) :
    Ret Try.prog 56 #[.pointer (some p), .agg cs.toArray] w (fun _ w' => ∃ v', Wr w' p v' (l ++ wEnv x) ∧ WS p w v w' v') := by
  refine k_enter2 Try.func56 rfl Try.ntmps56 rfl ?_
  obtain ⟨hk, hc, vb, hh, hb0, rfl⟩ := hx
  have hhl := hh.length
  have hbl : (wText x.body).length = (numI x.body.length).length + x.body.length := by simp [wText]
  have hbs : (ByteArray.mk x.body.toArray).size = x.body.length := by simp [ByteArray.size]
  simp only [wEnv, List.length_append] at hl
  refine k_seq ?_
  refine k_region ?_
  refine kl_ow rfl (ow_boxA rfl rfl (fun w0 b hb hf0 he0 hz0 => ?_))
  have nb := Sep1.new h he0 hz0
  have hW := h.ext hf0
  have hS : WS p w v w0 v := WS.ext v hf0
  replace hb0 := hb0.keep hf0 (fun _ _ h => h)
  replace hs := hs.ext hf0
  refine kl_nil ?_
  refine x_seq ?_
  refine k_seq ?_
  refine k_region ?_
  refine kl_val (y_move) rfl rfl rfl ?_
  refine kl_val (y_fieldAddr Try.underlying38 rfl I3 S3 rfl rfl) rfl rfl rfl ?_
  refine kl_val (y_load rfl (ld_one Try.underlying3 rfl (bx_cell hb (pc_take rfl)))) rfl rfl rfl ?_
  refine kl_ow rfl (ow_call2 fn47 rfl rfl rfl rfl (number_w hW (by first | omega | (simp only [List.length_append]; omega))) (kret_ret (fun _ w' ⟨v', hW', hS'⟩ => ?_)))
  replace hb := hb.keep hS'.fr nb.no
  replace nb := nb.step hS'
  replace hb0 := hb0.keep hS'.fr hs.no
  replace hs := hs.step hS'
  replace hS := hS.trans hS'
  replace hW := hW'
  refine kl_nil ?_
  refine x_seq ?_
  refine k_seq ?_
  refine k_region ?_
  refine kl_val (y_move) rfl rfl rfl ?_
  refine kl_val (y_fieldAddr Try.underlying38 rfl I3 S3 rfl rfl) rfl rfl rfl ?_
  refine kl_val (y_load rfl (ld_one Try.underlying3 rfl (bx_cell hb (pc_drop (a := 1) (o := 0) rfl (pc_take rfl))))) rfl rfl rfl ?_
  refine kl_ow rfl (ow_call2 fn47 rfl rfl rfl rfl (number_w hW (by first | omega | (simp only [List.length_append]; omega))) (kret_ret (fun _ w' ⟨v', hW', hS'⟩ => ?_)))
  replace hb := hb.keep hS'.fr nb.no
  replace nb := nb.step hS'
  replace hb0 := hb0.keep hS'.fr hs.no
  replace hs := hs.step hS'
  replace hS := hS.trans hS'
  replace hW := hW'
  refine kl_nil ?_
  refine x_seq ?_
  refine k_seq ?_
  refine k_region ?_
  refine kl_val (y_move) rfl rfl rfl ?_
  refine kl_val (y_fieldAddr Try.underlying38 rfl I4 S4 rfl rfl) rfl rfl rfl ?_
  refine kl_val (y_load rfl (ld_one Try.underlying4 rfl (bx_cell hb (pc_drop (a := 1) (o := 1) rfl (pc_drop (a := 1) (o := 0) rfl (pc_take rfl)))))) rfl rfl rfl ?_
  refine kl_ow rfl (ow_call2 fn48 rfl rfl rfl rfl (truth_w hW (by first | omega | (simp only [List.length_append]; omega))) (kret_ret (fun _ w' ⟨v', hW', hS'⟩ => ?_)))
  replace hb := hb.keep hS'.fr nb.no
  replace nb := nb.step hS'
  replace hb0 := hb0.keep hS'.fr hs.no
  replace hs := hs.step hS'
  replace hS := hS.trans hS'
  replace hW := hW'
  refine kl_nil ?_
  refine x_seq ?_
  refine k_seq ?_
  refine k_region ?_
  refine kl_val (y_move) rfl rfl rfl ?_
  refine kl_val (y_fieldAddr Try.underlying38 rfl I34 S34 rfl rfl) rfl rfl rfl ?_
  refine kl_val (y_load rfl (ld_aggB Try.underlying34 rfl I34 S34 (by rw [bvs_length]; exact hk) (hb.part 3 32 (pc_drop (a := 1) (o := 2) rfl (pc_drop (a := 1) (o := 1) rfl (pc_drop (a := 1) (o := 0) rfl (pc_take (by rw [bvs_length]; exact hk)))))))) rfl rfl rfl ?_
  refine kl_ow rfl (ow_call2 fn66 rfl rfl rfl rfl (key_w hW hk (by first | omega | (simp only [List.length_append]; omega))) (kret_ret (fun _ w' ⟨v', hW', hS'⟩ => ?_)))
  replace hb := hb.keep hS'.fr nb.no
  replace nb := nb.step hS'
  replace hb0 := hb0.keep hS'.fr hs.no
  replace hs := hs.step hS'
  replace hS := hS.trans hS'
  replace hW := hW'
  refine kl_nil ?_
  refine x_seq ?_
  refine k_seq ?_
  refine k_region ?_
  refine kl_val (y_move) rfl rfl rfl ?_
  refine kl_val (y_fieldAddr Try.underlying38 rfl I3 S3 rfl rfl) rfl rfl rfl ?_
  refine kl_val (y_load rfl (ld_one Try.underlying3 rfl (bx_cell hb (pc_drop (a := 1) (o := 34) rfl (pc_drop (a := 1) (o := 33) rfl (pc_drop (a := 1) (o := 32) rfl (pc_drop (a := 32) (o := 0) (by rw [bvs_length]; exact hk) (pc_take rfl)))))))) rfl rfl rfl ?_
  refine kl_ow rfl (ow_call2 fn47 rfl rfl rfl rfl (number_w hW (by first | omega | (simp only [List.length_append]; omega))) (kret_ret (fun _ w' ⟨v', hW', hS'⟩ => ?_)))
  replace hb := hb.keep hS'.fr nb.no
  replace nb := nb.step hS'
  replace hb0 := hb0.keep hS'.fr hs.no
  replace hs := hs.step hS'
  replace hS := hS.trans hS'
  replace hW := hW'
  refine kl_nil ?_
  refine x_seq ?_
  refine k_seq ?_
  refine k_region ?_
  refine kl_val (y_move) rfl rfl rfl ?_
  refine kl_val (y_fieldAddr Try.underlying38 rfl I3 S3 rfl rfl) rfl rfl rfl ?_
  refine kl_val (y_load rfl (ld_one Try.underlying3 rfl (bx_cell hb (pc_drop (a := 1) (o := 35) rfl (pc_drop (a := 1) (o := 34) rfl (pc_drop (a := 1) (o := 33) rfl (pc_drop (a := 32) (o := 1) (by rw [bvs_length]; exact hk) (pc_drop (a := 1) (o := 0) rfl (pc_take rfl))))))))) rfl rfl rfl ?_
  refine kl_val (y_min rfl rfl) rfl rfl rfl ?_
  refine kl_val (Y.cast (v' := .int .i64 (min x.one 1099511627775 + 1)) (y_add rfl rfl) (congrArg (Value.int .i64) (wrap64_eq (by omega) (by omega)))) rfl rfl rfl ?_
  refine kl_ow rfl (ow_call2 fn47 rfl rfl rfl rfl (number_w hW (by first | omega | (simp only [List.length_append]; omega))) (kret_ret (fun _ w' ⟨v', hW', hS'⟩ => ?_)))
  replace hb := hb.keep hS'.fr nb.no
  replace nb := nb.step hS'
  replace hb0 := hb0.keep hS'.fr hs.no
  replace hs := hs.step hS'
  replace hS := hS.trans hS'
  replace hW := hW'
  refine kl_nil ?_
  refine x_seq ?_
  refine k_seq ?_
  refine k_region ?_
  refine kl_val (y_move) rfl rfl rfl ?_
  refine kl_val (y_fieldAddr Try.underlying38 rfl I36 S36 rfl rfl) rfl rfl rfl ?_
  refine kl_val (y_load rfl (ld_aggB Try.underlying36 rfl I36 S36 hhl (hb.part 37 34 (pc_drop (a := 1) (o := 36) rfl (pc_drop (a := 1) (o := 35) rfl (pc_drop (a := 1) (o := 34) rfl (pc_drop (a := 32) (o := 2) (by rw [bvs_length]; exact hk) (pc_drop (a := 1) (o := 1) rfl (pc_drop (a := 1) (o := 0) rfl (pc_take hhl)))))))))) rfl rfl rfl ?_
  refine kl_ow rfl (ow_call2 fn75 rfl rfl rfl rfl (header_w hW (hh.keep _ _) hs (by first | omega | (simp only [List.length_append]; omega))) (kret_ret (fun _ w' ⟨v', hW', hS'⟩ => ?_)))
  replace hb := hb.keep hS'.fr nb.no
  replace nb := nb.step hS'
  replace hb0 := hb0.keep hS'.fr hs.no
  replace hs := hs.step hS'
  replace hS := hS.trans hS'
  replace hW := hW'
  refine kl_nil ?_
  refine x_seq ?_
  refine k_region ?_
  refine kl_val (y_move) rfl rfl rfl ?_
  refine kl_val (y_fieldAddr Try.underlying38 rfl I22 S22 rfl rfl) rfl rfl rfl ?_
  refine kl_val (y_load rfl (ld_one Try.underlying22 rfl (bx_cell hb (pc_drop (a := 1) (o := 70) rfl (pc_drop (a := 1) (o := 69) rfl (pc_drop (a := 1) (o := 68) rfl (pc_drop (a := 32) (o := 36) (by rw [bvs_length]; exact hk) (pc_drop (a := 1) (o := 35) rfl (pc_drop (a := 1) (o := 34) rfl (pc_drop (a := 34) (o := 0) hhl (pc_last rfl))))))))))) rfl rfl rfl ?_
  refine kl_val (y_b2s Try.underlying22 Try.underlying5 Try.underlying9 rfl hb0) rfl rfl rfl ?_
  refine kl_ow rfl (ow_call2 fn46 rfl rfl rfl rfl (text_w hW (s := ⟨x.body.toArray⟩) (by rw [hbs]; first | omega | (simp only [List.length_append]; omega))) (kret_ret (fun _ w' ⟨v', hW', hS'⟩ => ?_)))
  replace hb := hb.keep hS'.fr nb.no
  replace nb := nb.step hS'
  replace hb0 := hb0.keep hS'.fr hs.no
  replace hs := hs.step hS'
  replace hS := hS.trans hS'
  replace hW := hW'
  refine kl_nil ?_
  exact k_end0 rfl ⟨_, rfl, _, by simp only [List.append_assoc] at hW; exact hW, hS⟩

end Go.Proofs.Ythpocekigliomaa.K
