/- The writer of letters, slots, names in a row. Conditions: a writer stands at p, what is read is none of its own, its buffer is not too long. -/
import Derived.Test.YthpocekigliomaaKWb
namespace Go.Proofs.Ythpocekigliomaa.K
open Go

set_option maxRecDepth 100000 in
set_option maxHeartbeats 1000000 in
theorem each_envelope_w {p : Addr} {v vs : Value} {l : List UInt8} {xs : List Env'} {w : World} {B : Nat → Prop} (h : Wr w p v l) (hx : SlX EnvR 72 w B vs xs) (hs : Sep w p v B) (hl : l.length + (wEach wEnv xs).length ≤ 800000000) (hn : xs.length ≤ 800000000) (h1 : ∀ x ∈ xs, -9223372036854775808 ≤ x.one) :
    Ret Try.prog 77 #[.pointer (some p), vs, .func (.func 56) #[] #[]] w (fun _ w' => ∃ v', Wr w' p v' (l ++ wEach wEnv xs) ∧ WS p w v w' v') := by
  refine k_enter3 Try.func77 rfl Try.ntmps77 rfl ?_
  obtain ⟨sa, sc, rfl⟩ := hx.form
  have hl0 := hl
  simp only [wEach, List.length_append] at hl0
  have hnl := numI_length (xs.length : Int)
  refine k_seq ?_
  refine k_region ?_
  refine kl_val (y_move) rfl rfl rfl ?_
  refine kl_val (y_move) rfl rfl rfl ?_
  refine kl_val (y_lenS Try.underlying59 rfl) rfl rfl rfl ?_
  refine kl_ow rfl (ow_call2 fn47 rfl rfl rfl rfl (number_w h (by omega)) (kret_ret (fun _ w1 ⟨v1, hW, hS⟩ => ?_)))
  replace hx := hx.keep hS.fr hs.no (fun _ _ h => h.keep hS.fr hs.no)
  replace hs := hs.step hS
  refine kl_nil ?_
  refine x_seq ?_
  refine k_seq ?_
  refine k_region ?_
  refine kl_val (y_move) rfl rfl rfl ?_
  refine kl_val (y_lenS Try.underlying59 rfl) rfl rfl rfl ?_
  refine kl_val (y_move) rfl rfl rfl ?_
  refine kl_nil ?_
  refine x_seq ?_
  refine k_block ?_
  refine k_loop (fun m ρ w' => ∃ (i : Nat) (v' : Value), ρ 0 = .pointer (some p) ∧ ρ 2 = .func (.func 56) #[] #[] ∧ ρ 12 = .slice sa xs.length sc ∧ ρ 13 = .int .i64 (xs.length : Int) ∧ ρ 14 = .int .i64 (i : Int) ∧ i ≤ xs.length ∧ m = xs.length - i ∧ Wr w' p v' (l ++ numI (xs.length : Int) ++ (xs.take i).flatMap wEnv) ∧ WS p w v w' v' ∧ SlX EnvR 72 w' B (.slice sa xs.length sc) xs ∧ Sep w' p v' B) xs.length ⟨0, v1, rfl, rfl, rfl, rfl, rfl, Nat.zero_le _, rfl, by simpa using hW, hS, hx, hs⟩ ?_
  clear hx hs hS hW
  rintro m ρ w1 ⟨i, v1, h0, h2, h12, h13, h14, hi, rfl, hW, hS, hx, hs⟩
  obtain ⟨σ, rfl⟩ : ∃ σ, ρ = upd (upd (upd (upd (upd σ 0 (.pointer (some p))) 2 (.func (.func 56) #[] #[])) 12 (.slice sa xs.length sc)) 13 (.int .i64 (xs.length : Int))) 14 (.int .i64 (i : Int)) := ⟨ρ, by rw [upd_self ρ h0, upd_self ρ h2, upd_self ρ h12, upd_self ρ h13, upd_self ρ h14]⟩
  clear h0 h2 h12 h13 h14
  refine k_seq ?_
  refine k_region ?_
  refine kl_val (y_lss rfl rfl) rfl rfl rfl ?_
  refine kl_nil ?_
  refine x_seq ?_
  refine k_seq ?_
  refine k_condp rfl (fun hlt => ?_) (fun hlt => ?_)
  · skip
    have hlt' : i < xs.length := by omega
    obtain ⟨a, cap, cs, hv, hcl, hR, hcs⟩ := hx.get (List.getElem?_eq_getElem hlt')
    have hle := take_flat_le wEnv xs (i + 1)
    rw [take_flat wEnv xs i hlt', List.length_append] at hle
    obtain ⟨rfl, rfl⟩ : sa = some a ∧ sc = cap := by simpa using hv
    refine k_skip ?_
    refine x_seq ?_
    refine k_seq ?_
    refine k_block ?_
    refine k_seq ?_
    refine k_region ?_
    refine kl_val (y_indexAddrN Try.underlying59 I38 S38 rfl rfl hlt') rfl rfl rfl ?_
    refine kl_val (y_load rfl (ld_aggB Try.underlying38 rfl I38 S38 hcl hcs)) rfl rfl rfl ?_
    refine kl_ow rfl (ow_alloc I38 Z38 rfl (fun w2 b hb0 hf1 he1 hz1 => ?_))
    refine kl_ow rfl (ow_store I38 S38 rfl (v := .agg cs.toArray) rfl hb0 rfl hcl (by rw [hcl]; decide) hR.one (fun w3 hb hf2 hz2 => ?_))
    rw [splice_all (by rw [hcl]; decide)] at hb
    have hE := ext_store hf1 hf2 (by omega)
    replace hW := hW.ext hE
    replace hS := hS.trans (WS.ext v1 hE)
    replace hx := hx.keep hE (fun _ _ h => h) (fun _ _ h => h.keep hE (fun _ _ h => h))
    replace hR := hR.keep hE (fun _ _ h => h)
    replace hs := hs.ext hE
    refine kl_nil ?_
    refine x_seq ?_
    refine k_region ?_
    refine kl_val (y_move) rfl rfl rfl ?_
    refine kl_val (y_move) rfl rfl rfl ?_
    refine kl_val (y_load rfl (ld_aggB Try.underlying38 rfl I38 S38 hcl hb.cs)) rfl rfl rfl ?_
    refine kl_ow rfl (ow_call2 fn56 rfl rfl rfl rfl (envelope_w hW hR hs (by first | omega | (simp only [List.length_append]; omega)) (h1 _ (List.getElem_mem hlt'))) (kret_ret (fun _ w' ⟨v', hW', hS'⟩ => ?_)))
    replace hx := hx.keep hS'.fr hs.no (fun _ _ h => h.keep hS'.fr hs.no)
    replace hs := hs.step hS'
    replace hS := hS.trans hS'
    replace hW := hW'
    refine kl_nil ?_
    refine x_blk ?_
    refine x_seq ?_
    refine k_region ?_
    refine kl_val (y_add64 rfl rfl (by omega)) rfl rfl rfl ?_
    refine kl_val (y_move) rfl rfl rfl ?_
    refine kl_nil ?_
    refine x_lpN (xs.length - (i + 1)) (by omega) ⟨i + 1, v', rfl, rfl, rfl, rfl, rfl, by omega, rfl, ?_, hS, hx, hs⟩
    rw [take_flat wEnv xs i hlt', ← List.append_assoc]; exact hW
  · skip
    obtain rfl : i = xs.length := by omega
    refine k_exit ?_
    refine x_seqX ?_
    refine x_lpX ?_
    refine x_blkX ?_
    refine k_end0 rfl ⟨_, rfl, v1, ?_, hS⟩
    rw [List.take_length, List.append_assoc] at hW; exact hW

set_option maxRecDepth 100000 in
set_option maxHeartbeats 1000000 in
theorem item_w {p : Addr} {v : Value} {l : List UInt8} {x : Item'} {cs : List Value} {w : World} {B : Nat → Prop} (h : Wr w p v l) (hx : ItemR w B cs x) (hs : Sep w p v B) (hl : l.length + (wItem x).length ≤ 800000000) (h1 : -9223372036854775808 ≤ x.env.one) :
    Ret Try.prog 71 #[.pointer (some p), .agg cs.toArray] w (fun _ w' => ∃ v', Wr w' p v' (l ++ wItem x) ∧ WS p w v w' v') := by
  refine k_enter2 Try.func71 rfl Try.ntmps71 rfl ?_
  obtain ⟨ec, he, rfl⟩ := hx
  have hel := he.length
  simp only [wItem, List.length_append] at hl
  refine k_seq ?_
  refine k_region ?_
  refine kl_ow rfl (ow_boxA rfl rfl (fun w0 b hb hf0 he0 hz0 => ?_))
  have nb := Sep1.new h he0 hz0
  have hW := h.ext hf0
  have hS : WS p w v w0 v := WS.ext v hf0
  replace he := he.keep hf0 (fun _ _ h => h)
  replace hs := hs.ext hf0
  refine kl_nil ?_
  refine x_seq ?_
  refine k_seq ?_
  refine k_region ?_
  refine kl_val (y_move) rfl rfl rfl ?_
  refine kl_val (y_fieldAddr Try.underlying55 rfl I3 S3 rfl rfl) rfl rfl rfl ?_
  refine kl_val (y_load rfl (ld_one Try.underlying3 rfl (bx_cell hb (pc_take rfl)))) rfl rfl rfl ?_
  refine kl_ow rfl (ow_call2 fn47 rfl rfl rfl rfl (number_w hW (by first | omega | (simp only [List.length_append]; omega))) (kret_ret (fun _ w' ⟨v', hW', hS'⟩ => ?_)))
  replace hb := hb.keep hS'.fr nb.no
  replace nb := nb.step hS'
  replace he := he.keep hS'.fr hs.no
  replace hs := hs.step hS'
  replace hS := hS.trans hS'
  replace hW := hW'
  refine kl_nil ?_
  refine x_seq ?_
  refine k_region ?_
  refine kl_val (y_move) rfl rfl rfl ?_
  refine kl_val (y_fieldAddr Try.underlying55 rfl I38 S38 rfl rfl) rfl rfl rfl ?_
  refine kl_val (y_load rfl (ld_aggB Try.underlying38 rfl I38 S38 hel (hb.part 1 72 (pc_drop (a := 1) (o := 0) rfl (pc_last hel))))) rfl rfl rfl ?_
  refine kl_ow rfl (ow_call2 fn56 rfl rfl rfl rfl (envelope_w hW he hs (by first | omega | (simp only [List.length_append]; omega)) h1) (kret_ret (fun _ w' ⟨v', hW', hS'⟩ => ?_)))
  replace hb := hb.keep hS'.fr nb.no
  replace nb := nb.step hS'
  replace he := he.keep hS'.fr hs.no
  replace hs := hs.step hS'
  replace hS := hS.trans hS'
  replace hW := hW'
  refine kl_nil ?_
  exact k_end0 rfl ⟨_, rfl, _, by simp only [List.append_assoc] at hW; exact hW, hS⟩

set_option maxRecDepth 100000 in
set_option maxHeartbeats 1000000 in
theorem each_item_w {p : Addr} {v vs : Value} {l : List UInt8} {xs : List Item'} {w : World} {B : Nat → Prop} (h : Wr w p v l) (hx : SlX ItemR 73 w B vs xs) (hs : Sep w p v B) (hl : l.length + (wEach wItem xs).length ≤ 800000000) (hn : xs.length ≤ 800000000) (h1 : ∀ x ∈ xs, -9223372036854775808 ≤ x.env.one) :
    Ret Try.prog 70 #[.pointer (some p), vs, .func (.func 71) #[] #[]] w (fun _ w' => ∃ v', Wr w' p v' (l ++ wEach wItem xs) ∧ WS p w v w' v') := by
  refine k_enter3 Try.func70 rfl Try.ntmps70 rfl ?_
  obtain ⟨sa, sc, rfl⟩ := hx.form
  have hl0 := hl
  simp only [wEach, List.length_append] at hl0
  have hnl := numI_length (xs.length : Int)
  refine k_seq ?_
  refine k_region ?_
  refine kl_val (y_move) rfl rfl rfl ?_
  refine kl_val (y_move) rfl rfl rfl ?_
  refine kl_val (y_lenS Try.underlying51 rfl) rfl rfl rfl ?_
  refine kl_ow rfl (ow_call2 fn47 rfl rfl rfl rfl (number_w h (by omega)) (kret_ret (fun _ w1 ⟨v1, hW, hS⟩ => ?_)))
  replace hx := hx.keep hS.fr hs.no (fun _ _ h => h.keep hS.fr hs.no)
  replace hs := hs.step hS
  refine kl_nil ?_
  refine x_seq ?_
  refine k_seq ?_
  refine k_region ?_
  refine kl_val (y_move) rfl rfl rfl ?_
  refine kl_val (y_lenS Try.underlying51 rfl) rfl rfl rfl ?_
  refine kl_val (y_move) rfl rfl rfl ?_
  refine kl_nil ?_
  refine x_seq ?_
  refine k_block ?_
  refine k_loop (fun m ρ w' => ∃ (i : Nat) (v' : Value), ρ 0 = .pointer (some p) ∧ ρ 2 = .func (.func 71) #[] #[] ∧ ρ 12 = .slice sa xs.length sc ∧ ρ 13 = .int .i64 (xs.length : Int) ∧ ρ 14 = .int .i64 (i : Int) ∧ i ≤ xs.length ∧ m = xs.length - i ∧ Wr w' p v' (l ++ numI (xs.length : Int) ++ (xs.take i).flatMap wItem) ∧ WS p w v w' v' ∧ SlX ItemR 73 w' B (.slice sa xs.length sc) xs ∧ Sep w' p v' B) xs.length ⟨0, v1, rfl, rfl, rfl, rfl, rfl, Nat.zero_le _, rfl, by simpa using hW, hS, hx, hs⟩ ?_
  clear hx hs hS hW
  rintro m ρ w1 ⟨i, v1, h0, h2, h12, h13, h14, hi, rfl, hW, hS, hx, hs⟩
  obtain ⟨σ, rfl⟩ : ∃ σ, ρ = upd (upd (upd (upd (upd σ 0 (.pointer (some p))) 2 (.func (.func 71) #[] #[])) 12 (.slice sa xs.length sc)) 13 (.int .i64 (xs.length : Int))) 14 (.int .i64 (i : Int)) := ⟨ρ, by rw [upd_self ρ h0, upd_self ρ h2, upd_self ρ h12, upd_self ρ h13, upd_self ρ h14]⟩
  clear h0 h2 h12 h13 h14
  refine k_seq ?_
  refine k_region ?_
  refine kl_val (y_lss rfl rfl) rfl rfl rfl ?_
  refine kl_nil ?_
  refine x_seq ?_
  refine k_seq ?_
  refine k_condp rfl (fun hlt => ?_) (fun hlt => ?_)
  · skip
    have hlt' : i < xs.length := by omega
    obtain ⟨a, cap, cs, hv, hcl, hR, hcs⟩ := hx.get (List.getElem?_eq_getElem hlt')
    have hle := take_flat_le wItem xs (i + 1)
    rw [take_flat wItem xs i hlt', List.length_append] at hle
    obtain ⟨rfl, rfl⟩ : sa = some a ∧ sc = cap := by simpa using hv
    refine k_skip ?_
    refine x_seq ?_
    refine k_seq ?_
    refine k_block ?_
    refine k_seq ?_
    refine k_region ?_
    refine kl_val (y_indexAddrN Try.underlying51 I55 S55 rfl rfl hlt') rfl rfl rfl ?_
    refine kl_val (y_load rfl (ld_aggB Try.underlying55 rfl I55 S55 hcl hcs)) rfl rfl rfl ?_
    refine kl_ow rfl (ow_alloc I55 Z55 rfl (fun w2 b hb0 hf1 he1 hz1 => ?_))
    refine kl_ow rfl (ow_store I55 S55 rfl (v := .agg cs.toArray) rfl hb0 rfl hcl (by rw [hcl]; decide) hR.one (fun w3 hb hf2 hz2 => ?_))
    rw [splice_all (by rw [hcl]; decide)] at hb
    have hE := ext_store hf1 hf2 (by omega)
    replace hW := hW.ext hE
    replace hS := hS.trans (WS.ext v1 hE)
    replace hx := hx.keep hE (fun _ _ h => h) (fun _ _ h => h.keep hE (fun _ _ h => h))
    replace hR := hR.keep hE (fun _ _ h => h)
    replace hs := hs.ext hE
    refine kl_nil ?_
    refine x_seq ?_
    refine k_region ?_
    refine kl_val (y_move) rfl rfl rfl ?_
    refine kl_val (y_move) rfl rfl rfl ?_
    refine kl_val (y_load rfl (ld_aggB Try.underlying55 rfl I55 S55 hcl hb.cs)) rfl rfl rfl ?_
    refine kl_ow rfl (ow_call2 fn71 rfl rfl rfl rfl (item_w hW hR hs (by first | omega | (simp only [List.length_append]; omega)) (h1 _ (List.getElem_mem hlt'))) (kret_ret (fun _ w' ⟨v', hW', hS'⟩ => ?_)))
    replace hx := hx.keep hS'.fr hs.no (fun _ _ h => h.keep hS'.fr hs.no)
    replace hs := hs.step hS'
    replace hS := hS.trans hS'
    replace hW := hW'
    refine kl_nil ?_
    refine x_blk ?_
    refine x_seq ?_
    refine k_region ?_
    refine kl_val (y_add64 rfl rfl (by omega)) rfl rfl rfl ?_
    refine kl_val (y_move) rfl rfl rfl ?_
    refine kl_nil ?_
    refine x_lpN (xs.length - (i + 1)) (by omega) ⟨i + 1, v', rfl, rfl, rfl, rfl, rfl, by omega, rfl, ?_, hS, hx, hs⟩
    rw [take_flat wItem xs i hlt', ← List.append_assoc]; exact hW
  · skip
    obtain rfl : i = xs.length := by omega
    refine k_exit ?_
    refine x_seqX ?_
    refine x_lpX ?_
    refine x_blkX ?_
    refine k_end0 rfl ⟨_, rfl, v1, ?_, hS⟩
    rw [List.take_length, List.append_assoc] at hW; exact hW

set_option maxRecDepth 100000 in
set_option maxHeartbeats 1000000 in
theorem slot_w {p : Addr} {v : Value} {l : List UInt8} {x : Slot'} {cs : List Value} {w : World} {B : Nat → Prop} (h : Wr w p v l) (hx : SlotR w B cs x) (hs : Sep w p v B) (hl : l.length + (wSlot x).length ≤ 800000000) (hn : x.ones.length ≤ 800000000) (hm1 : x.mail.length ≤ 800000000) (h1 : ∀ e ∈ x.mail, -9223372036854775808 ≤ e.one) :
    Ret Try.prog 81 #[.pointer (some p), .agg cs.toArray] w (fun _ w' => ∃ v', Wr w' p v' (l ++ wSlot x) ∧ WS p w v w' v') := by
  refine k_enter2 Try.func81 rfl Try.ntmps81 rfl ?_
  obtain ⟨hg, pc, vo, vm, hp, ho, hm, rfl⟩ := hx
  have hpl := hp.length
  simp only [wSlot, List.length_append] at hl
  refine k_seq ?_
  refine k_region ?_
  refine kl_ow rfl (ow_boxA rfl rfl (fun w0 b hb hf0 he0 hz0 => ?_))
  have nb := Sep1.new h he0 hz0
  have hW := h.ext hf0
  have hS : WS p w v w0 v := WS.ext v hf0
  replace ho := ho.keep hf0 (fun _ _ h => h) (fun _ _ h => h.keep _ _)
  replace hm := hm.keep hf0 (fun _ _ h => h) (fun _ _ h => h.keep hf0 (fun _ _ h => h))
  replace hs := hs.ext hf0
  refine kl_nil ?_
  refine x_seq ?_
  refine k_seq ?_
  refine k_region ?_
  refine kl_val (y_move) rfl rfl rfl ?_
  refine kl_val (y_fieldAddr Try.underlying145 rfl I3 S3 rfl rfl) rfl rfl rfl ?_
  refine kl_val (y_load rfl (ld_one Try.underlying3 rfl (bx_cell hb (pc_take rfl)))) rfl rfl rfl ?_
  refine kl_ow rfl (ow_call2 fn47 rfl rfl rfl rfl (number_w hW (by first | omega | (simp only [List.length_append]; omega))) (kret_ret (fun _ w' ⟨v', hW', hS'⟩ => ?_)))
  replace hb := hb.keep hS'.fr nb.no
  replace nb := nb.step hS'
  replace ho := ho.keep hS'.fr hs.no (fun _ _ h => h.keep _ _)
  replace hm := hm.keep hS'.fr hs.no (fun _ _ h => h.keep hS'.fr hs.no)
  replace hs := hs.step hS'
  replace hS := hS.trans hS'
  replace hW := hW'
  refine kl_nil ?_
  refine x_seq ?_
  refine k_seq ?_
  refine k_region ?_
  refine kl_val (y_move) rfl rfl rfl ?_
  refine kl_val (y_fieldAddr Try.underlying145 rfl I49 S49 rfl rfl) rfl rfl rfl ?_
  refine kl_val (y_load rfl (ld_aggB Try.underlying49 rfl I49 S49 hpl (hb.part 1 33 (pc_drop (a := 1) (o := 0) rfl (pc_take hpl))))) rfl rfl rfl ?_
  refine kl_ow rfl (ow_call2 fn67 rfl rfl rfl rfl (prekey_w hW (hp.keep _ _) hs (by first | omega | (simp only [List.length_append]; omega))) (kret_ret (fun _ w' ⟨v', hW', hS'⟩ => ?_)))
  replace hb := hb.keep hS'.fr nb.no
  replace nb := nb.step hS'
  replace ho := ho.keep hS'.fr hs.no (fun _ _ h => h.keep _ _)
  replace hm := hm.keep hS'.fr hs.no (fun _ _ h => h.keep hS'.fr hs.no)
  replace hs := hs.step hS'
  replace hS := hS.trans hS'
  replace hW := hW'
  refine kl_nil ?_
  refine x_seq ?_
  refine k_seq ?_
  refine k_region ?_
  refine kl_val (y_move) rfl rfl rfl ?_
  refine kl_val (y_fieldAddr Try.underlying145 rfl I45 S45 rfl rfl) rfl rfl rfl ?_
  refine kl_val (y_load rfl (ld_aggB Try.underlying45 rfl I45 S45 (by rw [bvs_length]; exact hg) (hb.part 34 64 (pc_drop (a := 1) (o := 33) rfl (pc_drop (a := 33) (o := 0) hpl (pc_take (by rw [bvs_length]; exact hg))))))) rfl rfl rfl ?_
  refine kl_ow rfl (ow_call2 fn68 rfl rfl rfl rfl (sig_w hW hg (by first | omega | (simp only [List.length_append]; omega))) (kret_ret (fun _ w' ⟨v', hW', hS'⟩ => ?_)))
  replace hb := hb.keep hS'.fr nb.no
  replace nb := nb.step hS'
  replace ho := ho.keep hS'.fr hs.no (fun _ _ h => h.keep _ _)
  replace hm := hm.keep hS'.fr hs.no (fun _ _ h => h.keep hS'.fr hs.no)
  replace hs := hs.step hS'
  replace hS := hS.trans hS'
  replace hW := hW'
  refine kl_nil ?_
  refine x_seq ?_
  refine k_seq ?_
  refine k_region ?_
  refine kl_val (y_move) rfl rfl rfl ?_
  refine kl_val (y_fieldAddr Try.underlying145 rfl I50 S50 rfl rfl) rfl rfl rfl ?_
  refine kl_val (y_load rfl (ld_one Try.underlying50 rfl (bx_cell hb (pc_drop (a := 1) (o := 97) rfl (pc_drop (a := 33) (o := 64) hpl (pc_drop (a := 64) (o := 0) (by rw [bvs_length]; exact hg) (pc_take rfl))))))) rfl rfl rfl ?_
  refine kl_ow rfl (ow_call3 fn69 rfl rfl rfl rfl rfl (each_prekey_w hW ho hs (by first | omega | (simp only [List.length_append]; omega)) hn) (kret_ret (fun _ w' ⟨v', hW', hS'⟩ => ?_)))
  replace hb := hb.keep hS'.fr nb.no
  replace nb := nb.step hS'
  replace ho := ho.keep hS'.fr hs.no (fun _ _ h => h.keep _ _)
  replace hm := hm.keep hS'.fr hs.no (fun _ _ h => h.keep hS'.fr hs.no)
  replace hs := hs.step hS'
  replace hS := hS.trans hS'
  replace hW := hW'
  refine kl_nil ?_
  refine x_seq ?_
  refine k_seq ?_
  refine k_region ?_
  refine kl_val (y_move) rfl rfl rfl ?_
  refine kl_val (y_fieldAddr Try.underlying145 rfl I3 S3 rfl rfl) rfl rfl rfl ?_
  refine kl_val (y_load rfl (ld_one Try.underlying3 rfl (bx_cell hb (pc_drop (a := 1) (o := 98) rfl (pc_drop (a := 33) (o := 65) hpl (pc_drop (a := 64) (o := 1) (by rw [bvs_length]; exact hg) (pc_drop (a := 1) (o := 0) rfl (pc_take rfl)))))))) rfl rfl rfl ?_
  refine kl_ow rfl (ow_call2 fn47 rfl rfl rfl rfl (number_w hW (by first | omega | (simp only [List.length_append]; omega))) (kret_ret (fun _ w' ⟨v', hW', hS'⟩ => ?_)))
  replace hb := hb.keep hS'.fr nb.no
  replace nb := nb.step hS'
  replace ho := ho.keep hS'.fr hs.no (fun _ _ h => h.keep _ _)
  replace hm := hm.keep hS'.fr hs.no (fun _ _ h => h.keep hS'.fr hs.no)
  replace hs := hs.step hS'
  replace hS := hS.trans hS'
  replace hW := hW'
  refine kl_nil ?_
  refine x_seq ?_
  refine k_region ?_
  refine kl_val (y_move) rfl rfl rfl ?_
  refine kl_val (y_fieldAddr Try.underlying145 rfl I59 S59 rfl rfl) rfl rfl rfl ?_
  refine kl_val (y_load rfl (ld_one Try.underlying59 rfl (bx_cell hb (pc_drop (a := 1) (o := 99) rfl (pc_drop (a := 33) (o := 66) hpl (pc_drop (a := 64) (o := 2) (by rw [bvs_length]; exact hg) (pc_drop (a := 1) (o := 1) rfl (pc_drop (a := 1) (o := 0) rfl (pc_last rfl))))))))) rfl rfl rfl ?_
  refine kl_ow rfl (ow_call3 fn77 rfl rfl rfl rfl rfl (each_envelope_w hW hm hs (by first | omega | (simp only [List.length_append]; omega)) hm1 h1) (kret_ret (fun _ w' ⟨v', hW', hS'⟩ => ?_)))
  replace hb := hb.keep hS'.fr nb.no
  replace nb := nb.step hS'
  replace ho := ho.keep hS'.fr hs.no (fun _ _ h => h.keep _ _)
  replace hm := hm.keep hS'.fr hs.no (fun _ _ h => h.keep hS'.fr hs.no)
  replace hs := hs.step hS'
  replace hS := hS.trans hS'
  replace hW := hW'
  refine kl_nil ?_
  exact k_end0 rfl ⟨_, rfl, _, by simp only [List.append_assoc] at hW; exact hW, hS⟩

set_option maxRecDepth 100000 in
set_option maxHeartbeats 1000000 in
theorem each_slot_w {p : Addr} {v vs : Value} {l : List UInt8} {xs : List Slot'} {w : World} {B : Nat → Prop} (h : Wr w p v l) (hx : SlX SlotR 101 w B vs xs) (hs : Sep w p v B) (hl : l.length + (wEach wSlot xs).length ≤ 800000000) (hn : xs.length ≤ 800000000) (h1 : ∀ x ∈ xs, x.ones.length ≤ 800000000 ∧ x.mail.length ≤ 800000000 ∧ ∀ e ∈ x.mail, -9223372036854775808 ≤ e.one) :
    Ret Try.prog 80 #[.pointer (some p), vs, .func (.func 81) #[] #[]] w (fun _ w' => ∃ v', Wr w' p v' (l ++ wEach wSlot xs) ∧ WS p w v w' v') := by
  refine k_enter3 Try.func80 rfl Try.ntmps80 rfl ?_
  obtain ⟨sa, sc, rfl⟩ := hx.form
  have hl0 := hl
  simp only [wEach, List.length_append] at hl0
  have hnl := numI_length (xs.length : Int)
  refine k_seq ?_
  refine k_region ?_
  refine kl_val (y_move) rfl rfl rfl ?_
  refine kl_val (y_move) rfl rfl rfl ?_
  refine kl_val (y_lenS Try.underlying69 rfl) rfl rfl rfl ?_
  refine kl_ow rfl (ow_call2 fn47 rfl rfl rfl rfl (number_w h (by omega)) (kret_ret (fun _ w1 ⟨v1, hW, hS⟩ => ?_)))
  replace hx := hx.keep hS.fr hs.no (fun _ _ h => h.keep hS.fr hs.no)
  replace hs := hs.step hS
  refine kl_nil ?_
  refine x_seq ?_
  refine k_seq ?_
  refine k_region ?_
  refine kl_val (y_move) rfl rfl rfl ?_
  refine kl_val (y_lenS Try.underlying69 rfl) rfl rfl rfl ?_
  refine kl_val (y_move) rfl rfl rfl ?_
  refine kl_nil ?_
  refine x_seq ?_
  refine k_block ?_
  refine k_loop (fun m ρ w' => ∃ (i : Nat) (v' : Value), ρ 0 = .pointer (some p) ∧ ρ 2 = .func (.func 81) #[] #[] ∧ ρ 12 = .slice sa xs.length sc ∧ ρ 13 = .int .i64 (xs.length : Int) ∧ ρ 14 = .int .i64 (i : Int) ∧ i ≤ xs.length ∧ m = xs.length - i ∧ Wr w' p v' (l ++ numI (xs.length : Int) ++ (xs.take i).flatMap wSlot) ∧ WS p w v w' v' ∧ SlX SlotR 101 w' B (.slice sa xs.length sc) xs ∧ Sep w' p v' B) xs.length ⟨0, v1, rfl, rfl, rfl, rfl, rfl, Nat.zero_le _, rfl, by simpa using hW, hS, hx, hs⟩ ?_
  clear hx hs hS hW
  rintro m ρ w1 ⟨i, v1, h0, h2, h12, h13, h14, hi, rfl, hW, hS, hx, hs⟩
  obtain ⟨σ, rfl⟩ : ∃ σ, ρ = upd (upd (upd (upd (upd σ 0 (.pointer (some p))) 2 (.func (.func 81) #[] #[])) 12 (.slice sa xs.length sc)) 13 (.int .i64 (xs.length : Int))) 14 (.int .i64 (i : Int)) := ⟨ρ, by rw [upd_self ρ h0, upd_self ρ h2, upd_self ρ h12, upd_self ρ h13, upd_self ρ h14]⟩
  clear h0 h2 h12 h13 h14
  refine k_seq ?_
  refine k_region ?_
  refine kl_val (y_lss rfl rfl) rfl rfl rfl ?_
  refine kl_nil ?_
  refine x_seq ?_
  refine k_seq ?_
  refine k_condp rfl (fun hlt => ?_) (fun hlt => ?_)
  · skip
    have hlt' : i < xs.length := by omega
    obtain ⟨a, cap, cs, hv, hcl, hR, hcs⟩ := hx.get (List.getElem?_eq_getElem hlt')
    have hle := take_flat_le wSlot xs (i + 1)
    rw [take_flat wSlot xs i hlt', List.length_append] at hle
    obtain ⟨rfl, rfl⟩ : sa = some a ∧ sc = cap := by simpa using hv
    refine k_skip ?_
    refine x_seq ?_
    refine k_seq ?_
    refine k_block ?_
    refine k_seq ?_
    refine k_region ?_
    refine kl_val (y_indexAddrN Try.underlying69 I145 S145 rfl rfl hlt') rfl rfl rfl ?_
    refine kl_val (y_load rfl (ld_aggB Try.underlying145 rfl I145 S145 hcl hcs)) rfl rfl rfl ?_
    refine kl_ow rfl (ow_alloc I145 Z145 rfl (fun w2 b hb0 hf1 he1 hz1 => ?_))
    refine kl_ow rfl (ow_store I145 S145 rfl (v := .agg cs.toArray) rfl hb0 rfl hcl (by rw [hcl]; decide) hR.one (fun w3 hb hf2 hz2 => ?_))
    rw [splice_all (by rw [hcl]; decide)] at hb
    have hE := ext_store hf1 hf2 (by omega)
    replace hW := hW.ext hE
    replace hS := hS.trans (WS.ext v1 hE)
    replace hx := hx.keep hE (fun _ _ h => h) (fun _ _ h => h.keep hE (fun _ _ h => h))
    replace hR := hR.keep hE (fun _ _ h => h)
    replace hs := hs.ext hE
    refine kl_nil ?_
    refine x_seq ?_
    refine k_region ?_
    refine kl_val (y_move) rfl rfl rfl ?_
    refine kl_val (y_move) rfl rfl rfl ?_
    refine kl_val (y_load rfl (ld_aggB Try.underlying145 rfl I145 S145 hcl hb.cs)) rfl rfl rfl ?_
    refine kl_ow rfl (ow_call2 fn81 rfl rfl rfl rfl (slot_w hW hR hs (by first | omega | (simp only [List.length_append]; omega)) (h1 _ (List.getElem_mem hlt')).1 (h1 _ (List.getElem_mem hlt')).2.1 (h1 _ (List.getElem_mem hlt')).2.2) (kret_ret (fun _ w' ⟨v', hW', hS'⟩ => ?_)))
    replace hx := hx.keep hS'.fr hs.no (fun _ _ h => h.keep hS'.fr hs.no)
    replace hs := hs.step hS'
    replace hS := hS.trans hS'
    replace hW := hW'
    refine kl_nil ?_
    refine x_blk ?_
    refine x_seq ?_
    refine k_region ?_
    refine kl_val (y_add64 rfl rfl (by omega)) rfl rfl rfl ?_
    refine kl_val (y_move) rfl rfl rfl ?_
    refine kl_nil ?_
    refine x_lpN (xs.length - (i + 1)) (by omega) ⟨i + 1, v', rfl, rfl, rfl, rfl, rfl, by omega, rfl, ?_, hS, hx, hs⟩
    rw [take_flat wSlot xs i hlt', ← List.append_assoc]; exact hW
  · skip
    obtain rfl : i = xs.length := by omega
    refine k_exit ?_
    refine x_seqX ?_
    refine x_lpX ?_
    refine x_blkX ?_
    refine k_end0 rfl ⟨_, rfl, v1, ?_, hS⟩
    rw [List.take_length, List.append_assoc] at hW; exact hW

set_option maxRecDepth 100000 in
set_option maxHeartbeats 1000000 in
theorem each_key_w {p : Addr} {v vs : Value} {l : List UInt8} {xs : List (List UInt8)} {w : World} {B : Nat → Prop} (h : Wr w p v l) (hx : SlX KeyR 32 w B vs xs) (hs : Sep w p v B) (hl : l.length + (wEach (fun k => k) xs).length ≤ 800000000) (hn : xs.length ≤ 800000000)  :
    Ret Try.prog 82 #[.pointer (some p), vs, .func (.func 66) #[] #[]] w (fun _ w' => ∃ v', Wr w' p v' (l ++ wEach (fun k => k) xs) ∧ WS p w v w' v') := by
  refine k_enter3 Try.func82 rfl Try.ntmps82 rfl ?_
  obtain ⟨sa, sc, rfl⟩ := hx.form
  have hl0 := hl
  simp only [wEach, List.length_append] at hl0
  have hnl := numI_length (xs.length : Int)
  refine k_seq ?_
  refine k_region ?_
  refine kl_val (y_move) rfl rfl rfl ?_
  refine kl_val (y_move) rfl rfl rfl ?_
  refine kl_val (y_lenS Try.underlying70 rfl) rfl rfl rfl ?_
  refine kl_ow rfl (ow_call2 fn47 rfl rfl rfl rfl (number_w h (by omega)) (kret_ret (fun _ w1 ⟨v1, hW, hS⟩ => ?_)))
  replace hx := hx.keep hS.fr hs.no (fun _ _ h => h.keep _ _)
  replace hs := hs.step hS
  refine kl_nil ?_
  refine x_seq ?_
  refine k_seq ?_
  refine k_region ?_
  refine kl_val (y_move) rfl rfl rfl ?_
  refine kl_val (y_lenS Try.underlying70 rfl) rfl rfl rfl ?_
  refine kl_val (y_move) rfl rfl rfl ?_
  refine kl_nil ?_
  refine x_seq ?_
  refine k_block ?_
  refine k_loop (fun m ρ w' => ∃ (i : Nat) (v' : Value), ρ 0 = .pointer (some p) ∧ ρ 2 = .func (.func 66) #[] #[] ∧ ρ 12 = .slice sa xs.length sc ∧ ρ 13 = .int .i64 (xs.length : Int) ∧ ρ 14 = .int .i64 (i : Int) ∧ i ≤ xs.length ∧ m = xs.length - i ∧ Wr w' p v' (l ++ numI (xs.length : Int) ++ (xs.take i).flatMap (fun k => k)) ∧ WS p w v w' v' ∧ SlX KeyR 32 w' B (.slice sa xs.length sc) xs ∧ Sep w' p v' B) xs.length ⟨0, v1, rfl, rfl, rfl, rfl, rfl, Nat.zero_le _, rfl, by simpa using hW, hS, hx, hs⟩ ?_
  clear hx hs hS hW
  rintro m ρ w1 ⟨i, v1, h0, h2, h12, h13, h14, hi, rfl, hW, hS, hx, hs⟩
  obtain ⟨σ, rfl⟩ : ∃ σ, ρ = upd (upd (upd (upd (upd σ 0 (.pointer (some p))) 2 (.func (.func 66) #[] #[])) 12 (.slice sa xs.length sc)) 13 (.int .i64 (xs.length : Int))) 14 (.int .i64 (i : Int)) := ⟨ρ, by rw [upd_self ρ h0, upd_self ρ h2, upd_self ρ h12, upd_self ρ h13, upd_self ρ h14]⟩
  clear h0 h2 h12 h13 h14
  refine k_seq ?_
  refine k_region ?_
  refine kl_val (y_lss rfl rfl) rfl rfl rfl ?_
  refine kl_nil ?_
  refine x_seq ?_
  refine k_seq ?_
  refine k_condp rfl (fun hlt => ?_) (fun hlt => ?_)
  · skip
    have hlt' : i < xs.length := by omega
    obtain ⟨a, cap, cs, hv, hcl, hR, hcs⟩ := hx.get (List.getElem?_eq_getElem hlt')
    have hle := take_flat_le (fun k => k) xs (i + 1)
    rw [take_flat (fun k => k) xs i hlt', List.length_append] at hle
    obtain ⟨rfl, rfl⟩ : sa = some a ∧ sc = cap := by simpa using hv
    refine k_skip ?_
    refine x_seq ?_
    refine k_seq ?_
    refine k_block ?_
    refine k_seq ?_
    refine k_region ?_
    refine kl_val (y_indexAddrN Try.underlying70 I34 S34 rfl rfl hlt') rfl rfl rfl ?_
    refine kl_val (y_load rfl (ld_aggB Try.underlying34 rfl I34 S34 hcl hcs)) rfl rfl rfl ?_
    refine kl_ow rfl (ow_alloc I34 Z34 rfl (fun w2 b hb0 hf1 he1 hz1 => ?_))
    refine kl_ow rfl (ow_store I34 S34 rfl (v := .agg cs.toArray) rfl hb0 rfl hcl (by rw [hcl]; decide) hR.one (fun w3 hb hf2 hz2 => ?_))
    rw [splice_all (by rw [hcl]; decide)] at hb
    have hE := ext_store hf1 hf2 (by omega)
    replace hW := hW.ext hE
    replace hS := hS.trans (WS.ext v1 hE)
    replace hx := hx.keep hE (fun _ _ h => h) (fun _ _ h => h.keep _ _)
    replace hR := hR.keep w3 B
    replace hs := hs.ext hE
    refine kl_nil ?_
    refine x_seq ?_
    refine k_region ?_
    refine kl_val (y_move) rfl rfl rfl ?_
    refine kl_val (y_move) rfl rfl rfl ?_
    refine kl_val (y_load rfl (ld_aggB Try.underlying34 rfl I34 S34 hcl hb.cs)) rfl rfl rfl ?_
    refine kl_ow rfl (ow_call2 fn66 rfl rfl rfl rfl ((hR.eq ▸ key_w hW hR.len (by first | omega | (simp only [List.length_append]; omega)))) (kret_ret (fun _ w' ⟨v', hW', hS'⟩ => ?_)))
    replace hx := hx.keep hS'.fr hs.no (fun _ _ h => h.keep _ _)
    replace hs := hs.step hS'
    replace hS := hS.trans hS'
    replace hW := hW'
    refine kl_nil ?_
    refine x_blk ?_
    refine x_seq ?_
    refine k_region ?_
    refine kl_val (y_add64 rfl rfl (by omega)) rfl rfl rfl ?_
    refine kl_val (y_move) rfl rfl rfl ?_
    refine kl_nil ?_
    refine x_lpN (xs.length - (i + 1)) (by omega) ⟨i + 1, v', rfl, rfl, rfl, rfl, rfl, by omega, rfl, ?_, hS, hx, hs⟩
    rw [take_flat (fun k => k) xs i hlt', ← List.append_assoc]; exact hW
  · skip
    obtain rfl : i = xs.length := by omega
    refine k_exit ?_
    refine x_seqX ?_
    refine x_lpX ?_
    refine x_blkX ?_
    refine k_end0 rfl ⟨_, rfl, v1, ?_, hS⟩
    rw [List.take_length, List.append_assoc] at hW; exact hW

set_option maxRecDepth 100000 in
set_option maxHeartbeats 1000000 in
theorem user_w {p : Addr} {v : Value} {l : List UInt8} {x : Usr} {cs : List Value} {w : World} {B : Nat → Prop} (h : Wr w p v l) (hx : UsrR w B cs x) (hs : Sep w p v B) (hl : l.length + (wUsr x).length ≤ 800000000) :
    Ret Try.prog 45 #[.pointer (some p), .agg cs.toArray] w (fun _ w' => ∃ v', Wr w' p v' (l ++ wUsr x) ∧ WS p w v w' v') := by
  refine k_enter2 Try.func45 rfl Try.ntmps45 rfl ?_
  obtain ⟨rfl⟩ := hx
  have hbl : (wText (sBytes x.name)).length = (numI (sBytes x.name).length).length + x.name.size := by simp only [wText, List.length_append]; rfl
  simp only [wUsr, List.length_append] at hl
  refine k_seq ?_
  refine k_region ?_
  refine kl_ow rfl (ow_boxA rfl rfl (fun w0 b hb hf0 he0 hz0 => ?_))
  have nb := Sep1.new h he0 hz0
  have hW := h.ext hf0
  have hS : WS p w v w0 v := WS.ext v hf0
  replace hs := hs.ext hf0
  refine kl_nil ?_
  refine x_seq ?_
  refine k_seq ?_
  refine k_region ?_
  refine kl_val (y_move) rfl rfl rfl ?_
  refine kl_val (y_fieldAddr Try.underlying25 rfl I9 S9 rfl rfl) rfl rfl rfl ?_
  refine kl_val (y_load rfl (ld_one Try.underlying9 rfl (bx_cell hb (pc_take rfl)))) rfl rfl rfl ?_
  refine kl_ow rfl (ow_call2 fn46 rfl rfl rfl rfl (text_w hW (by first | omega | (simp only [List.length_append]; omega))) (kret_ret (fun _ w' ⟨v', hW', hS'⟩ => ?_)))
  replace hb := hb.keep hS'.fr nb.no
  replace nb := nb.step hS'
  replace hs := hs.step hS'
  replace hS := hS.trans hS'
  replace hW := hW'
  refine kl_nil ?_
  refine x_seq ?_
  refine k_seq ?_
  refine k_region ?_
  refine kl_val (y_move) rfl rfl rfl ?_
  refine kl_val (y_fieldAddr Try.underlying25 rfl I3 S3 rfl rfl) rfl rfl rfl ?_
  refine kl_val (y_load rfl (ld_one Try.underlying3 rfl (bx_cell hb (pc_drop (a := 1) (o := 0) rfl (pc_take rfl))))) rfl rfl rfl ?_
  refine kl_ow rfl (ow_call2 fn47 rfl rfl rfl rfl (number_w hW (by first | omega | (simp only [List.length_append]; omega))) (kret_ret (fun _ w' ⟨v', hW', hS'⟩ => ?_)))
  replace hb := hb.keep hS'.fr nb.no
  replace nb := nb.step hS'
  replace hs := hs.step hS'
  replace hS := hS.trans hS'
  replace hW := hW'
  refine kl_nil ?_
  refine x_seq ?_
  refine k_region ?_
  refine kl_val (y_move) rfl rfl rfl ?_
  refine kl_val (y_fieldAddr Try.underlying25 rfl I4 S4 rfl rfl) rfl rfl rfl ?_
  refine kl_val (y_load rfl (ld_one Try.underlying4 rfl (bx_cell hb (pc_drop (a := 1) (o := 1) rfl (pc_drop (a := 1) (o := 0) rfl (pc_last rfl)))))) rfl rfl rfl ?_
  refine kl_ow rfl (ow_call2 fn48 rfl rfl rfl rfl (truth_w hW (by first | omega | (simp only [List.length_append]; omega))) (kret_ret (fun _ w' ⟨v', hW', hS'⟩ => ?_)))
  replace hb := hb.keep hS'.fr nb.no
  replace nb := nb.step hS'
  replace hs := hs.step hS'
  replace hS := hS.trans hS'
  replace hW := hW'
  refine kl_nil ?_
  exact k_end0 rfl ⟨_, rfl, _, by simp only [List.append_assoc] at hW; exact hW, hS⟩

set_option maxRecDepth 100000 in
set_option maxHeartbeats 1000000 in
theorem each_user_w {p : Addr} {v vs : Value} {l : List UInt8} {xs : List Usr} {w : World} {B : Nat → Prop} (h : Wr w p v l) (hx : SlX UsrR 3 w B vs xs) (hs : Sep w p v B) (hl : l.length + (wEach wUsr xs).length ≤ 800000000) (hn : xs.length ≤ 800000000)  :
    Ret Try.prog 44 #[.pointer (some p), vs, .func (.func 45) #[] #[]] w (fun _ w' => ∃ v', Wr w' p v' (l ++ wEach wUsr xs) ∧ WS p w v w' v') := by
  refine k_enter3 Try.func44 rfl Try.ntmps44 rfl ?_
  obtain ⟨sa, sc, rfl⟩ := hx.form
  have hl0 := hl
  simp only [wEach, List.length_append] at hl0
  have hnl := numI_length (xs.length : Int)
  refine k_seq ?_
  refine k_region ?_
  refine kl_val (y_move) rfl rfl rfl ?_
  refine kl_val (y_move) rfl rfl rfl ?_
  refine kl_val (y_lenS Try.underlying26 rfl) rfl rfl rfl ?_
  refine kl_ow rfl (ow_call2 fn47 rfl rfl rfl rfl (number_w h (by omega)) (kret_ret (fun _ w1 ⟨v1, hW, hS⟩ => ?_)))
  replace hx := hx.keep hS.fr hs.no (fun _ _ h => h.keep _ _)
  replace hs := hs.step hS
  refine kl_nil ?_
  refine x_seq ?_
  refine k_seq ?_
  refine k_region ?_
  refine kl_val (y_move) rfl rfl rfl ?_
  refine kl_val (y_lenS Try.underlying26 rfl) rfl rfl rfl ?_
  refine kl_val (y_move) rfl rfl rfl ?_
  refine kl_nil ?_
  refine x_seq ?_
  refine k_block ?_
  refine k_loop (fun m ρ w' => ∃ (i : Nat) (v' : Value), ρ 0 = .pointer (some p) ∧ ρ 2 = .func (.func 45) #[] #[] ∧ ρ 12 = .slice sa xs.length sc ∧ ρ 13 = .int .i64 (xs.length : Int) ∧ ρ 14 = .int .i64 (i : Int) ∧ i ≤ xs.length ∧ m = xs.length - i ∧ Wr w' p v' (l ++ numI (xs.length : Int) ++ (xs.take i).flatMap wUsr) ∧ WS p w v w' v' ∧ SlX UsrR 3 w' B (.slice sa xs.length sc) xs ∧ Sep w' p v' B) xs.length ⟨0, v1, rfl, rfl, rfl, rfl, rfl, Nat.zero_le _, rfl, by simpa using hW, hS, hx, hs⟩ ?_
  clear hx hs hS hW
  rintro m ρ w1 ⟨i, v1, h0, h2, h12, h13, h14, hi, rfl, hW, hS, hx, hs⟩
  obtain ⟨σ, rfl⟩ : ∃ σ, ρ = upd (upd (upd (upd (upd σ 0 (.pointer (some p))) 2 (.func (.func 45) #[] #[])) 12 (.slice sa xs.length sc)) 13 (.int .i64 (xs.length : Int))) 14 (.int .i64 (i : Int)) := ⟨ρ, by rw [upd_self ρ h0, upd_self ρ h2, upd_self ρ h12, upd_self ρ h13, upd_self ρ h14]⟩
  clear h0 h2 h12 h13 h14
  refine k_seq ?_
  refine k_region ?_
  refine kl_val (y_lss rfl rfl) rfl rfl rfl ?_
  refine kl_nil ?_
  refine x_seq ?_
  refine k_seq ?_
  refine k_condp rfl (fun hlt => ?_) (fun hlt => ?_)
  · skip
    have hlt' : i < xs.length := by omega
    obtain ⟨a, cap, cs, hv, hcl, hR, hcs⟩ := hx.get (List.getElem?_eq_getElem hlt')
    have hle := take_flat_le wUsr xs (i + 1)
    rw [take_flat wUsr xs i hlt', List.length_append] at hle
    obtain ⟨rfl, rfl⟩ : sa = some a ∧ sc = cap := by simpa using hv
    refine k_skip ?_
    refine x_seq ?_
    refine k_seq ?_
    refine k_block ?_
    refine k_seq ?_
    refine k_region ?_
    refine kl_val (y_indexAddrN Try.underlying26 I25 S25 rfl rfl hlt') rfl rfl rfl ?_
    refine kl_val (y_load rfl (ld_aggB Try.underlying25 rfl I25 S25 hcl hcs)) rfl rfl rfl ?_
    refine kl_ow rfl (ow_alloc I25 Z25 rfl (fun w2 b hb0 hf1 he1 hz1 => ?_))
    refine kl_ow rfl (ow_store I25 S25 rfl (v := .agg cs.toArray) rfl hb0 rfl hcl (by rw [hcl]; decide) hR.one (fun w3 hb hf2 hz2 => ?_))
    rw [splice_all (by rw [hcl]; decide)] at hb
    have hE := ext_store hf1 hf2 (by omega)
    replace hW := hW.ext hE
    replace hS := hS.trans (WS.ext v1 hE)
    replace hx := hx.keep hE (fun _ _ h => h) (fun _ _ h => h.keep _ _)
    replace hR := hR.keep w3 B
    replace hs := hs.ext hE
    refine kl_nil ?_
    refine x_seq ?_
    refine k_region ?_
    refine kl_val (y_move) rfl rfl rfl ?_
    refine kl_val (y_move) rfl rfl rfl ?_
    refine kl_val (y_load rfl (ld_aggB Try.underlying25 rfl I25 S25 hcl hb.cs)) rfl rfl rfl ?_
    refine kl_ow rfl (ow_call2 fn45 rfl rfl rfl rfl (user_w hW hR hs (by first | omega | (simp only [List.length_append]; omega))) (kret_ret (fun _ w' ⟨v', hW', hS'⟩ => ?_)))
    replace hx := hx.keep hS'.fr hs.no (fun _ _ h => h.keep _ _)
    replace hs := hs.step hS'
    replace hS := hS.trans hS'
    replace hW := hW'
    refine kl_nil ?_
    refine x_blk ?_
    refine x_seq ?_
    refine k_region ?_
    refine kl_val (y_add64 rfl rfl (by omega)) rfl rfl rfl ?_
    refine kl_val (y_move) rfl rfl rfl ?_
    refine kl_nil ?_
    refine x_lpN (xs.length - (i + 1)) (by omega) ⟨i + 1, v', rfl, rfl, rfl, rfl, rfl, by omega, rfl, ?_, hS, hx, hs⟩
    rw [take_flat wUsr xs i hlt', ← List.append_assoc]; exact hW
  · skip
    obtain rfl : i = xs.length := by omega
    refine k_exit ?_
    refine x_seqX ?_
    refine x_lpX ?_
    refine x_blkX ?_
    refine k_end0 rfl ⟨_, rfl, v1, ?_, hS⟩
    rw [List.take_length, List.append_assoc] at hW; exact hW

end Go.Proofs.Ythpocekigliomaa.K
