/- Things as bytes. Conditions: what is read lies in blocks that are there, the bytes are not too many. -/
import Derived.Test.YthpocekigliomaaKWc
namespace Go.Proofs.Ythpocekigliomaa.K
open Go

set_option maxRecDepth 100000 in
set_option maxHeartbeats 1000000 in
theorem Request_W {x : Req} {cs : List Value} {w : World} {B : Nat → Prop} (hx : ReqR w B cs x) (hB : ∀ b, B b → b < w.heap.size) (hl : (wReq x).length ≤ 800000000) (hn : x.list.devices.length ≤ 800000000 ∧ x.ones.length ≤ 800000000 ∧ x.items.length ≤ 800000000 ∧ ∀ i ∈ x.items, -9223372036854775808 ≤ i.env.one) :
    Ret Try.prog 20 #[.agg cs.toArray] w (fun v w' => Out w w' v (wReq x)) := by
  refine k_enter1 Try.func20 rfl Try.ntmps20 rfl ?_
  obtain ⟨hk, hg, hkd, lc, pc, vo, vi, hL, hp, ho, hi, rfl⟩ := hx
  have hll := hL.length
  have hpl := hp.length
  have hbl : ∀ s : ByteArray, (wText (sBytes s)).length = (numI (sBytes s).length).length + s.size := fun s => by simp only [wText, List.length_append]; rfl
  have hbl1 := hbl x.pin
  have hbl2 := hbl x.next
  have hbl3 := hbl x.name
  clear hbl
  simp only [wReq, List.length_append] at hl
  refine k_seq ?_
  refine k_region ?_
  refine kl_ow rfl (ow_boxA rfl rfl (fun w0 b hb hf0 he0 hz0 => ?_))
  replace hL := hL.keep hf0 (fun _ _ h => h)
  replace ho := ho.keep hf0 (fun _ _ h => h) (fun _ _ h => h.keep _ _)
  replace hi := hi.keep hf0 (fun _ _ h => h) (fun _ _ h => h.keep hf0 (fun _ _ h => h))
  refine kl_val (y_assign) rfl rfl rfl ?_
  refine kl_nil ?_
  refine x_seq ?_
  refine k_seq ?_
  refine k_region ?_
  refine kl_val (y_build (cells := #[.slice none 0 0]) rfl (by kernel_rfl)) rfl rfl rfl ?_
  refine kl_ow rfl (ow_box (v := .agg #[.slice none 0 0]) rfl rfl (fun w1 bw hbw hfw hew hzw => ?_))
  have hW := wr_new hbw
  have hEx : Ext w w1 := hf0.trans hfw
  have hpw : w.heap.size ≤ bw := by have := hf0.size; omega
  replace hb := hb.keep hfw (fun h => h)
  have nb : Sep1 w1 ⟨bw, 0, none⟩ (.slice none 0 0) b := sep1_new (by omega) (by omega)
  replace hL := hL.keep hfw (fun _ _ h => h)
  replace ho := ho.keep hfw (fun _ _ h => h) (fun _ _ h => h.keep _ _)
  replace hi := hi.keep hfw (fun _ _ h => h) (fun _ _ h => h.keep hfw (fun _ _ h => h))
  have hs : Sep w1 ⟨bw, 0, none⟩ (.slice none 0 0) B := sep_new (fun i hi => by have := hB i hi; omega) (by omega)
  have hS := WS.refl ⟨bw, 0, none⟩ w1 (.slice none 0 0)
  refine kl_val (y_assign) rfl rfl rfl ?_
  refine kl_nil ?_
  refine x_seq ?_
  refine k_seq ?_
  refine k_region ?_
  refine kl_val (y_move) rfl rfl rfl ?_
  refine kl_val (y_fieldAddr Try.underlying53 rfl I5 S5 rfl rfl) rfl rfl rfl ?_
  refine kl_val (y_load rfl (ld_one Try.underlying5 rfl (bx_cell hb (pc_take rfl)))) rfl rfl rfl ?_
  refine kl_val (Y.cast (v' := .int .i64 (x.kind : Int)) (y_conv_int ⟨_, Try.underlying5⟩ Try.underlying3 rfl) (congrArg (Value.int .i64) (wrap64_eq (by omega) (by omega)))) rfl rfl rfl ?_
  refine kl_ow rfl (ow_call2 fn47 rfl rfl rfl rfl (number_w hW (by first | omega | (simp only [List.length_nil]; omega) | (simp only [List.length_append, List.length_nil]; omega))) (kret_ret (fun _ w' ⟨v', hW', hS'⟩ => ?_)))
  replace hb := hb.keep hS'.fr nb.no
  replace nb := nb.step hS'
  replace hL := hL.keep hS'.fr hs.no
  replace ho := ho.keep hS'.fr hs.no (fun _ _ h => h.keep _ _)
  replace hi := hi.keep hS'.fr hs.no (fun _ _ h => h.keep hS'.fr hs.no)
  replace hs := hs.step hS'
  replace hS := hS.trans hS'
  replace hW := hW'
  refine kl_nil ?_
  refine x_seq ?_
  refine k_seq ?_
  refine k_region ?_
  refine kl_val (y_move) rfl rfl rfl ?_
  refine kl_val (y_fieldAddr Try.underlying53 rfl I3 S3 rfl rfl) rfl rfl rfl ?_
  refine kl_val (y_load rfl (ld_one Try.underlying3 rfl (bx_cell hb (pc_drop (a := 1) (o := 0) rfl (pc_take rfl))))) rfl rfl rfl ?_
  refine kl_ow rfl (ow_call2 fn47 rfl rfl rfl rfl (number_w hW (by first | omega | (simp only [List.length_nil]; omega) | (simp only [List.length_append, List.length_nil]; omega))) (kret_ret (fun _ w' ⟨v', hW', hS'⟩ => ?_)))
  replace hb := hb.keep hS'.fr nb.no
  replace nb := nb.step hS'
  replace hL := hL.keep hS'.fr hs.no
  replace ho := ho.keep hS'.fr hs.no (fun _ _ h => h.keep _ _)
  replace hi := hi.keep hS'.fr hs.no (fun _ _ h => h.keep hS'.fr hs.no)
  replace hs := hs.step hS'
  replace hS := hS.trans hS'
  replace hW := hW'
  refine kl_nil ?_
  refine x_seq ?_
  refine k_seq ?_
  refine k_region ?_
  refine kl_val (y_move) rfl rfl rfl ?_
  refine kl_val (y_fieldAddr Try.underlying53 rfl I3 S3 rfl rfl) rfl rfl rfl ?_
  refine kl_val (y_load rfl (ld_one Try.underlying3 rfl (bx_cell hb (pc_drop (a := 1) (o := 1) rfl (pc_drop (a := 1) (o := 0) rfl (pc_take rfl)))))) rfl rfl rfl ?_
  refine kl_ow rfl (ow_call2 fn47 rfl rfl rfl rfl (number_w hW (by first | omega | (simp only [List.length_nil]; omega) | (simp only [List.length_append, List.length_nil]; omega))) (kret_ret (fun _ w' ⟨v', hW', hS'⟩ => ?_)))
  replace hb := hb.keep hS'.fr nb.no
  replace nb := nb.step hS'
  replace hL := hL.keep hS'.fr hs.no
  replace ho := ho.keep hS'.fr hs.no (fun _ _ h => h.keep _ _)
  replace hi := hi.keep hS'.fr hs.no (fun _ _ h => h.keep hS'.fr hs.no)
  replace hs := hs.step hS'
  replace hS := hS.trans hS'
  replace hW := hW'
  refine kl_nil ?_
  refine x_seq ?_
  refine k_seq ?_
  refine k_region ?_
  refine kl_val (y_move) rfl rfl rfl ?_
  refine kl_val (y_fieldAddr Try.underlying53 rfl I9 S9 rfl rfl) rfl rfl rfl ?_
  refine kl_val (y_load rfl (ld_one Try.underlying9 rfl (bx_cell hb (pc_drop (a := 1) (o := 2) rfl (pc_drop (a := 1) (o := 1) rfl (pc_drop (a := 1) (o := 0) rfl (pc_take rfl))))))) rfl rfl rfl ?_
  refine kl_ow rfl (ow_call2 fn46 rfl rfl rfl rfl (text_w hW (by first | omega | (simp only [List.length_nil]; omega) | (simp only [List.length_append, List.length_nil]; omega))) (kret_ret (fun _ w' ⟨v', hW', hS'⟩ => ?_)))
  replace hb := hb.keep hS'.fr nb.no
  replace nb := nb.step hS'
  replace hL := hL.keep hS'.fr hs.no
  replace ho := ho.keep hS'.fr hs.no (fun _ _ h => h.keep _ _)
  replace hi := hi.keep hS'.fr hs.no (fun _ _ h => h.keep hS'.fr hs.no)
  replace hs := hs.step hS'
  replace hS := hS.trans hS'
  replace hW := hW'
  refine kl_nil ?_
  refine x_seq ?_
  refine k_seq ?_
  refine k_region ?_
  refine kl_val (y_move) rfl rfl rfl ?_
  refine kl_val (y_fieldAddr Try.underlying53 rfl I9 S9 rfl rfl) rfl rfl rfl ?_
  refine kl_val (y_load rfl (ld_one Try.underlying9 rfl (bx_cell hb (pc_drop (a := 1) (o := 3) rfl (pc_drop (a := 1) (o := 2) rfl (pc_drop (a := 1) (o := 1) rfl (pc_drop (a := 1) (o := 0) rfl (pc_take rfl)))))))) rfl rfl rfl ?_
  refine kl_ow rfl (ow_call2 fn46 rfl rfl rfl rfl (text_w hW (by first | omega | (simp only [List.length_nil]; omega) | (simp only [List.length_append, List.length_nil]; omega))) (kret_ret (fun _ w' ⟨v', hW', hS'⟩ => ?_)))
  replace hb := hb.keep hS'.fr nb.no
  replace nb := nb.step hS'
  replace hL := hL.keep hS'.fr hs.no
  replace ho := ho.keep hS'.fr hs.no (fun _ _ h => h.keep _ _)
  replace hi := hi.keep hS'.fr hs.no (fun _ _ h => h.keep hS'.fr hs.no)
  replace hs := hs.step hS'
  replace hS := hS.trans hS'
  replace hW := hW'
  refine kl_nil ?_
  refine x_seq ?_
  refine k_seq ?_
  refine k_region ?_
  refine kl_val (y_move) rfl rfl rfl ?_
  refine kl_val (y_fieldAddr Try.underlying53 rfl I9 S9 rfl rfl) rfl rfl rfl ?_
  refine kl_val (y_load rfl (ld_one Try.underlying9 rfl (bx_cell hb (pc_drop (a := 1) (o := 4) rfl (pc_drop (a := 1) (o := 3) rfl (pc_drop (a := 1) (o := 2) rfl (pc_drop (a := 1) (o := 1) rfl (pc_drop (a := 1) (o := 0) rfl (pc_take rfl))))))))) rfl rfl rfl ?_
  refine kl_ow rfl (ow_call2 fn46 rfl rfl rfl rfl (text_w hW (by first | omega | (simp only [List.length_nil]; omega) | (simp only [List.length_append, List.length_nil]; omega))) (kret_ret (fun _ w' ⟨v', hW', hS'⟩ => ?_)))
  replace hb := hb.keep hS'.fr nb.no
  replace nb := nb.step hS'
  replace hL := hL.keep hS'.fr hs.no
  replace ho := ho.keep hS'.fr hs.no (fun _ _ h => h.keep _ _)
  replace hi := hi.keep hS'.fr hs.no (fun _ _ h => h.keep hS'.fr hs.no)
  replace hs := hs.step hS'
  replace hS := hS.trans hS'
  replace hW := hW'
  refine kl_nil ?_
  refine x_seq ?_
  refine k_seq ?_
  refine k_region ?_
  refine kl_val (y_move) rfl rfl rfl ?_
  refine kl_val (y_fieldAddr Try.underlying53 rfl I47 S47 rfl rfl) rfl rfl rfl ?_
  refine kl_val (y_load rfl (ld_aggB Try.underlying47 rfl I47 S47 hll (hb.part 6 99 (pc_drop (a := 1) (o := 5) rfl (pc_drop (a := 1) (o := 4) rfl (pc_drop (a := 1) (o := 3) rfl (pc_drop (a := 1) (o := 2) rfl (pc_drop (a := 1) (o := 1) rfl (pc_drop (a := 1) (o := 0) rfl (pc_take hll)))))))))) rfl rfl rfl ?_
  refine kl_ow rfl (ow_call2 fn59 rfl rfl rfl rfl (list_w hW hL hs (by first | omega | (simp only [List.length_nil]; omega) | (simp only [List.length_append, List.length_nil]; omega)) hn.1) (kret_ret (fun _ w' ⟨v', hW', hS'⟩ => ?_)))
  replace hb := hb.keep hS'.fr nb.no
  replace nb := nb.step hS'
  replace hL := hL.keep hS'.fr hs.no
  replace ho := ho.keep hS'.fr hs.no (fun _ _ h => h.keep _ _)
  replace hi := hi.keep hS'.fr hs.no (fun _ _ h => h.keep hS'.fr hs.no)
  replace hs := hs.step hS'
  replace hS := hS.trans hS'
  replace hW := hW'
  refine kl_nil ?_
  refine x_seq ?_
  refine k_seq ?_
  refine k_region ?_
  refine kl_val (y_move) rfl rfl rfl ?_
  refine kl_val (y_fieldAddr Try.underlying53 rfl I34 S34 rfl rfl) rfl rfl rfl ?_
  refine kl_val (y_load rfl (ld_aggB Try.underlying34 rfl I34 S34 (by rw [bvs_length]; exact hk) (hb.part 105 32 (pc_drop (a := 1) (o := 104) rfl (pc_drop (a := 1) (o := 103) rfl (pc_drop (a := 1) (o := 102) rfl (pc_drop (a := 1) (o := 101) rfl (pc_drop (a := 1) (o := 100) rfl (pc_drop (a := 1) (o := 99) rfl (pc_drop (a := 99) (o := 0) hll (pc_take (by rw [bvs_length]; exact hk)))))))))))) rfl rfl rfl ?_
  refine kl_ow rfl (ow_call2 fn66 rfl rfl rfl rfl (key_w hW hk (by first | omega | (simp only [List.length_nil]; omega) | (simp only [List.length_append, List.length_nil]; omega))) (kret_ret (fun _ w' ⟨v', hW', hS'⟩ => ?_)))
  replace hb := hb.keep hS'.fr nb.no
  replace nb := nb.step hS'
  replace hL := hL.keep hS'.fr hs.no
  replace ho := ho.keep hS'.fr hs.no (fun _ _ h => h.keep _ _)
  replace hi := hi.keep hS'.fr hs.no (fun _ _ h => h.keep hS'.fr hs.no)
  replace hs := hs.step hS'
  replace hS := hS.trans hS'
  replace hW := hW'
  refine kl_nil ?_
  refine x_seq ?_
  refine k_seq ?_
  refine k_region ?_
  refine kl_val (y_move) rfl rfl rfl ?_
  refine kl_val (y_fieldAddr Try.underlying53 rfl I49 S49 rfl rfl) rfl rfl rfl ?_
  refine kl_val (y_load rfl (ld_aggB Try.underlying49 rfl I49 S49 hpl (hb.part 137 33 (pc_drop (a := 1) (o := 136) rfl (pc_drop (a := 1) (o := 135) rfl (pc_drop (a := 1) (o := 134) rfl (pc_drop (a := 1) (o := 133) rfl (pc_drop (a := 1) (o := 132) rfl (pc_drop (a := 1) (o := 131) rfl (pc_drop (a := 99) (o := 32) hll (pc_drop (a := 32) (o := 0) (by rw [bvs_length]; exact hk) (pc_take hpl)))))))))))) rfl rfl rfl ?_
  refine kl_ow rfl (ow_call2 fn67 rfl rfl rfl rfl (prekey_w hW (hp.keep _ _) hs (by first | omega | (simp only [List.length_nil]; omega) | (simp only [List.length_append, List.length_nil]; omega))) (kret_ret (fun _ w' ⟨v', hW', hS'⟩ => ?_)))
  replace hb := hb.keep hS'.fr nb.no
  replace nb := nb.step hS'
  replace hL := hL.keep hS'.fr hs.no
  replace ho := ho.keep hS'.fr hs.no (fun _ _ h => h.keep _ _)
  replace hi := hi.keep hS'.fr hs.no (fun _ _ h => h.keep hS'.fr hs.no)
  replace hs := hs.step hS'
  replace hS := hS.trans hS'
  replace hW := hW'
  refine kl_nil ?_
  refine x_seq ?_
  refine k_seq ?_
  refine k_region ?_
  refine kl_val (y_move) rfl rfl rfl ?_
  refine kl_val (y_fieldAddr Try.underlying53 rfl I45 S45 rfl rfl) rfl rfl rfl ?_
  refine kl_val (y_load rfl (ld_aggB Try.underlying45 rfl I45 S45 (by rw [bvs_length]; exact hg) (hb.part 170 64 (pc_drop (a := 1) (o := 169) rfl (pc_drop (a := 1) (o := 168) rfl (pc_drop (a := 1) (o := 167) rfl (pc_drop (a := 1) (o := 166) rfl (pc_drop (a := 1) (o := 165) rfl (pc_drop (a := 1) (o := 164) rfl (pc_drop (a := 99) (o := 65) hll (pc_drop (a := 32) (o := 33) (by rw [bvs_length]; exact hk) (pc_drop (a := 33) (o := 0) hpl (pc_take (by rw [bvs_length]; exact hg)))))))))))))) rfl rfl rfl ?_
  refine kl_ow rfl (ow_call2 fn68 rfl rfl rfl rfl (sig_w hW hg (by first | omega | (simp only [List.length_nil]; omega) | (simp only [List.length_append, List.length_nil]; omega))) (kret_ret (fun _ w' ⟨v', hW', hS'⟩ => ?_)))
  replace hb := hb.keep hS'.fr nb.no
  replace nb := nb.step hS'
  replace hL := hL.keep hS'.fr hs.no
  replace ho := ho.keep hS'.fr hs.no (fun _ _ h => h.keep _ _)
  replace hi := hi.keep hS'.fr hs.no (fun _ _ h => h.keep hS'.fr hs.no)
  replace hs := hs.step hS'
  replace hS := hS.trans hS'
  replace hW := hW'
  refine kl_nil ?_
  refine x_seq ?_
  refine k_seq ?_
  refine k_region ?_
  refine kl_val (y_move) rfl rfl rfl ?_
  refine kl_val (y_fieldAddr Try.underlying53 rfl I50 S50 rfl rfl) rfl rfl rfl ?_
  refine kl_val (y_load rfl (ld_one Try.underlying50 rfl (bx_cell hb (pc_drop (a := 1) (o := 233) rfl (pc_drop (a := 1) (o := 232) rfl (pc_drop (a := 1) (o := 231) rfl (pc_drop (a := 1) (o := 230) rfl (pc_drop (a := 1) (o := 229) rfl (pc_drop (a := 1) (o := 228) rfl (pc_drop (a := 99) (o := 129) hll (pc_drop (a := 32) (o := 97) (by rw [bvs_length]; exact hk) (pc_drop (a := 33) (o := 64) hpl (pc_drop (a := 64) (o := 0) (by rw [bvs_length]; exact hg) (pc_take rfl)))))))))))))) rfl rfl rfl ?_
  refine kl_ow rfl (ow_call3 fn69 rfl rfl rfl rfl rfl (each_prekey_w hW ho hs (by first | omega | (simp only [List.length_nil]; omega) | (simp only [List.length_append, List.length_nil]; omega)) hn.2.1) (kret_ret (fun _ w' ⟨v', hW', hS'⟩ => ?_)))
  replace hb := hb.keep hS'.fr nb.no
  replace nb := nb.step hS'
  replace hL := hL.keep hS'.fr hs.no
  replace ho := ho.keep hS'.fr hs.no (fun _ _ h => h.keep _ _)
  replace hi := hi.keep hS'.fr hs.no (fun _ _ h => h.keep hS'.fr hs.no)
  replace hs := hs.step hS'
  replace hS := hS.trans hS'
  replace hW := hW'
  refine kl_nil ?_
  refine x_seq ?_
  refine k_seq ?_
  refine k_region ?_
  refine kl_val (y_move) rfl rfl rfl ?_
  refine kl_val (y_fieldAddr Try.underlying53 rfl I3 S3 rfl rfl) rfl rfl rfl ?_
  refine kl_val (y_load rfl (ld_one Try.underlying3 rfl (bx_cell hb (pc_drop (a := 1) (o := 234) rfl (pc_drop (a := 1) (o := 233) rfl (pc_drop (a := 1) (o := 232) rfl (pc_drop (a := 1) (o := 231) rfl (pc_drop (a := 1) (o := 230) rfl (pc_drop (a := 1) (o := 229) rfl (pc_drop (a := 99) (o := 130) hll (pc_drop (a := 32) (o := 98) (by rw [bvs_length]; exact hk) (pc_drop (a := 33) (o := 65) hpl (pc_drop (a := 64) (o := 1) (by rw [bvs_length]; exact hg) (pc_drop (a := 1) (o := 0) rfl (pc_take rfl))))))))))))))) rfl rfl rfl ?_
  refine kl_ow rfl (ow_call2 fn47 rfl rfl rfl rfl (number_w hW (by first | omega | (simp only [List.length_nil]; omega) | (simp only [List.length_append, List.length_nil]; omega))) (kret_ret (fun _ w' ⟨v', hW', hS'⟩ => ?_)))
  replace hb := hb.keep hS'.fr nb.no
  replace nb := nb.step hS'
  replace hL := hL.keep hS'.fr hs.no
  replace ho := ho.keep hS'.fr hs.no (fun _ _ h => h.keep _ _)
  replace hi := hi.keep hS'.fr hs.no (fun _ _ h => h.keep hS'.fr hs.no)
  replace hs := hs.step hS'
  replace hS := hS.trans hS'
  replace hW := hW'
  refine kl_nil ?_
  refine x_seq ?_
  refine k_seq ?_
  refine k_region ?_
  refine kl_val (y_move) rfl rfl rfl ?_
  refine kl_val (y_fieldAddr Try.underlying53 rfl I51 S51 rfl rfl) rfl rfl rfl ?_
  refine kl_val (y_load rfl (ld_one Try.underlying51 rfl (bx_cell hb (pc_drop (a := 1) (o := 235) rfl (pc_drop (a := 1) (o := 234) rfl (pc_drop (a := 1) (o := 233) rfl (pc_drop (a := 1) (o := 232) rfl (pc_drop (a := 1) (o := 231) rfl (pc_drop (a := 1) (o := 230) rfl (pc_drop (a := 99) (o := 131) hll (pc_drop (a := 32) (o := 99) (by rw [bvs_length]; exact hk) (pc_drop (a := 33) (o := 66) hpl (pc_drop (a := 64) (o := 2) (by rw [bvs_length]; exact hg) (pc_drop (a := 1) (o := 1) rfl (pc_drop (a := 1) (o := 0) rfl (pc_last rfl)))))))))))))))) rfl rfl rfl ?_
  refine kl_ow rfl (ow_call3 fn70 rfl rfl rfl rfl rfl (each_item_w hW hi hs (by first | omega | (simp only [List.length_nil]; omega) | (simp only [List.length_append, List.length_nil]; omega)) hn.2.2.1 hn.2.2.2) (kret_ret (fun _ w' ⟨v', hW', hS'⟩ => ?_)))
  replace hb := hb.keep hS'.fr nb.no
  replace nb := nb.step hS'
  replace hL := hL.keep hS'.fr hs.no
  replace ho := ho.keep hS'.fr hs.no (fun _ _ h => h.keep _ _)
  replace hi := hi.keep hS'.fr hs.no (fun _ _ h => h.keep hS'.fr hs.no)
  replace hs := hs.step hS'
  replace hS := hS.trans hS'
  replace hW := hW'
  refine kl_nil ?_
  refine x_seq ?_
  refine k_seq ?_
  refine k_region ?_
  refine kl_val (y_move) rfl rfl rfl ?_
  refine kl_val (y_nil rfl) rfl rfl rfl ?_
  refine kl_val (y_fieldAddr Try.underlying97 rfl I22 S22 rfl rfl) rfl rfl rfl ?_
  refine kl_val (y_load rfl (ld_one Try.underlying22 rfl hW.cell)) rfl rfl rfl ?_
  refine kl_val (y_assign) rfl rfl rfl ?_
  refine kl_nil ?_
  refine x_seq ?_
  refine k_ret ?_
  refine k_ret1 rfl rfl ⟨_, rfl, out_of hEx hpw hS (by simp only [List.append_assoc, List.nil_append] at hW; exact hW)⟩

set_option maxRecDepth 100000 in
set_option maxHeartbeats 1000000 in
theorem Response_W {x : Rsp} {cs : List Value} {w : World} {B : Nat → Prop} (hx : RspR w B cs x) (hB : ∀ b, B b → b < w.heap.size) (hl : (wRsp x).length ≤ 800000000) (hn : x.list.devices.length ≤ 800000000 ∧ x.bundle.one.length ≤ 800000000 ∧ x.mail.length ≤ 800000000 ∧ ∀ e ∈ x.mail, -9223372036854775808 ≤ e.one) :
    Ret Try.prog 24 #[.agg cs.toArray] w (fun v w' => Out w w' v (wRsp x)) := by
  refine k_enter1 Try.func24 rfl Try.ntmps24 rfl ?_
  obtain ⟨hkd, lc, bc, vm, hL, hb2, hm, rfl⟩ := hx
  have hll := hL.length
  have hbl := hb2.length
  simp only [wRsp, List.length_append] at hl
  refine k_seq ?_
  refine k_region ?_
  refine kl_ow rfl (ow_boxA rfl rfl (fun w0 b hb hf0 he0 hz0 => ?_))
  replace hL := hL.keep hf0 (fun _ _ h => h)
  replace hb2 := hb2.keep hf0 (fun _ _ h => h)
  replace hm := hm.keep hf0 (fun _ _ h => h) (fun _ _ h => h.keep hf0 (fun _ _ h => h))
  refine kl_val (y_assign) rfl rfl rfl ?_
  refine kl_nil ?_
  refine x_seq ?_
  refine k_seq ?_
  refine k_region ?_
  refine kl_val (y_build (cells := #[.slice none 0 0]) rfl (by kernel_rfl)) rfl rfl rfl ?_
  refine kl_ow rfl (ow_box (v := .agg #[.slice none 0 0]) rfl rfl (fun w1 bw hbw hfw hew hzw => ?_))
  have hW := wr_new hbw
  have hEx : Ext w w1 := hf0.trans hfw
  have hpw : w.heap.size ≤ bw := by have := hf0.size; omega
  replace hb := hb.keep hfw (fun h => h)
  have nb : Sep1 w1 ⟨bw, 0, none⟩ (.slice none 0 0) b := sep1_new (by omega) (by omega)
  replace hL := hL.keep hfw (fun _ _ h => h)
  replace hb2 := hb2.keep hfw (fun _ _ h => h)
  replace hm := hm.keep hfw (fun _ _ h => h) (fun _ _ h => h.keep hfw (fun _ _ h => h))
  have hs : Sep w1 ⟨bw, 0, none⟩ (.slice none 0 0) B := sep_new (fun i hi => by have := hB i hi; omega) (by omega)
  have hS := WS.refl ⟨bw, 0, none⟩ w1 (.slice none 0 0)
  refine kl_val (y_assign) rfl rfl rfl ?_
  refine kl_nil ?_
  refine x_seq ?_
  refine k_seq ?_
  refine k_region ?_
  refine kl_val (y_move) rfl rfl rfl ?_
  refine kl_val (y_fieldAddr Try.underlying61 rfl I28 S28 rfl rfl) rfl rfl rfl ?_
  refine kl_val (y_load rfl (ld_one Try.underlying28 rfl (bx_cell hb (pc_take rfl)))) rfl rfl rfl ?_
  refine kl_val (Y.cast (v' := .int .i64 (x.err : Int)) (y_conv_int ⟨_, Try.underlying28⟩ Try.underlying3 rfl) (congrArg (Value.int .i64) (wrap64_eq (by omega) (by omega)))) rfl rfl rfl ?_
  refine kl_ow rfl (ow_call2 fn47 rfl rfl rfl rfl (number_w hW (by first | omega | (simp only [List.length_nil]; omega) | (simp only [List.length_append, List.length_nil]; omega))) (kret_ret (fun _ w' ⟨v', hW', hS'⟩ => ?_)))
  replace hb := hb.keep hS'.fr nb.no
  replace nb := nb.step hS'
  replace hL := hL.keep hS'.fr hs.no
  replace hb2 := hb2.keep hS'.fr hs.no
  replace hm := hm.keep hS'.fr hs.no (fun _ _ h => h.keep hS'.fr hs.no)
  replace hs := hs.step hS'
  replace hS := hS.trans hS'
  replace hW := hW'
  refine kl_nil ?_
  refine x_seq ?_
  refine k_seq ?_
  refine k_region ?_
  refine kl_val (y_move) rfl rfl rfl ?_
  refine kl_val (y_fieldAddr Try.underlying61 rfl I47 S47 rfl rfl) rfl rfl rfl ?_
  refine kl_val (y_load rfl (ld_aggB Try.underlying47 rfl I47 S47 hll (hb.part 1 99 (pc_drop (a := 1) (o := 0) rfl (pc_take hll))))) rfl rfl rfl ?_
  refine kl_ow rfl (ow_call2 fn59 rfl rfl rfl rfl (list_w hW hL hs (by first | omega | (simp only [List.length_nil]; omega) | (simp only [List.length_append, List.length_nil]; omega)) hn.1) (kret_ret (fun _ w' ⟨v', hW', hS'⟩ => ?_)))
  replace hb := hb.keep hS'.fr nb.no
  replace nb := nb.step hS'
  replace hL := hL.keep hS'.fr hs.no
  replace hb2 := hb2.keep hS'.fr hs.no
  replace hm := hm.keep hS'.fr hs.no (fun _ _ h => h.keep hS'.fr hs.no)
  replace hs := hs.step hS'
  replace hS := hS.trans hS'
  replace hW := hW'
  refine kl_nil ?_
  refine x_seq ?_
  refine k_seq ?_
  refine k_region ?_
  refine kl_val (y_move) rfl rfl rfl ?_
  refine kl_val (y_fieldAddr Try.underlying61 rfl I58 S58 rfl rfl) rfl rfl rfl ?_
  refine kl_val (y_load rfl (ld_aggB Try.underlying58 rfl I58 S58 hbl (hb.part 100 164 (pc_drop (a := 1) (o := 99) rfl (pc_drop (a := 99) (o := 0) hll (pc_take hbl)))))) rfl rfl rfl ?_
  refine kl_ow rfl (ow_call2 fn76 rfl rfl rfl rfl (bundle_w hW hb2 hs (by first | omega | (simp only [List.length_nil]; omega) | (simp only [List.length_append, List.length_nil]; omega)) hn.2.1) (kret_ret (fun _ w' ⟨v', hW', hS'⟩ => ?_)))
  replace hb := hb.keep hS'.fr nb.no
  replace nb := nb.step hS'
  replace hL := hL.keep hS'.fr hs.no
  replace hb2 := hb2.keep hS'.fr hs.no
  replace hm := hm.keep hS'.fr hs.no (fun _ _ h => h.keep hS'.fr hs.no)
  replace hs := hs.step hS'
  replace hS := hS.trans hS'
  replace hW := hW'
  refine kl_nil ?_
  refine x_seq ?_
  refine k_seq ?_
  refine k_region ?_
  refine kl_val (y_move) rfl rfl rfl ?_
  refine kl_val (y_fieldAddr Try.underlying61 rfl I59 S59 rfl rfl) rfl rfl rfl ?_
  refine kl_val (y_load rfl (ld_one Try.underlying59 rfl (bx_cell hb (pc_drop (a := 1) (o := 263) rfl (pc_drop (a := 99) (o := 164) hll (pc_drop (a := 164) (o := 0) hbl (pc_last rfl))))))) rfl rfl rfl ?_
  refine kl_ow rfl (ow_call3 fn77 rfl rfl rfl rfl rfl (each_envelope_w hW hm hs (by first | omega | (simp only [List.length_nil]; omega) | (simp only [List.length_append, List.length_nil]; omega)) hn.2.2.1 hn.2.2.2) (kret_ret (fun _ w' ⟨v', hW', hS'⟩ => ?_)))
  replace hb := hb.keep hS'.fr nb.no
  replace nb := nb.step hS'
  replace hL := hL.keep hS'.fr hs.no
  replace hb2 := hb2.keep hS'.fr hs.no
  replace hm := hm.keep hS'.fr hs.no (fun _ _ h => h.keep hS'.fr hs.no)
  replace hs := hs.step hS'
  replace hS := hS.trans hS'
  replace hW := hW'
  refine kl_nil ?_
  refine x_seq ?_
  refine k_seq ?_
  refine k_region ?_
  refine kl_val (y_move) rfl rfl rfl ?_
  refine kl_val (y_nil rfl) rfl rfl rfl ?_
  refine kl_val (y_fieldAddr Try.underlying97 rfl I22 S22 rfl rfl) rfl rfl rfl ?_
  refine kl_val (y_load rfl (ld_one Try.underlying22 rfl hW.cell)) rfl rfl rfl ?_
  refine kl_val (y_assign) rfl rfl rfl ?_
  refine kl_nil ?_
  refine x_seq ?_
  refine k_ret ?_
  refine k_ret1 rfl rfl ⟨_, rfl, out_of hEx hpw hS (by simp only [List.append_assoc, List.nil_append] at hW; exact hW)⟩

set_option maxRecDepth 100000 in
set_option maxHeartbeats 1000000 in
theorem Account_W {x : Acct} {cs : List Value} {w : World} {B : Nat → Prop} (hx : AcctR w B cs x) (hB : ∀ b, B b → b < w.heap.size) (hl : (wAcct x).length ≤ 800000000) (hn : x.list.devices.length ≤ 800000000 ∧ x.slots.length ≤ 800000000 ∧ x.tokens.length ≤ 800000000 ∧ ∀ s ∈ x.slots, s.ones.length ≤ 800000000 ∧ s.mail.length ≤ 800000000 ∧ ∀ e ∈ s.mail, -9223372036854775808 ≤ e.one) :
    Ret Try.prog 28 #[.agg cs.toArray] w (fun v w' => Out w w' v (wAcct x)) := by
  refine k_enter1 Try.func28 rfl Try.ntmps28 rfl ?_
  obtain ⟨lc, vs, vk, hL, hSl, hK, rfl⟩ := hx
  have hll := hL.length
  have hbl : (wText (sBytes x.pin)).length = (numI (sBytes x.pin).length).length + x.pin.size := by simp only [wText, List.length_append]; rfl
  simp only [wAcct, List.length_append] at hl
  refine k_seq ?_
  refine k_region ?_
  refine kl_ow rfl (ow_boxA rfl rfl (fun w0 b hb hf0 he0 hz0 => ?_))
  replace hL := hL.keep hf0 (fun _ _ h => h)
  replace hSl := hSl.keep hf0 (fun _ _ h => h) (fun _ _ h => h.keep hf0 (fun _ _ h => h))
  replace hK := hK.keep hf0 (fun _ _ h => h) (fun _ _ h => h.keep _ _)
  refine kl_val (y_assign) rfl rfl rfl ?_
  refine kl_nil ?_
  refine x_seq ?_
  refine k_seq ?_
  refine k_region ?_
  refine kl_val (y_build (cells := #[.slice none 0 0]) rfl (by kernel_rfl)) rfl rfl rfl ?_
  refine kl_ow rfl (ow_box (v := .agg #[.slice none 0 0]) rfl rfl (fun w1 bw hbw hfw hew hzw => ?_))
  have hW := wr_new hbw
  have hEx : Ext w w1 := hf0.trans hfw
  have hpw : w.heap.size ≤ bw := by have := hf0.size; omega
  replace hb := hb.keep hfw (fun h => h)
  have nb : Sep1 w1 ⟨bw, 0, none⟩ (.slice none 0 0) b := sep1_new (by omega) (by omega)
  replace hL := hL.keep hfw (fun _ _ h => h)
  replace hSl := hSl.keep hfw (fun _ _ h => h) (fun _ _ h => h.keep hfw (fun _ _ h => h))
  replace hK := hK.keep hfw (fun _ _ h => h) (fun _ _ h => h.keep _ _)
  have hs : Sep w1 ⟨bw, 0, none⟩ (.slice none 0 0) B := sep_new (fun i hi => by have := hB i hi; omega) (by omega)
  have hS := WS.refl ⟨bw, 0, none⟩ w1 (.slice none 0 0)
  refine kl_val (y_assign) rfl rfl rfl ?_
  refine kl_nil ?_
  refine x_seq ?_
  refine k_seq ?_
  refine k_region ?_
  refine kl_val (y_move) rfl rfl rfl ?_
  refine kl_val (y_fieldAddr Try.underlying72 rfl I3 S3 rfl rfl) rfl rfl rfl ?_
  refine kl_val (y_load rfl (ld_one Try.underlying3 rfl (bx_cell hb (pc_take rfl)))) rfl rfl rfl ?_
  refine kl_ow rfl (ow_call2 fn47 rfl rfl rfl rfl (number_w hW (by first | omega | (simp only [List.length_nil]; omega) | (simp only [List.length_append, List.length_nil]; omega))) (kret_ret (fun _ w' ⟨v', hW', hS'⟩ => ?_)))
  replace hb := hb.keep hS'.fr nb.no
  replace nb := nb.step hS'
  replace hL := hL.keep hS'.fr hs.no
  replace hSl := hSl.keep hS'.fr hs.no (fun _ _ h => h.keep hS'.fr hs.no)
  replace hK := hK.keep hS'.fr hs.no (fun _ _ h => h.keep _ _)
  replace hs := hs.step hS'
  replace hS := hS.trans hS'
  replace hW := hW'
  refine kl_nil ?_
  refine x_seq ?_
  refine k_seq ?_
  refine k_region ?_
  refine kl_val (y_move) rfl rfl rfl ?_
  refine kl_val (y_fieldAddr Try.underlying72 rfl I9 S9 rfl rfl) rfl rfl rfl ?_
  refine kl_val (y_load rfl (ld_one Try.underlying9 rfl (bx_cell hb (pc_drop (a := 1) (o := 0) rfl (pc_take rfl))))) rfl rfl rfl ?_
  refine kl_ow rfl (ow_call2 fn46 rfl rfl rfl rfl (text_w hW (by first | omega | (simp only [List.length_nil]; omega) | (simp only [List.length_append, List.length_nil]; omega))) (kret_ret (fun _ w' ⟨v', hW', hS'⟩ => ?_)))
  replace hb := hb.keep hS'.fr nb.no
  replace nb := nb.step hS'
  replace hL := hL.keep hS'.fr hs.no
  replace hSl := hSl.keep hS'.fr hs.no (fun _ _ h => h.keep hS'.fr hs.no)
  replace hK := hK.keep hS'.fr hs.no (fun _ _ h => h.keep _ _)
  replace hs := hs.step hS'
  replace hS := hS.trans hS'
  replace hW := hW'
  refine kl_nil ?_
  refine x_seq ?_
  refine k_seq ?_
  refine k_region ?_
  refine kl_val (y_move) rfl rfl rfl ?_
  refine kl_val (y_fieldAddr Try.underlying72 rfl I3 S3 rfl rfl) rfl rfl rfl ?_
  refine kl_val (y_load rfl (ld_one Try.underlying3 rfl (bx_cell hb (pc_drop (a := 1) (o := 1) rfl (pc_drop (a := 1) (o := 0) rfl (pc_take rfl)))))) rfl rfl rfl ?_
  refine kl_ow rfl (ow_call2 fn47 rfl rfl rfl rfl (number_w hW (by first | omega | (simp only [List.length_nil]; omega) | (simp only [List.length_append, List.length_nil]; omega))) (kret_ret (fun _ w' ⟨v', hW', hS'⟩ => ?_)))
  replace hb := hb.keep hS'.fr nb.no
  replace nb := nb.step hS'
  replace hL := hL.keep hS'.fr hs.no
  replace hSl := hSl.keep hS'.fr hs.no (fun _ _ h => h.keep hS'.fr hs.no)
  replace hK := hK.keep hS'.fr hs.no (fun _ _ h => h.keep _ _)
  replace hs := hs.step hS'
  replace hS := hS.trans hS'
  replace hW := hW'
  refine kl_nil ?_
  refine x_seq ?_
  refine k_seq ?_
  refine k_region ?_
  refine kl_val (y_move) rfl rfl rfl ?_
  refine kl_val (y_fieldAddr Try.underlying72 rfl I3 S3 rfl rfl) rfl rfl rfl ?_
  refine kl_val (y_load rfl (ld_one Try.underlying3 rfl (bx_cell hb (pc_drop (a := 1) (o := 2) rfl (pc_drop (a := 1) (o := 1) rfl (pc_drop (a := 1) (o := 0) rfl (pc_take rfl))))))) rfl rfl rfl ?_
  refine kl_ow rfl (ow_call2 fn47 rfl rfl rfl rfl (number_w hW (by first | omega | (simp only [List.length_nil]; omega) | (simp only [List.length_append, List.length_nil]; omega))) (kret_ret (fun _ w' ⟨v', hW', hS'⟩ => ?_)))
  replace hb := hb.keep hS'.fr nb.no
  replace nb := nb.step hS'
  replace hL := hL.keep hS'.fr hs.no
  replace hSl := hSl.keep hS'.fr hs.no (fun _ _ h => h.keep hS'.fr hs.no)
  replace hK := hK.keep hS'.fr hs.no (fun _ _ h => h.keep _ _)
  replace hs := hs.step hS'
  replace hS := hS.trans hS'
  replace hW := hW'
  refine kl_nil ?_
  refine x_seq ?_
  refine k_seq ?_
  refine k_region ?_
  refine kl_val (y_move) rfl rfl rfl ?_
  refine kl_val (y_fieldAddr Try.underlying72 rfl I47 S47 rfl rfl) rfl rfl rfl ?_
  refine kl_val (y_load rfl (ld_aggB Try.underlying47 rfl I47 S47 hll (hb.part 4 99 (pc_drop (a := 1) (o := 3) rfl (pc_drop (a := 1) (o := 2) rfl (pc_drop (a := 1) (o := 1) rfl (pc_drop (a := 1) (o := 0) rfl (pc_take hll)))))))) rfl rfl rfl ?_
  refine kl_ow rfl (ow_call2 fn59 rfl rfl rfl rfl (list_w hW hL hs (by first | omega | (simp only [List.length_nil]; omega) | (simp only [List.length_append, List.length_nil]; omega)) hn.1) (kret_ret (fun _ w' ⟨v', hW', hS'⟩ => ?_)))
  replace hb := hb.keep hS'.fr nb.no
  replace nb := nb.step hS'
  replace hL := hL.keep hS'.fr hs.no
  replace hSl := hSl.keep hS'.fr hs.no (fun _ _ h => h.keep hS'.fr hs.no)
  replace hK := hK.keep hS'.fr hs.no (fun _ _ h => h.keep _ _)
  replace hs := hs.step hS'
  replace hS := hS.trans hS'
  replace hW := hW'
  refine kl_nil ?_
  refine x_seq ?_
  refine k_seq ?_
  refine k_region ?_
  refine kl_val (y_move) rfl rfl rfl ?_
  refine kl_val (y_fieldAddr Try.underlying72 rfl I69 S69 rfl rfl) rfl rfl rfl ?_
  refine kl_val (y_load rfl (ld_one Try.underlying69 rfl (bx_cell hb (pc_drop (a := 1) (o := 102) rfl (pc_drop (a := 1) (o := 101) rfl (pc_drop (a := 1) (o := 100) rfl (pc_drop (a := 1) (o := 99) rfl (pc_drop (a := 99) (o := 0) hll (pc_take rfl))))))))) rfl rfl rfl ?_
  refine kl_ow rfl (ow_call3 fn80 rfl rfl rfl rfl rfl (each_slot_w hW hSl hs (by first | omega | (simp only [List.length_nil]; omega) | (simp only [List.length_append, List.length_nil]; omega)) hn.2.1 hn.2.2.2) (kret_ret (fun _ w' ⟨v', hW', hS'⟩ => ?_)))
  replace hb := hb.keep hS'.fr nb.no
  replace nb := nb.step hS'
  replace hL := hL.keep hS'.fr hs.no
  replace hSl := hSl.keep hS'.fr hs.no (fun _ _ h => h.keep hS'.fr hs.no)
  replace hK := hK.keep hS'.fr hs.no (fun _ _ h => h.keep _ _)
  replace hs := hs.step hS'
  replace hS := hS.trans hS'
  replace hW := hW'
  refine kl_nil ?_
  refine x_seq ?_
  refine k_seq ?_
  refine k_region ?_
  refine kl_val (y_move) rfl rfl rfl ?_
  refine kl_val (y_fieldAddr Try.underlying72 rfl I70 S70 rfl rfl) rfl rfl rfl ?_
  refine kl_val (y_load rfl (ld_one Try.underlying70 rfl (bx_cell hb (pc_drop (a := 1) (o := 103) rfl (pc_drop (a := 1) (o := 102) rfl (pc_drop (a := 1) (o := 101) rfl (pc_drop (a := 1) (o := 100) rfl (pc_drop (a := 99) (o := 1) hll (pc_drop (a := 1) (o := 0) rfl (pc_last rfl)))))))))) rfl rfl rfl ?_
  refine kl_ow rfl (ow_call3 fn82 rfl rfl rfl rfl rfl (each_key_w hW hK hs (by first | omega | (simp only [List.length_nil]; omega) | (simp only [List.length_append, List.length_nil]; omega)) hn.2.2.1) (kret_ret (fun _ w' ⟨v', hW', hS'⟩ => ?_)))
  replace hb := hb.keep hS'.fr nb.no
  replace nb := nb.step hS'
  replace hL := hL.keep hS'.fr hs.no
  replace hSl := hSl.keep hS'.fr hs.no (fun _ _ h => h.keep hS'.fr hs.no)
  replace hK := hK.keep hS'.fr hs.no (fun _ _ h => h.keep _ _)
  replace hs := hs.step hS'
  replace hS := hS.trans hS'
  replace hW := hW'
  refine kl_nil ?_
  refine x_seq ?_
  refine k_seq ?_
  refine k_region ?_
  refine kl_val (y_move) rfl rfl rfl ?_
  refine kl_val (y_nil rfl) rfl rfl rfl ?_
  refine kl_val (y_fieldAddr Try.underlying97 rfl I22 S22 rfl rfl) rfl rfl rfl ?_
  refine kl_val (y_load rfl (ld_one Try.underlying22 rfl hW.cell)) rfl rfl rfl ?_
  refine kl_val (y_assign) rfl rfl rfl ?_
  refine kl_nil ?_
  refine x_seq ?_
  refine k_ret ?_
  refine k_ret1 rfl rfl ⟨_, rfl, out_of hEx hpw hS (by simp only [List.append_assoc, List.nil_append] at hW; exact hW)⟩

set_option maxRecDepth 100000 in
set_option maxHeartbeats 1000000 in
theorem bytesEnvelope_W {x : Env'} {cs : List Value} {w : World} {B : Nat → Prop} (hx : EnvR w B cs x) (hB : ∀ b, B b → b < w.heap.size) (hl : (wEnv x).length ≤ 800000000) (h1 : -9223372036854775808 ≤ x.one) :
    Ret Try.prog 55 #[.agg cs.toArray, .func (.func 56) #[] #[]] w (fun v w' => Out w w' v (wEnv x)) := by
  refine k_enter2 Try.func55 rfl Try.ntmps55 rfl ?_
  have hlen := hx.length
  have hone := hx.one
  refine k_seq ?_
  refine k_region ?_
  refine kl_ow rfl (ow_boxA rfl rfl (fun w0 b hb hf0 he0 hz0 => ?_))
  replace hx := hx.keep hf0 (fun _ _ h => h)
  refine kl_val (y_assign) rfl rfl rfl ?_
  refine kl_nil ?_
  refine x_seq ?_
  refine k_seq ?_
  refine k_region ?_
  refine kl_val (y_build (cells := #[.slice none 0 0]) rfl (by kernel_rfl)) rfl rfl rfl ?_
  refine kl_ow rfl (ow_box (v := .agg #[.slice none 0 0]) rfl rfl (fun w1 bw hbw hfw hew hzw => ?_))
  have hW := wr_new hbw
  have hEx : Ext w w1 := hf0.trans hfw
  have hpw : w.heap.size ≤ bw := by have := hf0.size; omega
  replace hb := hb.keep hfw (fun h => h)
  have nb : Sep1 w1 ⟨bw, 0, none⟩ (.slice none 0 0) b := sep1_new (by omega) (by omega)
  have hs : Sep w1 ⟨bw, 0, none⟩ (.slice none 0 0) B := sep_new (fun i hi => by have := hB i hi; omega) (by omega)
  have hS := WS.refl ⟨bw, 0, none⟩ w1 (.slice none 0 0)
  replace hx := hx.keep hfw (fun _ _ h => h)
  refine kl_val (y_assign) rfl rfl rfl ?_
  refine kl_nil ?_
  refine x_seq ?_
  refine k_seq ?_
  refine k_region ?_
  refine kl_val (y_move) rfl rfl rfl ?_
  refine kl_val (y_move) rfl rfl rfl ?_
  refine kl_val (y_load rfl (ld_aggB Try.underlying38 rfl I38 S38 hlen hb.cs)) rfl rfl rfl ?_
  refine kl_ow rfl (ow_call2 fn56 rfl rfl rfl rfl (envelope_w hW hx hs (by simpa using hl) h1) (kret_ret (fun _ w' ⟨v', hW', hS'⟩ => ?_)))
  replace hS := hS'
  replace hW := hW'
  refine kl_nil ?_
  refine x_seq ?_
  refine k_seq ?_
  refine k_region ?_
  refine kl_val (y_move) rfl rfl rfl ?_
  refine kl_val (y_nil rfl) rfl rfl rfl ?_
  refine kl_val (y_fieldAddr Try.underlying97 rfl I22 S22 rfl rfl) rfl rfl rfl ?_
  refine kl_val (y_load rfl (ld_one Try.underlying22 rfl hW.cell)) rfl rfl rfl ?_
  refine kl_val (y_assign) rfl rfl rfl ?_
  refine kl_nil ?_
  refine x_seq ?_
  refine k_ret ?_
  refine k_ret1 rfl rfl ⟨_, rfl, out_of hEx hpw hS (by rw [List.nil_append] at hW; exact hW)⟩

set_option maxRecDepth 100000 in
set_option maxHeartbeats 1000000 in
theorem Envelope_W {x : Env'} {cs : List Value} {w : World} {B : Nat → Prop} (hx : EnvR w B cs x) (hB : ∀ b, B b → b < w.heap.size) (hl : (wEnv x).length ≤ 800000000) (h1 : -9223372036854775808 ≤ x.one) :
    Ret Try.prog 13 #[.agg cs.toArray] w (fun v w' => Out w w' v (wEnv x)) := by
  refine k_enter1 Try.func13 rfl Try.ntmps13 rfl ?_
  have hlen := hx.length
  refine k_seq ?_
  refine k_region ?_
  refine kl_ow rfl (ow_boxA rfl rfl (fun w0 b hb hf0 he0 hz0 => ?_))
  replace hx := hx.keep hf0 (fun _ _ h => h)
  refine kl_val (y_assign) rfl rfl rfl ?_
  refine kl_nil ?_
  refine x_seq ?_
  refine k_seq ?_
  refine k_region ?_
  refine kl_val (y_load rfl (ld_aggB Try.underlying38 rfl I38 S38 hlen hb.cs)) rfl rfl rfl ?_
  refine kl_ow rfl (ow_call2 fn55 rfl rfl rfl rfl (bytesEnvelope_W hx (fun i hi => Nat.lt_of_lt_of_le (hB i hi) hf0.size) hl h1) (kret_ret (fun v' w' hO => ?_)))
  refine kl_val (y_assign) rfl rfl rfl ?_
  refine kl_nil ?_
  refine x_seq ?_
  refine k_ret ?_
  exact k_ret1 rfl rfl ⟨_, rfl, hO.own, hf0.trans hO.ext, fun b hb => Nat.le_trans hf0.size (hO.fresh b hb)⟩

set_option maxRecDepth 100000 in
set_option maxHeartbeats 1000000 in
theorem bytesList_W {x : Lst} {cs : List Value} {w : World} {B : Nat → Prop} (hx : LstR w B cs x) (hB : ∀ b, B b → b < w.heap.size) (hl : (wLst x).length ≤ 800000000) (hn : x.devices.length ≤ 800000000) :
    Ret Try.prog 58 #[.agg cs.toArray, .func (.func 59) #[] #[]] w (fun v w' => Out w w' v (wLst x)) := by
  refine k_enter2 Try.func58 rfl Try.ntmps58 rfl ?_
  have hlen := hx.length
  have hone := hx.one
  refine k_seq ?_
  refine k_region ?_
  refine kl_ow rfl (ow_boxA rfl rfl (fun w0 b hb hf0 he0 hz0 => ?_))
  replace hx := hx.keep hf0 (fun _ _ h => h)
  refine kl_val (y_assign) rfl rfl rfl ?_
  refine kl_nil ?_
  refine x_seq ?_
  refine k_seq ?_
  refine k_region ?_
  refine kl_val (y_build (cells := #[.slice none 0 0]) rfl (by kernel_rfl)) rfl rfl rfl ?_
  refine kl_ow rfl (ow_box (v := .agg #[.slice none 0 0]) rfl rfl (fun w1 bw hbw hfw hew hzw => ?_))
  have hW := wr_new hbw
  have hEx : Ext w w1 := hf0.trans hfw
  have hpw : w.heap.size ≤ bw := by have := hf0.size; omega
  replace hb := hb.keep hfw (fun h => h)
  have nb : Sep1 w1 ⟨bw, 0, none⟩ (.slice none 0 0) b := sep1_new (by omega) (by omega)
  have hs : Sep w1 ⟨bw, 0, none⟩ (.slice none 0 0) B := sep_new (fun i hi => by have := hB i hi; omega) (by omega)
  have hS := WS.refl ⟨bw, 0, none⟩ w1 (.slice none 0 0)
  replace hx := hx.keep hfw (fun _ _ h => h)
  refine kl_val (y_assign) rfl rfl rfl ?_
  refine kl_nil ?_
  refine x_seq ?_
  refine k_seq ?_
  refine k_region ?_
  refine kl_val (y_move) rfl rfl rfl ?_
  refine kl_val (y_move) rfl rfl rfl ?_
  refine kl_val (y_load rfl (ld_aggB Try.underlying47 rfl I47 S47 hlen hb.cs)) rfl rfl rfl ?_
  refine kl_ow rfl (ow_call2 fn59 rfl rfl rfl rfl (list_w hW hx hs (by simpa using hl) hn) (kret_ret (fun _ w' ⟨v', hW', hS'⟩ => ?_)))
  replace hS := hS'
  replace hW := hW'
  refine kl_nil ?_
  refine x_seq ?_
  refine k_seq ?_
  refine k_region ?_
  refine kl_val (y_move) rfl rfl rfl ?_
  refine kl_val (y_nil rfl) rfl rfl rfl ?_
  refine kl_val (y_fieldAddr Try.underlying97 rfl I22 S22 rfl rfl) rfl rfl rfl ?_
  refine kl_val (y_load rfl (ld_one Try.underlying22 rfl hW.cell)) rfl rfl rfl ?_
  refine kl_val (y_assign) rfl rfl rfl ?_
  refine kl_nil ?_
  refine x_seq ?_
  refine k_ret ?_
  refine k_ret1 rfl rfl ⟨_, rfl, out_of hEx hpw hS (by rw [List.nil_append] at hW; exact hW)⟩

set_option maxRecDepth 100000 in
set_option maxHeartbeats 1000000 in
theorem List_W {x : Lst} {cs : List Value} {w : World} {B : Nat → Prop} (hx : LstR w B cs x) (hB : ∀ b, B b → b < w.heap.size) (hl : (wLst x).length ≤ 800000000) (hn : x.devices.length ≤ 800000000) :
    Ret Try.prog 17 #[.agg cs.toArray] w (fun v w' => Out w w' v (wLst x)) := by
  refine k_enter1 Try.func17 rfl Try.ntmps17 rfl ?_
  have hlen := hx.length
  refine k_seq ?_
  refine k_region ?_
  refine kl_ow rfl (ow_boxA rfl rfl (fun w0 b hb hf0 he0 hz0 => ?_))
  replace hx := hx.keep hf0 (fun _ _ h => h)
  refine kl_val (y_assign) rfl rfl rfl ?_
  refine kl_nil ?_
  refine x_seq ?_
  refine k_seq ?_
  refine k_region ?_
  refine kl_val (y_load rfl (ld_aggB Try.underlying47 rfl I47 S47 hlen hb.cs)) rfl rfl rfl ?_
  refine kl_ow rfl (ow_call2 fn58 rfl rfl rfl rfl (bytesList_W hx (fun i hi => Nat.lt_of_lt_of_le (hB i hi) hf0.size) hl hn) (kret_ret (fun v' w' hO => ?_)))
  refine kl_val (y_assign) rfl rfl rfl ?_
  refine kl_nil ?_
  refine x_seq ?_
  refine k_ret ?_
  exact k_ret1 rfl rfl ⟨_, rfl, hO.own, hf0.trans hO.ext, fun b hb => Nat.le_trans hf0.size (hO.fresh b hb)⟩

set_option maxRecDepth 100000 in
set_option maxHeartbeats 1000000 in
theorem bytesHeader_W {x : Hdr} {cs : List Value} {w : World} {B : Nat → Prop} (hx : HdrR w B cs x) (hB : ∀ b, B b → b < w.heap.size) (hl : (wHdr x).length ≤ 800000000) :
    Ret Try.prog 74 #[.agg cs.toArray, .func (.func 75) #[] #[]] w (fun v w' => Out w w' v (wHdr x)) := by
  refine k_enter2 Try.func74 rfl Try.ntmps74 rfl ?_
  have hlen := hx.length
  have hone := hx.one
  refine k_seq ?_
  refine k_region ?_
  refine kl_ow rfl (ow_boxA rfl rfl (fun w0 b hb hf0 he0 hz0 => ?_))
  replace hx := hx.keep w0 B
  refine kl_val (y_assign) rfl rfl rfl ?_
  refine kl_nil ?_
  refine x_seq ?_
  refine k_seq ?_
  refine k_region ?_
  refine kl_val (y_build (cells := #[.slice none 0 0]) rfl (by kernel_rfl)) rfl rfl rfl ?_
  refine kl_ow rfl (ow_box (v := .agg #[.slice none 0 0]) rfl rfl (fun w1 bw hbw hfw hew hzw => ?_))
  have hW := wr_new hbw
  have hEx : Ext w w1 := hf0.trans hfw
  have hpw : w.heap.size ≤ bw := by have := hf0.size; omega
  replace hb := hb.keep hfw (fun h => h)
  have nb : Sep1 w1 ⟨bw, 0, none⟩ (.slice none 0 0) b := sep1_new (by omega) (by omega)
  have hs : Sep w1 ⟨bw, 0, none⟩ (.slice none 0 0) B := sep_new (fun i hi => by have := hB i hi; omega) (by omega)
  have hS := WS.refl ⟨bw, 0, none⟩ w1 (.slice none 0 0)
  replace hx := hx.keep w1 B
  refine kl_val (y_assign) rfl rfl rfl ?_
  refine kl_nil ?_
  refine x_seq ?_
  refine k_seq ?_
  refine k_region ?_
  refine kl_val (y_move) rfl rfl rfl ?_
  refine kl_val (y_move) rfl rfl rfl ?_
  refine kl_val (y_load rfl (ld_aggB Try.underlying36 rfl I36 S36 hlen hb.cs)) rfl rfl rfl ?_
  refine kl_ow rfl (ow_call2 fn75 rfl rfl rfl rfl (header_w hW hx hs (by simpa using hl)) (kret_ret (fun _ w' ⟨v', hW', hS'⟩ => ?_)))
  replace hS := hS'
  replace hW := hW'
  refine kl_nil ?_
  refine x_seq ?_
  refine k_seq ?_
  refine k_region ?_
  refine kl_val (y_move) rfl rfl rfl ?_
  refine kl_val (y_nil rfl) rfl rfl rfl ?_
  refine kl_val (y_fieldAddr Try.underlying97 rfl I22 S22 rfl rfl) rfl rfl rfl ?_
  refine kl_val (y_load rfl (ld_one Try.underlying22 rfl hW.cell)) rfl rfl rfl ?_
  refine kl_val (y_assign) rfl rfl rfl ?_
  refine kl_nil ?_
  refine x_seq ?_
  refine k_ret ?_
  refine k_ret1 rfl rfl ⟨_, rfl, out_of hEx hpw hS (by rw [List.nil_append] at hW; exact hW)⟩

set_option maxRecDepth 100000 in
set_option maxHeartbeats 1000000 in
theorem Header_W {x : Hdr} {cs : List Value} {w : World} {B : Nat → Prop} (hx : HdrR w B cs x) (hB : ∀ b, B b → b < w.heap.size) (hl : (wHdr x).length ≤ 800000000) :
    Ret Try.prog 22 #[.agg cs.toArray] w (fun v w' => Out w w' v (wHdr x)) := by
  refine k_enter1 Try.func22 rfl Try.ntmps22 rfl ?_
  have hlen := hx.length
  refine k_seq ?_
  refine k_region ?_
  refine kl_ow rfl (ow_boxA rfl rfl (fun w0 b hb hf0 he0 hz0 => ?_))
  replace hx := hx.keep w0 B
  refine kl_val (y_assign) rfl rfl rfl ?_
  refine kl_nil ?_
  refine x_seq ?_
  refine k_seq ?_
  refine k_region ?_
  refine kl_val (y_load rfl (ld_aggB Try.underlying36 rfl I36 S36 hlen hb.cs)) rfl rfl rfl ?_
  refine kl_ow rfl (ow_call2 fn74 rfl rfl rfl rfl (bytesHeader_W hx (fun i hi => Nat.lt_of_lt_of_le (hB i hi) hf0.size) hl) (kret_ret (fun v' w' hO => ?_)))
  refine kl_val (y_assign) rfl rfl rfl ?_
  refine kl_nil ?_
  refine x_seq ?_
  refine k_ret ?_
  exact k_ret1 rfl rfl ⟨_, rfl, hO.own, hf0.trans hO.ext, fun b hb => Nat.le_trans hf0.size (hO.fresh b hb)⟩

set_option maxRecDepth 100000 in
set_option maxHeartbeats 1000000 in
theorem bytesBundle_W {x : Bdl} {cs : List Value} {w : World} {B : Nat → Prop} (hx : BdlR w B cs x) (hB : ∀ b, B b → b < w.heap.size) (hl : (wBdl x).length ≤ 800000000) (hn : x.one.length ≤ 800000000) :
    Ret Try.prog 79 #[.agg cs.toArray, .func (.func 76) #[] #[]] w (fun v w' => Out w w' v (wBdl x)) := by
  refine k_enter2 Try.func79 rfl Try.ntmps79 rfl ?_
  have hlen := hx.length
  have hone := hx.one
  refine k_seq ?_
  refine k_region ?_
  refine kl_ow rfl (ow_boxA rfl rfl (fun w0 b hb hf0 he0 hz0 => ?_))
  replace hx := hx.keep hf0 (fun _ _ h => h)
  refine kl_val (y_assign) rfl rfl rfl ?_
  refine kl_nil ?_
  refine x_seq ?_
  refine k_seq ?_
  refine k_region ?_
  refine kl_val (y_build (cells := #[.slice none 0 0]) rfl (by kernel_rfl)) rfl rfl rfl ?_
  refine kl_ow rfl (ow_box (v := .agg #[.slice none 0 0]) rfl rfl (fun w1 bw hbw hfw hew hzw => ?_))
  have hW := wr_new hbw
  have hEx : Ext w w1 := hf0.trans hfw
  have hpw : w.heap.size ≤ bw := by have := hf0.size; omega
  replace hb := hb.keep hfw (fun h => h)
  have nb : Sep1 w1 ⟨bw, 0, none⟩ (.slice none 0 0) b := sep1_new (by omega) (by omega)
  have hs : Sep w1 ⟨bw, 0, none⟩ (.slice none 0 0) B := sep_new (fun i hi => by have := hB i hi; omega) (by omega)
  have hS := WS.refl ⟨bw, 0, none⟩ w1 (.slice none 0 0)
  replace hx := hx.keep hfw (fun _ _ h => h)
  refine kl_val (y_assign) rfl rfl rfl ?_
  refine kl_nil ?_
  refine x_seq ?_
  refine k_seq ?_
  refine k_region ?_
  refine kl_val (y_move) rfl rfl rfl ?_
  refine kl_val (y_move) rfl rfl rfl ?_
  refine kl_val (y_load rfl (ld_aggB Try.underlying58 rfl I58 S58 hlen hb.cs)) rfl rfl rfl ?_
  refine kl_ow rfl (ow_call2 fn76 rfl rfl rfl rfl (bundle_w hW hx hs (by simpa using hl) hn) (kret_ret (fun _ w' ⟨v', hW', hS'⟩ => ?_)))
  replace hS := hS'
  replace hW := hW'
  refine kl_nil ?_
  refine x_seq ?_
  refine k_seq ?_
  refine k_region ?_
  refine kl_val (y_move) rfl rfl rfl ?_
  refine kl_val (y_nil rfl) rfl rfl rfl ?_
  refine kl_val (y_fieldAddr Try.underlying97 rfl I22 S22 rfl rfl) rfl rfl rfl ?_
  refine kl_val (y_load rfl (ld_one Try.underlying22 rfl hW.cell)) rfl rfl rfl ?_
  refine kl_val (y_assign) rfl rfl rfl ?_
  refine kl_nil ?_
  refine x_seq ?_
  refine k_ret ?_
  refine k_ret1 rfl rfl ⟨_, rfl, out_of hEx hpw hS (by rw [List.nil_append] at hW; exact hW)⟩

set_option maxRecDepth 100000 in
set_option maxHeartbeats 1000000 in
theorem Bundle_W {x : Bdl} {cs : List Value} {w : World} {B : Nat → Prop} (hx : BdlR w B cs x) (hB : ∀ b, B b → b < w.heap.size) (hl : (wBdl x).length ≤ 800000000) (hn : x.one.length ≤ 800000000) :
    Ret Try.prog 26 #[.agg cs.toArray] w (fun v w' => Out w w' v (wBdl x)) := by
  refine k_enter1 Try.func26 rfl Try.ntmps26 rfl ?_
  have hlen := hx.length
  refine k_seq ?_
  refine k_region ?_
  refine kl_ow rfl (ow_boxA rfl rfl (fun w0 b hb hf0 he0 hz0 => ?_))
  replace hx := hx.keep hf0 (fun _ _ h => h)
  refine kl_val (y_assign) rfl rfl rfl ?_
  refine kl_nil ?_
  refine x_seq ?_
  refine k_seq ?_
  refine k_region ?_
  refine kl_val (y_load rfl (ld_aggB Try.underlying58 rfl I58 S58 hlen hb.cs)) rfl rfl rfl ?_
  refine kl_ow rfl (ow_call2 fn79 rfl rfl rfl rfl (bytesBundle_W hx (fun i hi => Nat.lt_of_lt_of_le (hB i hi) hf0.size) hl hn) (kret_ret (fun v' w' hO => ?_)))
  refine kl_val (y_assign) rfl rfl rfl ?_
  refine kl_nil ?_
  refine x_seq ?_
  refine k_ret ?_
  exact k_ret1 rfl rfl ⟨_, rfl, hO.own, hf0.trans hO.ext, fun b hb => Nat.le_trans hf0.size (hO.fresh b hb)⟩

set_option maxRecDepth 100000 in
set_option maxHeartbeats 1000000 in
theorem Users_W {v : Value} {xs : List Usr} {w : World} {B : Nat → Prop} (hx : SlX UsrR 3 w B v xs) (hB : ∀ b, B b → b < w.heap.size) (hl : (wEach wUsr xs).length ≤ 800000000) (hn : xs.length ≤ 800000000) :
    Ret Try.prog 9 #[v] w (fun v w' => Out w w' v (wEach wUsr xs)) := by
  refine k_enter1 Try.func9 rfl Try.ntmps9 rfl ?_
  refine k_seq ?_
  refine k_region ?_
  refine kl_val (y_assign) rfl rfl rfl ?_
  refine kl_nil ?_
  refine x_seq ?_
  refine k_seq ?_
  refine k_region ?_
  refine kl_val (y_build (cells := #[.slice none 0 0]) rfl (by kernel_rfl)) rfl rfl rfl ?_
  refine kl_ow rfl (ow_box (v := .agg #[.slice none 0 0]) rfl rfl (fun w1 bw hbw hfw hew hzw => ?_))
  have hW := wr_new hbw
  have hEx : Ext w w1 := hfw
  have hpw : w.heap.size ≤ bw := by omega
  have hs : Sep w1 ⟨bw, 0, none⟩ (.slice none 0 0) B := sep_new (fun i hi => by have := hB i hi; omega) (by omega)
  have hS := WS.refl ⟨bw, 0, none⟩ w1 (.slice none 0 0)
  replace hx := hx.keep hfw (fun _ _ h => h) (fun _ _ h => h.keep _ _)
  refine kl_val (y_assign) rfl rfl rfl ?_
  refine kl_nil ?_
  refine x_seq ?_
  refine k_seq ?_
  refine k_region ?_
  refine kl_val (y_move) rfl rfl rfl ?_
  refine kl_val (y_move) rfl rfl rfl ?_
  refine kl_ow rfl (ow_call3 fn44 rfl rfl rfl rfl rfl (each_user_w hW hx hs (by simpa using hl) hn) (kret_ret (fun _ w' ⟨v', hW', hS'⟩ => ?_)))
  replace hS := hS'
  replace hW := hW'
  refine kl_nil ?_
  refine x_seq ?_
  refine k_seq ?_
  refine k_region ?_
  refine kl_val (y_move) rfl rfl rfl ?_
  refine kl_val (y_nil rfl) rfl rfl rfl ?_
  refine kl_val (y_fieldAddr Try.underlying97 rfl I22 S22 rfl rfl) rfl rfl rfl ?_
  refine kl_val (y_load rfl (ld_one Try.underlying22 rfl hW.cell)) rfl rfl rfl ?_
  refine kl_val (y_assign) rfl rfl rfl ?_
  refine kl_nil ?_
  refine x_seq ?_
  refine k_ret ?_
  refine k_ret1 rfl rfl ⟨_, rfl, out_of hEx hpw hS (by rw [List.nil_append] at hW; exact hW)⟩

end Go.Proofs.Ythpocekigliomaa.K
