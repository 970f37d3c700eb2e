/- Two envelopes are told apart. No condition. -/
import Derived.Test.YthpocekigliomaaKC
namespace Go.Proofs.Ythpocekigliomaa.K
open Go

set_option maxRecDepth 100000 in
set_option maxHeartbeats 1000000 in
theorem SameEnvelope_c {x y : Env'} {cx cy : List Value} {B : Nat → Prop} {w : World} (hx : EnvR w B cx x) (hy : EnvR w B cy y) :
    Ret Try.prog 14 #[.agg cx.toArray, .agg cy.toArray] w (fun u w' => ∃ b, u = .bool b ∧ (b = true ↔ x = y) ∧ Ext w w') := by
  refine k_enter2 Try.func14 rfl Try.ntmps14 rfl ?_
  obtain ⟨hkx, hcx, vbx, hhx, hsx, rfl⟩ := hx
  obtain ⟨hlx, rfl⟩ := hhx
  obtain ⟨hky, hcy, vby, hhy, hsy, rfl⟩ := hy
  obtain ⟨hly, rfl⟩ := hhy
  refine k_seq ?_
  refine k_region ?_
  refine kl_ow rfl (ow_boxA rfl rfl (fun w1 b1 hb1 hf1 he1 hz1 => ?_))
  refine kl_ow rfl (ow_boxA rfl rfl (fun w2 b2 hb2 hf2 he2 hz2 => ?_))
  replace hb1 := hb1.keep hf2 (fun h => h)
  have hE := hf1.trans hf2
  replace hsx := hsx.keep hE (fun _ _ h => h)
  replace hsy := hsy.keep hE (fun _ _ h => h)
  refine kl_val (y_assign) rfl rfl rfl ?_
  refine kl_nil ?_
  refine x_seq ?_
  refine k_seq ?_
  refine k_region ?_
  refine kl_val (y_fieldAddr Try.underlying38 rfl I3 S3 rfl rfl) rfl rfl rfl ?_
  refine kl_val (y_load rfl (ld_one Try.underlying3 rfl (bx_cell hb1 (pc_take rfl)))) rfl rfl rfl ?_
  refine kl_val (y_fieldAddr Try.underlying38 rfl I3 S3 rfl rfl) rfl rfl rfl ?_
  refine kl_val (y_load rfl (ld_one Try.underlying3 rfl (bx_cell hb2 (pc_take rfl)))) rfl rfl rfl ?_
  by_cases hsrc : x.src = y.src
  · skip
    refine kl_val (yb (b := true) (y_eql rfl rfl) (eqT hsrc)) rfl rfl rfl ?_
    refine kl_val (y_move) rfl rfl rfl ?_
    first | refine kl_skipG rfl rfl rfl rfl rfl rfl ?_ | refine kl_valG (y_fieldAddr Try.underlying38 rfl I3 S3 rfl rfl) rfl rfl rfl rfl rfl ?_
    first | refine kl_skipG rfl rfl rfl rfl rfl rfl ?_ | refine kl_valG (y_load rfl (ld_one Try.underlying3 rfl (bx_cell hb1 (pc_drop (a := 1) (o := 0) rfl (pc_take rfl))))) rfl rfl rfl rfl rfl ?_
    first | refine kl_skipG rfl rfl rfl rfl rfl rfl ?_ | refine kl_valG (y_fieldAddr Try.underlying38 rfl I3 S3 rfl rfl) rfl rfl rfl rfl rfl ?_
    first | refine kl_skipG rfl rfl rfl rfl rfl rfl ?_ | refine kl_valG (y_load rfl (ld_one Try.underlying3 rfl (bx_cell hb2 (pc_drop (a := 1) (o := 0) rfl (pc_take rfl))))) rfl rfl rfl rfl rfl ?_
    by_cases hdevice : x.device = y.device
    · skip
      first | refine kl_skipG rfl rfl rfl rfl rfl rfl ?_ | refine kl_valG (yb (b := true) (y_eql rfl rfl) (eqT hdevice)) rfl rfl rfl rfl rfl ?_
      refine kl_val (by first | exact y_pickT rfl | exact y_pickF rfl) rfl rfl rfl ?_
      refine kl_val (y_move) rfl rfl rfl ?_
      first | refine kl_skipG rfl rfl rfl rfl rfl rfl ?_ | refine kl_valG (y_fieldAddr Try.underlying38 rfl I4 S4 rfl rfl) rfl rfl rfl rfl rfl ?_
      first | refine kl_skipG rfl rfl rfl rfl rfl rfl ?_ | refine kl_valG (y_load rfl (ld_one Try.underlying4 rfl (bx_cell hb1 (pc_drop (a := 1) (o := 1) rfl (pc_drop (a := 1) (o := 0) rfl (pc_take rfl)))))) rfl rfl rfl rfl rfl ?_
      first | refine kl_skipG rfl rfl rfl rfl rfl rfl ?_ | refine kl_valG (y_fieldAddr Try.underlying38 rfl I4 S4 rfl rfl) rfl rfl rfl rfl rfl ?_
      first | refine kl_skipG rfl rfl rfl rfl rfl rfl ?_ | refine kl_valG (y_load rfl (ld_one Try.underlying4 rfl (bx_cell hb2 (pc_drop (a := 1) (o := 1) rfl (pc_drop (a := 1) (o := 0) rfl (pc_take rfl)))))) rfl rfl rfl rfl rfl ?_
      by_cases hfirst : x.first = y.first
      · skip
        first | refine kl_skipG rfl rfl rfl rfl rfl rfl ?_ | refine kl_valG (yb (b := true) (y_beql Try.underlying4 rfl rfl) (beqT hfirst)) rfl rfl rfl rfl rfl ?_
        refine kl_val (by first | exact y_pickT rfl | exact y_pickF rfl) rfl rfl rfl ?_
        refine kl_val (y_move) rfl rfl rfl ?_
        first | refine kl_skipG rfl rfl rfl rfl rfl rfl ?_ | refine kl_valG (y_fieldAddr Try.underlying38 rfl I34 S34 rfl rfl) rfl rfl rfl rfl rfl ?_
        first | refine kl_skipG rfl rfl rfl rfl rfl rfl ?_ | refine kl_valG (y_load rfl (ld_aggB Try.underlying34 rfl I34 S34 (bv32 hkx) (hb1.part 3 32 (pc_drop (a := 1) (o := 2) rfl (pc_drop (a := 1) (o := 1) rfl (pc_drop (a := 1) (o := 0) rfl (pc_take (bv32 hkx)))))))) rfl rfl rfl rfl rfl ?_
        first | refine kl_skipG rfl rfl rfl rfl rfl rfl ?_ | refine kl_valG (y_fieldAddr Try.underlying38 rfl I34 S34 rfl rfl) rfl rfl rfl rfl rfl ?_
        first | refine kl_skipG rfl rfl rfl rfl rfl rfl ?_ | refine kl_valG (y_load rfl (ld_aggB Try.underlying34 rfl I34 S34 (bv32 hky) (hb2.part 3 32 (pc_drop (a := 1) (o := 2) rfl (pc_drop (a := 1) (o := 1) rfl (pc_drop (a := 1) (o := 0) rfl (pc_take (bv32 hky)))))))) rfl rfl rfl rfl rfl ?_
        by_cases heph : x.eph = y.eph
        · skip
          first | refine kl_skipG rfl rfl rfl rfl rfl rfl ?_ | refine kl_valG (yb (b := true) (y_eqlA eg_key rfl rfl (eq_key (d := 9998) hkx hky)) (eqT heph)) rfl rfl rfl rfl rfl ?_
          refine kl_val (by first | exact y_pickT rfl | exact y_pickF rfl) rfl rfl rfl ?_
          refine kl_val (y_move) rfl rfl rfl ?_
          first | refine kl_skipG rfl rfl rfl rfl rfl rfl ?_ | refine kl_valG (y_fieldAddr Try.underlying38 rfl I3 S3 rfl rfl) rfl rfl rfl rfl rfl ?_
          first | refine kl_skipG rfl rfl rfl rfl rfl rfl ?_ | refine kl_valG (y_load rfl (ld_one Try.underlying3 rfl (bx_cell hb1 (pc_drop (a := 1) (o := 34) rfl (pc_drop (a := 1) (o := 33) rfl (pc_drop (a := 1) (o := 32) rfl (pc_drop (a := 32) (o := 0) (bv32 hkx) (pc_take rfl)))))))) rfl rfl rfl rfl rfl ?_
          first | refine kl_skipG rfl rfl rfl rfl rfl rfl ?_ | refine kl_valG (y_fieldAddr Try.underlying38 rfl I3 S3 rfl rfl) rfl rfl rfl rfl rfl ?_
          first | refine kl_skipG rfl rfl rfl rfl rfl rfl ?_ | refine kl_valG (y_load rfl (ld_one Try.underlying3 rfl (bx_cell hb2 (pc_drop (a := 1) (o := 34) rfl (pc_drop (a := 1) (o := 33) rfl (pc_drop (a := 1) (o := 32) rfl (pc_drop (a := 32) (o := 0) (bv32 hky) (pc_take rfl)))))))) rfl rfl rfl rfl rfl ?_
          by_cases hsigned : x.signed = y.signed
          · skip
            first | refine kl_skipG rfl rfl rfl rfl rfl rfl ?_ | refine kl_valG (yb (b := true) (y_eql rfl rfl) (eqT hsigned)) rfl rfl rfl rfl rfl ?_
            refine kl_val (by first | exact y_pickT rfl | exact y_pickF rfl) rfl rfl rfl ?_
            refine kl_val (y_move) rfl rfl rfl ?_
            first | refine kl_skipG rfl rfl rfl rfl rfl rfl ?_ | refine kl_valG (y_fieldAddr Try.underlying38 rfl I3 S3 rfl rfl) rfl rfl rfl rfl rfl ?_
            first | refine kl_skipG rfl rfl rfl rfl rfl rfl ?_ | refine kl_valG (y_load rfl (ld_one Try.underlying3 rfl (bx_cell hb1 (pc_drop (a := 1) (o := 35) rfl (pc_drop (a := 1) (o := 34) rfl (pc_drop (a := 1) (o := 33) rfl (pc_drop (a := 32) (o := 1) (bv32 hkx) (pc_drop (a := 1) (o := 0) rfl (pc_take rfl))))))))) rfl rfl rfl rfl rfl ?_
            first | refine kl_skipG rfl rfl rfl rfl rfl rfl ?_ | refine kl_valG (y_fieldAddr Try.underlying38 rfl I3 S3 rfl rfl) rfl rfl rfl rfl rfl ?_
            first | refine kl_skipG rfl rfl rfl rfl rfl rfl ?_ | refine kl_valG (y_load rfl (ld_one Try.underlying3 rfl (bx_cell hb2 (pc_drop (a := 1) (o := 35) rfl (pc_drop (a := 1) (o := 34) rfl (pc_drop (a := 1) (o := 33) rfl (pc_drop (a := 32) (o := 1) (bv32 hky) (pc_drop (a := 1) (o := 0) rfl (pc_take rfl))))))))) rfl rfl rfl rfl rfl ?_
            by_cases hone : x.one = y.one
            · skip
              first | refine kl_skipG rfl rfl rfl rfl rfl rfl ?_ | refine kl_valG (yb (b := true) (y_eql rfl rfl) (eqT hone)) rfl rfl rfl rfl rfl ?_
              refine kl_val (by first | exact y_pickT rfl | exact y_pickF rfl) rfl rfl rfl ?_
              refine kl_val (y_move) rfl rfl rfl ?_
              first | refine kl_skipG rfl rfl rfl rfl rfl rfl ?_ | refine kl_valG (y_fieldAddr Try.underlying38 rfl I36 S36 rfl rfl) rfl rfl rfl rfl rfl ?_
              first | refine kl_skipG rfl rfl rfl rfl rfl rfl ?_ | refine kl_valG (y_load rfl (ld_aggB Try.underlying36 rfl I36 S36 (hd34 hlx) (hb1.part 37 34 (pc_drop (a := 1) (o := 36) rfl (pc_drop (a := 1) (o := 35) rfl (pc_drop (a := 1) (o := 34) rfl (pc_drop (a := 32) (o := 2) (bv32 hkx) (pc_drop (a := 1) (o := 1) rfl (pc_drop (a := 1) (o := 0) rfl (pc_take (hd34 hlx))))))))))) rfl rfl rfl rfl rfl ?_
              first | refine kl_skipG rfl rfl rfl rfl rfl rfl ?_ | refine kl_valG (y_fieldAddr Try.underlying38 rfl I36 S36 rfl rfl) rfl rfl rfl rfl rfl ?_
              first | refine kl_skipG rfl rfl rfl rfl rfl rfl ?_ | refine kl_valG (y_load rfl (ld_aggB Try.underlying36 rfl I36 S36 (hd34 hly) (hb2.part 37 34 (pc_drop (a := 1) (o := 36) rfl (pc_drop (a := 1) (o := 35) rfl (pc_drop (a := 1) (o := 34) rfl (pc_drop (a := 32) (o := 2) (bv32 hky) (pc_drop (a := 1) (o := 1) rfl (pc_drop (a := 1) (o := 0) rfl (pc_take (hd34 hly))))))))))) rfl rfl rfl rfl rfl ?_
              by_cases hhead : x.head = y.head
              · skip
                first | refine kl_skipG rfl rfl rfl rfl rfl rfl ?_ | refine kl_valG (yb (b := true) (y_eqlA eg_hdr rfl rfl (eq_hdr (d := 9997) hlx hly)) (hdrT hhead)) rfl rfl rfl rfl rfl ?_
                refine kl_val (by first | exact y_pickT rfl | exact y_pickF rfl) rfl rfl rfl ?_
                refine kl_val (y_move) rfl rfl rfl ?_
                first | refine kl_skipG rfl rfl rfl rfl rfl rfl ?_ | refine kl_valG (y_fieldAddr Try.underlying38 rfl I22 S22 rfl rfl) rfl rfl rfl rfl rfl ?_
                first | refine kl_skipG rfl rfl rfl rfl rfl rfl ?_ | refine kl_valG (y_load rfl (ld_one Try.underlying22 rfl (bx_cell hb1 (pc_drop (a := 1) (o := 70) rfl (pc_drop (a := 1) (o := 69) rfl (pc_drop (a := 1) (o := 68) rfl (pc_drop (a := 32) (o := 36) (bv32 hkx) (pc_drop (a := 1) (o := 35) rfl (pc_drop (a := 1) (o := 34) rfl (pc_drop (a := 34) (o := 0) (hd34 hlx) (pc_last rfl))))))))))) rfl rfl rfl rfl rfl ?_
                first | refine kl_skipG rfl rfl rfl rfl rfl rfl ?_ | refine kl_valG (y_b2s Try.underlying22 Try.underlying5 Try.underlying9 rfl hsx) rfl rfl rfl rfl rfl ?_
                first | refine kl_skipG rfl rfl rfl rfl rfl rfl ?_ | refine kl_valG (y_fieldAddr Try.underlying38 rfl I22 S22 rfl rfl) rfl rfl rfl rfl rfl ?_
                first | refine kl_skipG rfl rfl rfl rfl rfl rfl ?_ | refine kl_valG (y_load rfl (ld_one Try.underlying22 rfl (bx_cell hb2 (pc_drop (a := 1) (o := 70) rfl (pc_drop (a := 1) (o := 69) rfl (pc_drop (a := 1) (o := 68) rfl (pc_drop (a := 32) (o := 36) (bv32 hky) (pc_drop (a := 1) (o := 35) rfl (pc_drop (a := 1) (o := 34) rfl (pc_drop (a := 34) (o := 0) (hd34 hly) (pc_last rfl))))))))))) rfl rfl rfl rfl rfl ?_
                first | refine kl_skipG rfl rfl rfl rfl rfl rfl ?_ | refine kl_valG (y_b2s Try.underlying22 Try.underlying5 Try.underlying9 rfl hsy) rfl rfl rfl rfl rfl ?_
                by_cases hbody : x.body = y.body
                · skip
                  first | refine kl_skipG rfl rfl rfl rfl rfl rfl ?_ | refine kl_valG (yb (b := true) (y_seql rfl rfl) (baT hbody)) rfl rfl rfl rfl rfl ?_
                  refine kl_val (by first | exact y_pickT rfl | exact y_pickF rfl) rfl rfl rfl ?_
                  refine kl_val (y_assign) rfl rfl rfl ?_
                  refine kl_nil ?_
                  refine x_seq ?_
                  refine k_ret ?_
                  exact k_ret1 rfl rfl ⟨_, rfl, true, rfl, ⟨fun _ => by cases x; cases y; simp_all, fun _ => rfl⟩, hE⟩
                · skip
                  first | refine kl_skipG rfl rfl rfl rfl rfl rfl ?_ | refine kl_valG (yb (b := false) (y_seql rfl rfl) (baF hbody)) rfl rfl rfl rfl rfl ?_
                  refine kl_val (by first | exact y_pickT rfl | exact y_pickF rfl) rfl rfl rfl ?_
                  refine kl_val (y_assign) rfl rfl rfl ?_
                  refine kl_nil ?_
                  refine x_seq ?_
                  refine k_ret ?_
                  exact k_ret1 rfl rfl ⟨_, rfl, false, rfl, ⟨fun h => absurd h (by decide), fun h => absurd (congrArg _ h) hbody⟩, hE⟩
              · skip
                first | refine kl_skipG rfl rfl rfl rfl rfl rfl ?_ | refine kl_valG (yb (b := false) (y_eqlA eg_hdr rfl rfl (eq_hdr (d := 9997) hlx hly)) (hdrF hhead)) rfl rfl rfl rfl rfl ?_
                refine kl_val (by first | exact y_pickT rfl | exact y_pickF rfl) rfl rfl rfl ?_
                refine kl_val (y_move) rfl rfl rfl ?_
                first | refine kl_skipG rfl rfl rfl rfl rfl rfl ?_ | refine kl_valG (y_fieldAddr Try.underlying38 rfl I22 S22 rfl rfl) rfl rfl rfl rfl rfl ?_
                first | refine kl_skipG rfl rfl rfl rfl rfl rfl ?_ | refine kl_valG (y_load rfl (ld_one Try.underlying22 rfl (bx_cell hb1 (pc_drop (a := 1) (o := 70) rfl (pc_drop (a := 1) (o := 69) rfl (pc_drop (a := 1) (o := 68) rfl (pc_drop (a := 32) (o := 36) (bv32 hkx) (pc_drop (a := 1) (o := 35) rfl (pc_drop (a := 1) (o := 34) rfl (pc_drop (a := 34) (o := 0) (hd34 hlx) (pc_last rfl))))))))))) rfl rfl rfl rfl rfl ?_
                first | refine kl_skipG rfl rfl rfl rfl rfl rfl ?_ | refine kl_valG (y_b2s Try.underlying22 Try.underlying5 Try.underlying9 rfl hsx) rfl rfl rfl rfl rfl ?_
                first | refine kl_skipG rfl rfl rfl rfl rfl rfl ?_ | refine kl_valG (y_fieldAddr Try.underlying38 rfl I22 S22 rfl rfl) rfl rfl rfl rfl rfl ?_
                first | refine kl_skipG rfl rfl rfl rfl rfl rfl ?_ | refine kl_valG (y_load rfl (ld_one Try.underlying22 rfl (bx_cell hb2 (pc_drop (a := 1) (o := 70) rfl (pc_drop (a := 1) (o := 69) rfl (pc_drop (a := 1) (o := 68) rfl (pc_drop (a := 32) (o := 36) (bv32 hky) (pc_drop (a := 1) (o := 35) rfl (pc_drop (a := 1) (o := 34) rfl (pc_drop (a := 34) (o := 0) (hd34 hly) (pc_last rfl))))))))))) rfl rfl rfl rfl rfl ?_
                first | refine kl_skipG rfl rfl rfl rfl rfl rfl ?_ | refine kl_valG (y_b2s Try.underlying22 Try.underlying5 Try.underlying9 rfl hsy) rfl rfl rfl rfl rfl ?_
                first | refine kl_skipG rfl rfl rfl rfl rfl rfl ?_ | refine kl_valG (y_move) rfl rfl rfl rfl rfl ?_
                refine kl_val (by first | exact y_pickT rfl | exact y_pickF rfl) rfl rfl rfl ?_
                refine kl_val (y_assign) rfl rfl rfl ?_
                refine kl_nil ?_
                refine x_seq ?_
                refine k_ret ?_
                exact k_ret1 rfl rfl ⟨_, rfl, false, rfl, ⟨fun h => absurd h (by decide), fun h => absurd (congrArg _ h) hhead⟩, hE⟩
            · skip
              first | refine kl_skipG rfl rfl rfl rfl rfl rfl ?_ | refine kl_valG (yb (b := false) (y_eql rfl rfl) (eqF hone)) rfl rfl rfl rfl rfl ?_
              refine kl_val (by first | exact y_pickT rfl | exact y_pickF rfl) rfl rfl rfl ?_
              refine kl_val (y_move) rfl rfl rfl ?_
              first | refine kl_skipG rfl rfl rfl rfl rfl rfl ?_ | refine kl_valG (y_fieldAddr Try.underlying38 rfl I36 S36 rfl rfl) rfl rfl rfl rfl rfl ?_
              first | refine kl_skipG rfl rfl rfl rfl rfl rfl ?_ | refine kl_valG (y_load rfl (ld_aggB Try.underlying36 rfl I36 S36 (hd34 hlx) (hb1.part 37 34 (pc_drop (a := 1) (o := 36) rfl (pc_drop (a := 1) (o := 35) rfl (pc_drop (a := 1) (o := 34) rfl (pc_drop (a := 32) (o := 2) (bv32 hkx) (pc_drop (a := 1) (o := 1) rfl (pc_drop (a := 1) (o := 0) rfl (pc_take (hd34 hlx))))))))))) rfl rfl rfl rfl rfl ?_
              first | refine kl_skipG rfl rfl rfl rfl rfl rfl ?_ | refine kl_valG (y_fieldAddr Try.underlying38 rfl I36 S36 rfl rfl) rfl rfl rfl rfl rfl ?_
              first | refine kl_skipG rfl rfl rfl rfl rfl rfl ?_ | refine kl_valG (y_load rfl (ld_aggB Try.underlying36 rfl I36 S36 (hd34 hly) (hb2.part 37 34 (pc_drop (a := 1) (o := 36) rfl (pc_drop (a := 1) (o := 35) rfl (pc_drop (a := 1) (o := 34) rfl (pc_drop (a := 32) (o := 2) (bv32 hky) (pc_drop (a := 1) (o := 1) rfl (pc_drop (a := 1) (o := 0) rfl (pc_take (hd34 hly))))))))))) rfl rfl rfl rfl rfl ?_
              first | refine kl_skipG rfl rfl rfl rfl rfl rfl ?_ | refine kl_valG (y_move) rfl rfl rfl rfl rfl ?_
              refine kl_val (by first | exact y_pickT rfl | exact y_pickF rfl) rfl rfl rfl ?_
              refine kl_val (y_move) rfl rfl rfl ?_
              first | refine kl_skipG rfl rfl rfl rfl rfl rfl ?_ | refine kl_valG (y_fieldAddr Try.underlying38 rfl I22 S22 rfl rfl) rfl rfl rfl rfl rfl ?_
              first | refine kl_skipG rfl rfl rfl rfl rfl rfl ?_ | refine kl_valG (y_load rfl (ld_one Try.underlying22 rfl (bx_cell hb1 (pc_drop (a := 1) (o := 70) rfl (pc_drop (a := 1) (o := 69) rfl (pc_drop (a := 1) (o := 68) rfl (pc_drop (a := 32) (o := 36) (bv32 hkx) (pc_drop (a := 1) (o := 35) rfl (pc_drop (a := 1) (o := 34) rfl (pc_drop (a := 34) (o := 0) (hd34 hlx) (pc_last rfl))))))))))) rfl rfl rfl rfl rfl ?_
              first | refine kl_skipG rfl rfl rfl rfl rfl rfl ?_ | refine kl_valG (y_b2s Try.underlying22 Try.underlying5 Try.underlying9 rfl hsx) rfl rfl rfl rfl rfl ?_
              first | refine kl_skipG rfl rfl rfl rfl rfl rfl ?_ | refine kl_valG (y_fieldAddr Try.underlying38 rfl I22 S22 rfl rfl) rfl rfl rfl rfl rfl ?_
              first | refine kl_skipG rfl rfl rfl rfl rfl rfl ?_ | refine kl_valG (y_load rfl (ld_one Try.underlying22 rfl (bx_cell hb2 (pc_drop (a := 1) (o := 70) rfl (pc_drop (a := 1) (o := 69) rfl (pc_drop (a := 1) (o := 68) rfl (pc_drop (a := 32) (o := 36) (bv32 hky) (pc_drop (a := 1) (o := 35) rfl (pc_drop (a := 1) (o := 34) rfl (pc_drop (a := 34) (o := 0) (hd34 hly) (pc_last rfl))))))))))) rfl rfl rfl rfl rfl ?_
              first | refine kl_skipG rfl rfl rfl rfl rfl rfl ?_ | refine kl_valG (y_b2s Try.underlying22 Try.underlying5 Try.underlying9 rfl hsy) rfl rfl rfl rfl rfl ?_
              first | refine kl_skipG rfl rfl rfl rfl rfl rfl ?_ | refine kl_valG (y_move) rfl rfl rfl rfl rfl ?_
              refine kl_val (by first | exact y_pickT rfl | exact y_pickF rfl) rfl rfl rfl ?_
              refine kl_val (y_assign) rfl rfl rfl ?_
              refine kl_nil ?_
              refine x_seq ?_
              refine k_ret ?_
              exact k_ret1 rfl rfl ⟨_, rfl, false, rfl, ⟨fun h => absurd h (by decide), fun h => absurd (congrArg _ h) hone⟩, hE⟩
          · skip
            first | refine kl_skipG rfl rfl rfl rfl rfl rfl ?_ | refine kl_valG (yb (b := false) (y_eql rfl rfl) (eqF hsigned)) rfl rfl rfl rfl rfl ?_
            refine kl_val (by first | exact y_pickT rfl | exact y_pickF rfl) rfl rfl rfl ?_
            refine kl_val (y_move) rfl rfl rfl ?_
            first | refine kl_skipG rfl rfl rfl rfl rfl rfl ?_ | refine kl_valG (y_fieldAddr Try.underlying38 rfl I3 S3 rfl rfl) rfl rfl rfl rfl rfl ?_
            first | refine kl_skipG rfl rfl rfl rfl rfl rfl ?_ | refine kl_valG (y_load rfl (ld_one Try.underlying3 rfl (bx_cell hb1 (pc_drop (a := 1) (o := 35) rfl (pc_drop (a := 1) (o := 34) rfl (pc_drop (a := 1) (o := 33) rfl (pc_drop (a := 32) (o := 1) (bv32 hkx) (pc_drop (a := 1) (o := 0) rfl (pc_take rfl))))))))) rfl rfl rfl rfl rfl ?_
            first | refine kl_skipG rfl rfl rfl rfl rfl rfl ?_ | refine kl_valG (y_fieldAddr Try.underlying38 rfl I3 S3 rfl rfl) rfl rfl rfl rfl rfl ?_
            first | refine kl_skipG rfl rfl rfl rfl rfl rfl ?_ | refine kl_valG (y_load rfl (ld_one Try.underlying3 rfl (bx_cell hb2 (pc_drop (a := 1) (o := 35) rfl (pc_drop (a := 1) (o := 34) rfl (pc_drop (a := 1) (o := 33) rfl (pc_drop (a := 32) (o := 1) (bv32 hky) (pc_drop (a := 1) (o := 0) rfl (pc_take rfl))))))))) rfl rfl rfl rfl rfl ?_
            first | refine kl_skipG rfl rfl rfl rfl rfl rfl ?_ | refine kl_valG (y_move) rfl rfl rfl rfl rfl ?_
            refine kl_val (by first | exact y_pickT rfl | exact y_pickF rfl) rfl rfl rfl ?_
            refine kl_val (y_move) rfl rfl rfl ?_
            first | refine kl_skipG rfl rfl rfl rfl rfl rfl ?_ | refine kl_valG (y_fieldAddr Try.underlying38 rfl I36 S36 rfl rfl) rfl rfl rfl rfl rfl ?_
            first | refine kl_skipG rfl rfl rfl rfl rfl rfl ?_ | refine kl_valG (y_load rfl (ld_aggB Try.underlying36 rfl I36 S36 (hd34 hlx) (hb1.part 37 34 (pc_drop (a := 1) (o := 36) rfl (pc_drop (a := 1) (o := 35) rfl (pc_drop (a := 1) (o := 34) rfl (pc_drop (a := 32) (o := 2) (bv32 hkx) (pc_drop (a := 1) (o := 1) rfl (pc_drop (a := 1) (o := 0) rfl (pc_take (hd34 hlx))))))))))) rfl rfl rfl rfl rfl ?_
            first | refine kl_skipG rfl rfl rfl rfl rfl rfl ?_ | refine kl_valG (y_fieldAddr Try.underlying38 rfl I36 S36 rfl rfl) rfl rfl rfl rfl rfl ?_
            first | refine kl_skipG rfl rfl rfl rfl rfl rfl ?_ | refine kl_valG (y_load rfl (ld_aggB Try.underlying36 rfl I36 S36 (hd34 hly) (hb2.part 37 34 (pc_drop (a := 1) (o := 36) rfl (pc_drop (a := 1) (o := 35) rfl (pc_drop (a := 1) (o := 34) rfl (pc_drop (a := 32) (o := 2) (bv32 hky) (pc_drop (a := 1) (o := 1) rfl (pc_drop (a := 1) (o := 0) rfl (pc_take (hd34 hly))))))))))) rfl rfl rfl rfl rfl ?_
            first | refine kl_skipG rfl rfl rfl rfl rfl rfl ?_ | refine kl_valG (y_move) rfl rfl rfl rfl rfl ?_
            refine kl_val (by first | exact y_pickT rfl | exact y_pickF rfl) rfl rfl rfl ?_
            refine kl_val (y_move) rfl rfl rfl ?_
            first | refine kl_skipG rfl rfl rfl rfl rfl rfl ?_ | refine kl_valG (y_fieldAddr Try.underlying38 rfl I22 S22 rfl rfl) rfl rfl rfl rfl rfl ?_
            first | refine kl_skipG rfl rfl rfl rfl rfl rfl ?_ | refine kl_valG (y_load rfl (ld_one Try.underlying22 rfl (bx_cell hb1 (pc_drop (a := 1) (o := 70) rfl (pc_drop (a := 1) (o := 69) rfl (pc_drop (a := 1) (o := 68) rfl (pc_drop (a := 32) (o := 36) (bv32 hkx) (pc_drop (a := 1) (o := 35) rfl (pc_drop (a := 1) (o := 34) rfl (pc_drop (a := 34) (o := 0) (hd34 hlx) (pc_last rfl))))))))))) rfl rfl rfl rfl rfl ?_
            first | refine kl_skipG rfl rfl rfl rfl rfl rfl ?_ | refine kl_valG (y_b2s Try.underlying22 Try.underlying5 Try.underlying9 rfl hsx) rfl rfl rfl rfl rfl ?_
            first | refine kl_skipG rfl rfl rfl rfl rfl rfl ?_ | refine kl_valG (y_fieldAddr Try.underlying38 rfl I22 S22 rfl rfl) rfl rfl rfl rfl rfl ?_
            first | refine kl_skipG rfl rfl rfl rfl rfl rfl ?_ | refine kl_valG (y_load rfl (ld_one Try.underlying22 rfl (bx_cell hb2 (pc_drop (a := 1) (o := 70) rfl (pc_drop (a := 1) (o := 69) rfl (pc_drop (a := 1) (o := 68) rfl (pc_drop (a := 32) (o := 36) (bv32 hky) (pc_drop (a := 1) (o := 35) rfl (pc_drop (a := 1) (o := 34) rfl (pc_drop (a := 34) (o := 0) (hd34 hly) (pc_last rfl))))))))))) rfl rfl rfl rfl rfl ?_
            first | refine kl_skipG rfl rfl rfl rfl rfl rfl ?_ | refine kl_valG (y_b2s Try.underlying22 Try.underlying5 Try.underlying9 rfl hsy) rfl rfl rfl rfl rfl ?_
            first | refine kl_skipG rfl rfl rfl rfl rfl rfl ?_ | refine kl_valG (y_move) rfl rfl rfl rfl rfl ?_
            refine kl_val (by first | exact y_pickT rfl | exact y_pickF rfl) rfl rfl rfl ?_
            refine kl_val (y_assign) rfl rfl rfl ?_
            refine kl_nil ?_
            refine x_seq ?_
            refine k_ret ?_
            exact k_ret1 rfl rfl ⟨_, rfl, false, rfl, ⟨fun h => absurd h (by decide), fun h => absurd (congrArg _ h) hsigned⟩, hE⟩
        · skip
          first | refine kl_skipG rfl rfl rfl rfl rfl rfl ?_ | refine kl_valG (yb (b := false) (y_eqlA eg_key rfl rfl (eq_key (d := 9998) hkx hky)) (eqF heph)) rfl rfl rfl rfl rfl ?_
          refine kl_val (by first | exact y_pickT rfl | exact y_pickF rfl) rfl rfl rfl ?_
          refine kl_val (y_move) rfl rfl rfl ?_
          first | refine kl_skipG rfl rfl rfl rfl rfl rfl ?_ | refine kl_valG (y_fieldAddr Try.underlying38 rfl I3 S3 rfl rfl) rfl rfl rfl rfl rfl ?_
          first | refine kl_skipG rfl rfl rfl rfl rfl rfl ?_ | refine kl_valG (y_load rfl (ld_one Try.underlying3 rfl (bx_cell hb1 (pc_drop (a := 1) (o := 34) rfl (pc_drop (a := 1) (o := 33) rfl (pc_drop (a := 1) (o := 32) rfl (pc_drop (a := 32) (o := 0) (bv32 hkx) (pc_take rfl)))))))) rfl rfl rfl rfl rfl ?_
          first | refine kl_skipG rfl rfl rfl rfl rfl rfl ?_ | refine kl_valG (y_fieldAddr Try.underlying38 rfl I3 S3 rfl rfl) rfl rfl rfl rfl rfl ?_
          first | refine kl_skipG rfl rfl rfl rfl rfl rfl ?_ | refine kl_valG (y_load rfl (ld_one Try.underlying3 rfl (bx_cell hb2 (pc_drop (a := 1) (o := 34) rfl (pc_drop (a := 1) (o := 33) rfl (pc_drop (a := 1) (o := 32) rfl (pc_drop (a := 32) (o := 0) (bv32 hky) (pc_take rfl)))))))) rfl rfl rfl rfl rfl ?_
          first | refine kl_skipG rfl rfl rfl rfl rfl rfl ?_ | refine kl_valG (y_move) rfl rfl rfl rfl rfl ?_
          refine kl_val (by first | exact y_pickT rfl | exact y_pickF rfl) rfl rfl rfl ?_
          refine kl_val (y_move) rfl rfl rfl ?_
          first | refine kl_skipG rfl rfl rfl rfl rfl rfl ?_ | refine kl_valG (y_fieldAddr Try.underlying38 rfl I3 S3 rfl rfl) rfl rfl rfl rfl rfl ?_
          first | refine kl_skipG rfl rfl rfl rfl rfl rfl ?_ | refine kl_valG (y_load rfl (ld_one Try.underlying3 rfl (bx_cell hb1 (pc_drop (a := 1) (o := 35) rfl (pc_drop (a := 1) (o := 34) rfl (pc_drop (a := 1) (o := 33) rfl (pc_drop (a := 32) (o := 1) (bv32 hkx) (pc_drop (a := 1) (o := 0) rfl (pc_take rfl))))))))) rfl rfl rfl rfl rfl ?_
          first | refine kl_skipG rfl rfl rfl rfl rfl rfl ?_ | refine kl_valG (y_fieldAddr Try.underlying38 rfl I3 S3 rfl rfl) rfl rfl rfl rfl rfl ?_
          first | refine kl_skipG rfl rfl rfl rfl rfl rfl ?_ | refine kl_valG (y_load rfl (ld_one Try.underlying3 rfl (bx_cell hb2 (pc_drop (a := 1) (o := 35) rfl (pc_drop (a := 1) (o := 34) rfl (pc_drop (a := 1) (o := 33) rfl (pc_drop (a := 32) (o := 1) (bv32 hky) (pc_drop (a := 1) (o := 0) rfl (pc_take rfl))))))))) rfl rfl rfl rfl rfl ?_
          first | refine kl_skipG rfl rfl rfl rfl rfl rfl ?_ | refine kl_valG (y_move) rfl rfl rfl rfl rfl ?_
          refine kl_val (by first | exact y_pickT rfl | exact y_pickF rfl) rfl rfl rfl ?_
          refine kl_val (y_move) rfl rfl rfl ?_
          first | refine kl_skipG rfl rfl rfl rfl rfl rfl ?_ | refine kl_valG (y_fieldAddr Try.underlying38 rfl I36 S36 rfl rfl) rfl rfl rfl rfl rfl ?_
          first | refine kl_skipG rfl rfl rfl rfl rfl rfl ?_ | refine kl_valG (y_load rfl (ld_aggB Try.underlying36 rfl I36 S36 (hd34 hlx) (hb1.part 37 34 (pc_drop (a := 1) (o := 36) rfl (pc_drop (a := 1) (o := 35) rfl (pc_drop (a := 1) (o := 34) rfl (pc_drop (a := 32) (o := 2) (bv32 hkx) (pc_drop (a := 1) (o := 1) rfl (pc_drop (a := 1) (o := 0) rfl (pc_take (hd34 hlx))))))))))) rfl rfl rfl rfl rfl ?_
          first | refine kl_skipG rfl rfl rfl rfl rfl rfl ?_ | refine kl_valG (y_fieldAddr Try.underlying38 rfl I36 S36 rfl rfl) rfl rfl rfl rfl rfl ?_
          first | refine kl_skipG rfl rfl rfl rfl rfl rfl ?_ | refine kl_valG (y_load rfl (ld_aggB Try.underlying36 rfl I36 S36 (hd34 hly) (hb2.part 37 34 (pc_drop (a := 1) (o := 36) rfl (pc_drop (a := 1) (o := 35) rfl (pc_drop (a := 1) (o := 34) rfl (pc_drop (a := 32) (o := 2) (bv32 hky) (pc_drop (a := 1) (o := 1) rfl (pc_drop (a := 1) (o := 0) rfl (pc_take (hd34 hly))))))))))) rfl rfl rfl rfl rfl ?_
          first | refine kl_skipG rfl rfl rfl rfl rfl rfl ?_ | refine kl_valG (y_move) rfl rfl rfl rfl rfl ?_
          refine kl_val (by first | exact y_pickT rfl | exact y_pickF rfl) rfl rfl rfl ?_
          refine kl_val (y_move) rfl rfl rfl ?_
          first | refine kl_skipG rfl rfl rfl rfl rfl rfl ?_ | refine kl_valG (y_fieldAddr Try.underlying38 rfl I22 S22 rfl rfl) rfl rfl rfl rfl rfl ?_
          first | refine kl_skipG rfl rfl rfl rfl rfl rfl ?_ | refine kl_valG (y_load rfl (ld_one Try.underlying22 rfl (bx_cell hb1 (pc_drop (a := 1) (o := 70) rfl (pc_drop (a := 1) (o := 69) rfl (pc_drop (a := 1) (o := 68) rfl (pc_drop (a := 32) (o := 36) (bv32 hkx) (pc_drop (a := 1) (o := 35) rfl (pc_drop (a := 1) (o := 34) rfl (pc_drop (a := 34) (o := 0) (hd34 hlx) (pc_last rfl))))))))))) rfl rfl rfl rfl rfl ?_
          first | refine kl_skipG rfl rfl rfl rfl rfl rfl ?_ | refine kl_valG (y_b2s Try.underlying22 Try.underlying5 Try.underlying9 rfl hsx) rfl rfl rfl rfl rfl ?_
          first | refine kl_skipG rfl rfl rfl rfl rfl rfl ?_ | refine kl_valG (y_fieldAddr Try.underlying38 rfl I22 S22 rfl rfl) rfl rfl rfl rfl rfl ?_
          first | refine kl_skipG rfl rfl rfl rfl rfl rfl ?_ | refine kl_valG (y_load rfl (ld_one Try.underlying22 rfl (bx_cell hb2 (pc_drop (a := 1) (o := 70) rfl (pc_drop (a := 1) (o := 69) rfl (pc_drop (a := 1) (o := 68) rfl (pc_drop (a := 32) (o := 36) (bv32 hky) (pc_drop (a := 1) (o := 35) rfl (pc_drop (a := 1) (o := 34) rfl (pc_drop (a := 34) (o := 0) (hd34 hly) (pc_last rfl))))))))))) rfl rfl rfl rfl rfl ?_
          first | refine kl_skipG rfl rfl rfl rfl rfl rfl ?_ | refine kl_valG (y_b2s Try.underlying22 Try.underlying5 Try.underlying9 rfl hsy) rfl rfl rfl rfl rfl ?_
          first | refine kl_skipG rfl rfl rfl rfl rfl rfl ?_ | refine kl_valG (y_move) rfl rfl rfl rfl rfl ?_
          refine kl_val (by first | exact y_pickT rfl | exact y_pickF rfl) rfl rfl rfl ?_
          refine kl_val (y_assign) rfl rfl rfl ?_
          refine kl_nil ?_
          refine x_seq ?_
          refine k_ret ?_
          exact k_ret1 rfl rfl ⟨_, rfl, false, rfl, ⟨fun h => absurd h (by decide), fun h => absurd (congrArg _ h) heph⟩, hE⟩
      · skip
        first | refine kl_skipG rfl rfl rfl rfl rfl rfl ?_ | refine kl_valG (yb (b := false) (y_beql Try.underlying4 rfl rfl) (beqF hfirst)) rfl rfl rfl rfl rfl ?_
        refine kl_val (by first | exact y_pickT rfl | exact y_pickF rfl) rfl rfl rfl ?_
        refine kl_val (y_move) rfl rfl rfl ?_
        first | refine kl_skipG rfl rfl rfl rfl rfl rfl ?_ | refine kl_valG (y_fieldAddr Try.underlying38 rfl I34 S34 rfl rfl) rfl rfl rfl rfl rfl ?_
        first | refine kl_skipG rfl rfl rfl rfl rfl rfl ?_ | refine kl_valG (y_load rfl (ld_aggB Try.underlying34 rfl I34 S34 (bv32 hkx) (hb1.part 3 32 (pc_drop (a := 1) (o := 2) rfl (pc_drop (a := 1) (o := 1) rfl (pc_drop (a := 1) (o := 0) rfl (pc_take (bv32 hkx)))))))) rfl rfl rfl rfl rfl ?_
        first | refine kl_skipG rfl rfl rfl rfl rfl rfl ?_ | refine kl_valG (y_fieldAddr Try.underlying38 rfl I34 S34 rfl rfl) rfl rfl rfl rfl rfl ?_
        first | refine kl_skipG rfl rfl rfl rfl rfl rfl ?_ | refine kl_valG (y_load rfl (ld_aggB Try.underlying34 rfl I34 S34 (bv32 hky) (hb2.part 3 32 (pc_drop (a := 1) (o := 2) rfl (pc_drop (a := 1) (o := 1) rfl (pc_drop (a := 1) (o := 0) rfl (pc_take (bv32 hky)))))))) rfl rfl rfl rfl rfl ?_
        first | refine kl_skipG rfl rfl rfl rfl rfl rfl ?_ | refine kl_valG (y_move) rfl rfl rfl rfl rfl ?_
        refine kl_val (by first | exact y_pickT rfl | exact y_pickF rfl) rfl rfl rfl ?_
        refine kl_val (y_move) rfl rfl rfl ?_
        first | refine kl_skipG rfl rfl rfl rfl rfl rfl ?_ | refine kl_valG (y_fieldAddr Try.underlying38 rfl I3 S3 rfl rfl) rfl rfl rfl rfl rfl ?_
        first | refine kl_skipG rfl rfl rfl rfl rfl rfl ?_ | refine kl_valG (y_load rfl (ld_one Try.underlying3 rfl (bx_cell hb1 (pc_drop (a := 1) (o := 34) rfl (pc_drop (a := 1) (o := 33) rfl (pc_drop (a := 1) (o := 32) rfl (pc_drop (a := 32) (o := 0) (bv32 hkx) (pc_take rfl)))))))) rfl rfl rfl rfl rfl ?_
        first | refine kl_skipG rfl rfl rfl rfl rfl rfl ?_ | refine kl_valG (y_fieldAddr Try.underlying38 rfl I3 S3 rfl rfl) rfl rfl rfl rfl rfl ?_
        first | refine kl_skipG rfl rfl rfl rfl rfl rfl ?_ | refine kl_valG (y_load rfl (ld_one Try.underlying3 rfl (bx_cell hb2 (pc_drop (a := 1) (o := 34) rfl (pc_drop (a := 1) (o := 33) rfl (pc_drop (a := 1) (o := 32) rfl (pc_drop (a := 32) (o := 0) (bv32 hky) (pc_take rfl)))))))) rfl rfl rfl rfl rfl ?_
        first | refine kl_skipG rfl rfl rfl rfl rfl rfl ?_ | refine kl_valG (y_move) rfl rfl rfl rfl rfl ?_
        refine kl_val (by first | exact y_pickT rfl | exact y_pickF rfl) rfl rfl rfl ?_
        refine kl_val (y_move) rfl rfl rfl ?_
        first | refine kl_skipG rfl rfl rfl rfl rfl rfl ?_ | refine kl_valG (y_fieldAddr Try.underlying38 rfl I3 S3 rfl rfl) rfl rfl rfl rfl rfl ?_
        first | refine kl_skipG rfl rfl rfl rfl rfl rfl ?_ | refine kl_valG (y_load rfl (ld_one Try.underlying3 rfl (bx_cell hb1 (pc_drop (a := 1) (o := 35) rfl (pc_drop (a := 1) (o := 34) rfl (pc_drop (a := 1) (o := 33) rfl (pc_drop (a := 32) (o := 1) (bv32 hkx) (pc_drop (a := 1) (o := 0) rfl (pc_take rfl))))))))) rfl rfl rfl rfl rfl ?_
        first | refine kl_skipG rfl rfl rfl rfl rfl rfl ?_ | refine kl_valG (y_fieldAddr Try.underlying38 rfl I3 S3 rfl rfl) rfl rfl rfl rfl rfl ?_
        first | refine kl_skipG rfl rfl rfl rfl rfl rfl ?_ | refine kl_valG (y_load rfl (ld_one Try.underlying3 rfl (bx_cell hb2 (pc_drop (a := 1) (o := 35) rfl (pc_drop (a := 1) (o := 34) rfl (pc_drop (a := 1) (o := 33) rfl (pc_drop (a := 32) (o := 1) (bv32 hky) (pc_drop (a := 1) (o := 0) rfl (pc_take rfl))))))))) rfl rfl rfl rfl rfl ?_
        first | refine kl_skipG rfl rfl rfl rfl rfl rfl ?_ | refine kl_valG (y_move) rfl rfl rfl rfl rfl ?_
        refine kl_val (by first | exact y_pickT rfl | exact y_pickF rfl) rfl rfl rfl ?_
        refine kl_val (y_move) rfl rfl rfl ?_
        first | refine kl_skipG rfl rfl rfl rfl rfl rfl ?_ | refine kl_valG (y_fieldAddr Try.underlying38 rfl I36 S36 rfl rfl) rfl rfl rfl rfl rfl ?_
        first | refine kl_skipG rfl rfl rfl rfl rfl rfl ?_ | refine kl_valG (y_load rfl (ld_aggB Try.underlying36 rfl I36 S36 (hd34 hlx) (hb1.part 37 34 (pc_drop (a := 1) (o := 36) rfl (pc_drop (a := 1) (o := 35) rfl (pc_drop (a := 1) (o := 34) rfl (pc_drop (a := 32) (o := 2) (bv32 hkx) (pc_drop (a := 1) (o := 1) rfl (pc_drop (a := 1) (o := 0) rfl (pc_take (hd34 hlx))))))))))) rfl rfl rfl rfl rfl ?_
        first | refine kl_skipG rfl rfl rfl rfl rfl rfl ?_ | refine kl_valG (y_fieldAddr Try.underlying38 rfl I36 S36 rfl rfl) rfl rfl rfl rfl rfl ?_
        first | refine kl_skipG rfl rfl rfl rfl rfl rfl ?_ | refine kl_valG (y_load rfl (ld_aggB Try.underlying36 rfl I36 S36 (hd34 hly) (hb2.part 37 34 (pc_drop (a := 1) (o := 36) rfl (pc_drop (a := 1) (o := 35) rfl (pc_drop (a := 1) (o := 34) rfl (pc_drop (a := 32) (o := 2) (bv32 hky) (pc_drop (a := 1) (o := 1) rfl (pc_drop (a := 1) (o := 0) rfl (pc_take (hd34 hly))))))))))) rfl rfl rfl rfl rfl ?_
        first | refine kl_skipG rfl rfl rfl rfl rfl rfl ?_ | refine kl_valG (y_move) rfl rfl rfl rfl rfl ?_
        refine kl_val (by first | exact y_pickT rfl | exact y_pickF rfl) rfl rfl rfl ?_
        refine kl_val (y_move) rfl rfl rfl ?_
        first | refine kl_skipG rfl rfl rfl rfl rfl rfl ?_ | refine kl_valG (y_fieldAddr Try.underlying38 rfl I22 S22 rfl rfl) rfl rfl rfl rfl rfl ?_
        first | refine kl_skipG rfl rfl rfl rfl rfl rfl ?_ | refine kl_valG (y_load rfl (ld_one Try.underlying22 rfl (bx_cell hb1 (pc_drop (a := 1) (o := 70) rfl (pc_drop (a := 1) (o := 69) rfl (pc_drop (a := 1) (o := 68) rfl (pc_drop (a := 32) (o := 36) (bv32 hkx) (pc_drop (a := 1) (o := 35) rfl (pc_drop (a := 1) (o := 34) rfl (pc_drop (a := 34) (o := 0) (hd34 hlx) (pc_last rfl))))))))))) rfl rfl rfl rfl rfl ?_
        first | refine kl_skipG rfl rfl rfl rfl rfl rfl ?_ | refine kl_valG (y_b2s Try.underlying22 Try.underlying5 Try.underlying9 rfl hsx) rfl rfl rfl rfl rfl ?_
        first | refine kl_skipG rfl rfl rfl rfl rfl rfl ?_ | refine kl_valG (y_fieldAddr Try.underlying38 rfl I22 S22 rfl rfl) rfl rfl rfl rfl rfl ?_
        first | refine kl_skipG rfl rfl rfl rfl rfl rfl ?_ | refine kl_valG (y_load rfl (ld_one Try.underlying22 rfl (bx_cell hb2 (pc_drop (a := 1) (o := 70) rfl (pc_drop (a := 1) (o := 69) rfl (pc_drop (a := 1) (o := 68) rfl (pc_drop (a := 32) (o := 36) (bv32 hky) (pc_drop (a := 1) (o := 35) rfl (pc_drop (a := 1) (o := 34) rfl (pc_drop (a := 34) (o := 0) (hd34 hly) (pc_last rfl))))))))))) rfl rfl rfl rfl rfl ?_
        first | refine kl_skipG rfl rfl rfl rfl rfl rfl ?_ | refine kl_valG (y_b2s Try.underlying22 Try.underlying5 Try.underlying9 rfl hsy) rfl rfl rfl rfl rfl ?_
        first | refine kl_skipG rfl rfl rfl rfl rfl rfl ?_ | refine kl_valG (y_move) rfl rfl rfl rfl rfl ?_
        refine kl_val (by first | exact y_pickT rfl | exact y_pickF rfl) rfl rfl rfl ?_
        refine kl_val (y_assign) rfl rfl rfl ?_
        refine kl_nil ?_
        refine x_seq ?_
        refine k_ret ?_
        exact k_ret1 rfl rfl ⟨_, rfl, false, rfl, ⟨fun h => absurd h (by decide), fun h => absurd (congrArg _ h) hfirst⟩, hE⟩
    · skip
      first | refine kl_skipG rfl rfl rfl rfl rfl rfl ?_ | refine kl_valG (yb (b := false) (y_eql rfl rfl) (eqF hdevice)) rfl rfl rfl rfl rfl ?_
      refine kl_val (by first | exact y_pickT rfl | exact y_pickF rfl) rfl rfl rfl ?_
      refine kl_val (y_move) rfl rfl rfl ?_
      first | refine kl_skipG rfl rfl rfl rfl rfl rfl ?_ | refine kl_valG (y_fieldAddr Try.underlying38 rfl I4 S4 rfl rfl) rfl rfl rfl rfl rfl ?_
      first | refine kl_skipG rfl rfl rfl rfl rfl rfl ?_ | refine kl_valG (y_load rfl (ld_one Try.underlying4 rfl (bx_cell hb1 (pc_drop (a := 1) (o := 1) rfl (pc_drop (a := 1) (o := 0) rfl (pc_take rfl)))))) rfl rfl rfl rfl rfl ?_
      first | refine kl_skipG rfl rfl rfl rfl rfl rfl ?_ | refine kl_valG (y_fieldAddr Try.underlying38 rfl I4 S4 rfl rfl) rfl rfl rfl rfl rfl ?_
      first | refine kl_skipG rfl rfl rfl rfl rfl rfl ?_ | refine kl_valG (y_load rfl (ld_one Try.underlying4 rfl (bx_cell hb2 (pc_drop (a := 1) (o := 1) rfl (pc_drop (a := 1) (o := 0) rfl (pc_take rfl)))))) rfl rfl rfl rfl rfl ?_
      first | refine kl_skipG rfl rfl rfl rfl rfl rfl ?_ | refine kl_valG (y_move) rfl rfl rfl rfl rfl ?_
      refine kl_val (by first | exact y_pickT rfl | exact y_pickF rfl) rfl rfl rfl ?_
      refine kl_val (y_move) rfl rfl rfl ?_
      first | refine kl_skipG rfl rfl rfl rfl rfl rfl ?_ | refine kl_valG (y_fieldAddr Try.underlying38 rfl I34 S34 rfl rfl) rfl rfl rfl rfl rfl ?_
      first | refine kl_skipG rfl rfl rfl rfl rfl rfl ?_ | refine kl_valG (y_load rfl (ld_aggB Try.underlying34 rfl I34 S34 (bv32 hkx) (hb1.part 3 32 (pc_drop (a := 1) (o := 2) rfl (pc_drop (a := 1) (o := 1) rfl (pc_drop (a := 1) (o := 0) rfl (pc_take (bv32 hkx)))))))) rfl rfl rfl rfl rfl ?_
      first | refine kl_skipG rfl rfl rfl rfl rfl rfl ?_ | refine kl_valG (y_fieldAddr Try.underlying38 rfl I34 S34 rfl rfl) rfl rfl rfl rfl rfl ?_
      first | refine kl_skipG rfl rfl rfl rfl rfl rfl ?_ | refine kl_valG (y_load rfl (ld_aggB Try.underlying34 rfl I34 S34 (bv32 hky) (hb2.part 3 32 (pc_drop (a := 1) (o := 2) rfl (pc_drop (a := 1) (o := 1) rfl (pc_drop (a := 1) (o := 0) rfl (pc_take (bv32 hky)))))))) rfl rfl rfl rfl rfl ?_
      first | refine kl_skipG rfl rfl rfl rfl rfl rfl ?_ | refine kl_valG (y_move) rfl rfl rfl rfl rfl ?_
      refine kl_val (by first | exact y_pickT rfl | exact y_pickF rfl) rfl rfl rfl ?_
      refine kl_val (y_move) rfl rfl rfl ?_
      first | refine kl_skipG rfl rfl rfl rfl rfl rfl ?_ | refine kl_valG (y_fieldAddr Try.underlying38 rfl I3 S3 rfl rfl) rfl rfl rfl rfl rfl ?_
      first | refine kl_skipG rfl rfl rfl rfl rfl rfl ?_ | refine kl_valG (y_load rfl (ld_one Try.underlying3 rfl (bx_cell hb1 (pc_drop (a := 1) (o := 34) rfl (pc_drop (a := 1) (o := 33) rfl (pc_drop (a := 1) (o := 32) rfl (pc_drop (a := 32) (o := 0) (bv32 hkx) (pc_take rfl)))))))) rfl rfl rfl rfl rfl ?_
      first | refine kl_skipG rfl rfl rfl rfl rfl rfl ?_ | refine kl_valG (y_fieldAddr Try.underlying38 rfl I3 S3 rfl rfl) rfl rfl rfl rfl rfl ?_
      first | refine kl_skipG rfl rfl rfl rfl rfl rfl ?_ | refine kl_valG (y_load rfl (ld_one Try.underlying3 rfl (bx_cell hb2 (pc_drop (a := 1) (o := 34) rfl (pc_drop (a := 1) (o := 33) rfl (pc_drop (a := 1) (o := 32) rfl (pc_drop (a := 32) (o := 0) (bv32 hky) (pc_take rfl)))))))) rfl rfl rfl rfl rfl ?_
      first | refine kl_skipG rfl rfl rfl rfl rfl rfl ?_ | refine kl_valG (y_move) rfl rfl rfl rfl rfl ?_
      refine kl_val (by first | exact y_pickT rfl | exact y_pickF rfl) rfl rfl rfl ?_
      refine kl_val (y_move) rfl rfl rfl ?_
      first | refine kl_skipG rfl rfl rfl rfl rfl rfl ?_ | refine kl_valG (y_fieldAddr Try.underlying38 rfl I3 S3 rfl rfl) rfl rfl rfl rfl rfl ?_
      first | refine kl_skipG rfl rfl rfl rfl rfl rfl ?_ | refine kl_valG (y_load rfl (ld_one Try.underlying3 rfl (bx_cell hb1 (pc_drop (a := 1) (o := 35) rfl (pc_drop (a := 1) (o := 34) rfl (pc_drop (a := 1) (o := 33) rfl (pc_drop (a := 32) (o := 1) (bv32 hkx) (pc_drop (a := 1) (o := 0) rfl (pc_take rfl))))))))) rfl rfl rfl rfl rfl ?_
      first | refine kl_skipG rfl rfl rfl rfl rfl rfl ?_ | refine kl_valG (y_fieldAddr Try.underlying38 rfl I3 S3 rfl rfl) rfl rfl rfl rfl rfl ?_
      first | refine kl_skipG rfl rfl rfl rfl rfl rfl ?_ | refine kl_valG (y_load rfl (ld_one Try.underlying3 rfl (bx_cell hb2 (pc_drop (a := 1) (o := 35) rfl (pc_drop (a := 1) (o := 34) rfl (pc_drop (a := 1) (o := 33) rfl (pc_drop (a := 32) (o := 1) (bv32 hky) (pc_drop (a := 1) (o := 0) rfl (pc_take rfl))))))))) rfl rfl rfl rfl rfl ?_
      first | refine kl_skipG rfl rfl rfl rfl rfl rfl ?_ | refine kl_valG (y_move) rfl rfl rfl rfl rfl ?_
      refine kl_val (by first | exact y_pickT rfl | exact y_pickF rfl) rfl rfl rfl ?_
      refine kl_val (y_move) rfl rfl rfl ?_
      first | refine kl_skipG rfl rfl rfl rfl rfl rfl ?_ | refine kl_valG (y_fieldAddr Try.underlying38 rfl I36 S36 rfl rfl) rfl rfl rfl rfl rfl ?_
      first | refine kl_skipG rfl rfl rfl rfl rfl rfl ?_ | refine kl_valG (y_load rfl (ld_aggB Try.underlying36 rfl I36 S36 (hd34 hlx) (hb1.part 37 34 (pc_drop (a := 1) (o := 36) rfl (pc_drop (a := 1) (o := 35) rfl (pc_drop (a := 1) (o := 34) rfl (pc_drop (a := 32) (o := 2) (bv32 hkx) (pc_drop (a := 1) (o := 1) rfl (pc_drop (a := 1) (o := 0) rfl (pc_take (hd34 hlx))))))))))) rfl rfl rfl rfl rfl ?_
      first | refine kl_skipG rfl rfl rfl rfl rfl rfl ?_ | refine kl_valG (y_fieldAddr Try.underlying38 rfl I36 S36 rfl rfl) rfl rfl rfl rfl rfl ?_
      first | refine kl_skipG rfl rfl rfl rfl rfl rfl ?_ | refine kl_valG (y_load rfl (ld_aggB Try.underlying36 rfl I36 S36 (hd34 hly) (hb2.part 37 34 (pc_drop (a := 1) (o := 36) rfl (pc_drop (a := 1) (o := 35) rfl (pc_drop (a := 1) (o := 34) rfl (pc_drop (a := 32) (o := 2) (bv32 hky) (pc_drop (a := 1) (o := 1) rfl (pc_drop (a := 1) (o := 0) rfl (pc_take (hd34 hly))))))))))) rfl rfl rfl rfl rfl ?_
      first | refine kl_skipG rfl rfl rfl rfl rfl rfl ?_ | refine kl_valG (y_move) rfl rfl rfl rfl rfl ?_
      refine kl_val (by first | exact y_pickT rfl | exact y_pickF rfl) rfl rfl rfl ?_
      refine kl_val (y_move) rfl rfl rfl ?_
      first | refine kl_skipG rfl rfl rfl rfl rfl rfl ?_ | refine kl_valG (y_fieldAddr Try.underlying38 rfl I22 S22 rfl rfl) rfl rfl rfl rfl rfl ?_
      first | refine kl_skipG rfl rfl rfl rfl rfl rfl ?_ | refine kl_valG (y_load rfl (ld_one Try.underlying22 rfl (bx_cell hb1 (pc_drop (a := 1) (o := 70) rfl (pc_drop (a := 1) (o := 69) rfl (pc_drop (a := 1) (o := 68) rfl (pc_drop (a := 32) (o := 36) (bv32 hkx) (pc_drop (a := 1) (o := 35) rfl (pc_drop (a := 1) (o := 34) rfl (pc_drop (a := 34) (o := 0) (hd34 hlx) (pc_last rfl))))))))))) rfl rfl rfl rfl rfl ?_
      first | refine kl_skipG rfl rfl rfl rfl rfl rfl ?_ | refine kl_valG (y_b2s Try.underlying22 Try.underlying5 Try.underlying9 rfl hsx) rfl rfl rfl rfl rfl ?_
      first | refine kl_skipG rfl rfl rfl rfl rfl rfl ?_ | refine kl_valG (y_fieldAddr Try.underlying38 rfl I22 S22 rfl rfl) rfl rfl rfl rfl rfl ?_
      first | refine kl_skipG rfl rfl rfl rfl rfl rfl ?_ | refine kl_valG (y_load rfl (ld_one Try.underlying22 rfl (bx_cell hb2 (pc_drop (a := 1) (o := 70) rfl (pc_drop (a := 1) (o := 69) rfl (pc_drop (a := 1) (o := 68) rfl (pc_drop (a := 32) (o := 36) (bv32 hky) (pc_drop (a := 1) (o := 35) rfl (pc_drop (a := 1) (o := 34) rfl (pc_drop (a := 34) (o := 0) (hd34 hly) (pc_last rfl))))))))))) rfl rfl rfl rfl rfl ?_
      first | refine kl_skipG rfl rfl rfl rfl rfl rfl ?_ | refine kl_valG (y_b2s Try.underlying22 Try.underlying5 Try.underlying9 rfl hsy) rfl rfl rfl rfl rfl ?_
      first | refine kl_skipG rfl rfl rfl rfl rfl rfl ?_ | refine kl_valG (y_move) rfl rfl rfl rfl rfl ?_
      refine kl_val (by first | exact y_pickT rfl | exact y_pickF rfl) rfl rfl rfl ?_
      refine kl_val (y_assign) rfl rfl rfl ?_
      refine kl_nil ?_
      refine x_seq ?_
      refine k_ret ?_
      exact k_ret1 rfl rfl ⟨_, rfl, false, rfl, ⟨fun h => absurd h (by decide), fun h => absurd (congrArg _ h) hdevice⟩, hE⟩
  · skip
    refine kl_val (yb (b := false) (y_eql rfl rfl) (eqF hsrc)) rfl rfl rfl ?_
    refine kl_val (y_move) rfl rfl rfl ?_
    first | refine kl_skipG rfl rfl rfl rfl rfl rfl ?_ | refine kl_valG (y_fieldAddr Try.underlying38 rfl I3 S3 rfl rfl) rfl rfl rfl rfl rfl ?_
    first | refine kl_skipG rfl rfl rfl rfl rfl rfl ?_ | refine kl_valG (y_load rfl (ld_one Try.underlying3 rfl (bx_cell hb1 (pc_drop (a := 1) (o := 0) rfl (pc_take rfl))))) rfl rfl rfl rfl rfl ?_
    first | refine kl_skipG rfl rfl rfl rfl rfl rfl ?_ | refine kl_valG (y_fieldAddr Try.underlying38 rfl I3 S3 rfl rfl) rfl rfl rfl rfl rfl ?_
    first | refine kl_skipG rfl rfl rfl rfl rfl rfl ?_ | refine kl_valG (y_load rfl (ld_one Try.underlying3 rfl (bx_cell hb2 (pc_drop (a := 1) (o := 0) rfl (pc_take rfl))))) rfl rfl rfl rfl rfl ?_
    first | refine kl_skipG rfl rfl rfl rfl rfl rfl ?_ | refine kl_valG (y_move) rfl rfl rfl rfl rfl ?_
    refine kl_val (by first | exact y_pickT rfl | exact y_pickF rfl) rfl rfl rfl ?_
    refine kl_val (y_move) rfl rfl rfl ?_
    first | refine kl_skipG rfl rfl rfl rfl rfl rfl ?_ | refine kl_valG (y_fieldAddr Try.underlying38 rfl I4 S4 rfl rfl) rfl rfl rfl rfl rfl ?_
    first | refine kl_skipG rfl rfl rfl rfl rfl rfl ?_ | refine kl_valG (y_load rfl (ld_one Try.underlying4 rfl (bx_cell hb1 (pc_drop (a := 1) (o := 1) rfl (pc_drop (a := 1) (o := 0) rfl (pc_take rfl)))))) rfl rfl rfl rfl rfl ?_
    first | refine kl_skipG rfl rfl rfl rfl rfl rfl ?_ | refine kl_valG (y_fieldAddr Try.underlying38 rfl I4 S4 rfl rfl) rfl rfl rfl rfl rfl ?_
    first | refine kl_skipG rfl rfl rfl rfl rfl rfl ?_ | refine kl_valG (y_load rfl (ld_one Try.underlying4 rfl (bx_cell hb2 (pc_drop (a := 1) (o := 1) rfl (pc_drop (a := 1) (o := 0) rfl (pc_take rfl)))))) rfl rfl rfl rfl rfl ?_
    first | refine kl_skipG rfl rfl rfl rfl rfl rfl ?_ | refine kl_valG (y_move) rfl rfl rfl rfl rfl ?_
    refine kl_val (by first | exact y_pickT rfl | exact y_pickF rfl) rfl rfl rfl ?_
    refine kl_val (y_move) rfl rfl rfl ?_
    first | refine kl_skipG rfl rfl rfl rfl rfl rfl ?_ | refine kl_valG (y_fieldAddr Try.underlying38 rfl I34 S34 rfl rfl) rfl rfl rfl rfl rfl ?_
    first | refine kl_skipG rfl rfl rfl rfl rfl rfl ?_ | refine kl_valG (y_load rfl (ld_aggB Try.underlying34 rfl I34 S34 (bv32 hkx) (hb1.part 3 32 (pc_drop (a := 1) (o := 2) rfl (pc_drop (a := 1) (o := 1) rfl (pc_drop (a := 1) (o := 0) rfl (pc_take (bv32 hkx)))))))) rfl rfl rfl rfl rfl ?_
    first | refine kl_skipG rfl rfl rfl rfl rfl rfl ?_ | refine kl_valG (y_fieldAddr Try.underlying38 rfl I34 S34 rfl rfl) rfl rfl rfl rfl rfl ?_
    first | refine kl_skipG rfl rfl rfl rfl rfl rfl ?_ | refine kl_valG (y_load rfl (ld_aggB Try.underlying34 rfl I34 S34 (bv32 hky) (hb2.part 3 32 (pc_drop (a := 1) (o := 2) rfl (pc_drop (a := 1) (o := 1) rfl (pc_drop (a := 1) (o := 0) rfl (pc_take (bv32 hky)))))))) rfl rfl rfl rfl rfl ?_
    first | refine kl_skipG rfl rfl rfl rfl rfl rfl ?_ | refine kl_valG (y_move) rfl rfl rfl rfl rfl ?_
    refine kl_val (by first | exact y_pickT rfl | exact y_pickF rfl) rfl rfl rfl ?_
    refine kl_val (y_move) rfl rfl rfl ?_
    first | refine kl_skipG rfl rfl rfl rfl rfl rfl ?_ | refine kl_valG (y_fieldAddr Try.underlying38 rfl I3 S3 rfl rfl) rfl rfl rfl rfl rfl ?_
    first | refine kl_skipG rfl rfl rfl rfl rfl rfl ?_ | refine kl_valG (y_load rfl (ld_one Try.underlying3 rfl (bx_cell hb1 (pc_drop (a := 1) (o := 34) rfl (pc_drop (a := 1) (o := 33) rfl (pc_drop (a := 1) (o := 32) rfl (pc_drop (a := 32) (o := 0) (bv32 hkx) (pc_take rfl)))))))) rfl rfl rfl rfl rfl ?_
    first | refine kl_skipG rfl rfl rfl rfl rfl rfl ?_ | refine kl_valG (y_fieldAddr Try.underlying38 rfl I3 S3 rfl rfl) rfl rfl rfl rfl rfl ?_
    first | refine kl_skipG rfl rfl rfl rfl rfl rfl ?_ | refine kl_valG (y_load rfl (ld_one Try.underlying3 rfl (bx_cell hb2 (pc_drop (a := 1) (o := 34) rfl (pc_drop (a := 1) (o := 33) rfl (pc_drop (a := 1) (o := 32) rfl (pc_drop (a := 32) (o := 0) (bv32 hky) (pc_take rfl)))))))) rfl rfl rfl rfl rfl ?_
    first | refine kl_skipG rfl rfl rfl rfl rfl rfl ?_ | refine kl_valG (y_move) rfl rfl rfl rfl rfl ?_
    refine kl_val (by first | exact y_pickT rfl | exact y_pickF rfl) rfl rfl rfl ?_
    refine kl_val (y_move) rfl rfl rfl ?_
    first | refine kl_skipG rfl rfl rfl rfl rfl rfl ?_ | refine kl_valG (y_fieldAddr Try.underlying38 rfl I3 S3 rfl rfl) rfl rfl rfl rfl rfl ?_
    first | refine kl_skipG rfl rfl rfl rfl rfl rfl ?_ | refine kl_valG (y_load rfl (ld_one Try.underlying3 rfl (bx_cell hb1 (pc_drop (a := 1) (o := 35) rfl (pc_drop (a := 1) (o := 34) rfl (pc_drop (a := 1) (o := 33) rfl (pc_drop (a := 32) (o := 1) (bv32 hkx) (pc_drop (a := 1) (o := 0) rfl (pc_take rfl))))))))) rfl rfl rfl rfl rfl ?_
    first | refine kl_skipG rfl rfl rfl rfl rfl rfl ?_ | refine kl_valG (y_fieldAddr Try.underlying38 rfl I3 S3 rfl rfl) rfl rfl rfl rfl rfl ?_
    first | refine kl_skipG rfl rfl rfl rfl rfl rfl ?_ | refine kl_valG (y_load rfl (ld_one Try.underlying3 rfl (bx_cell hb2 (pc_drop (a := 1) (o := 35) rfl (pc_drop (a := 1) (o := 34) rfl (pc_drop (a := 1) (o := 33) rfl (pc_drop (a := 32) (o := 1) (bv32 hky) (pc_drop (a := 1) (o := 0) rfl (pc_take rfl))))))))) rfl rfl rfl rfl rfl ?_
    first | refine kl_skipG rfl rfl rfl rfl rfl rfl ?_ | refine kl_valG (y_move) rfl rfl rfl rfl rfl ?_
    refine kl_val (by first | exact y_pickT rfl | exact y_pickF rfl) rfl rfl rfl ?_
    refine kl_val (y_move) rfl rfl rfl ?_
    first | refine kl_skipG rfl rfl rfl rfl rfl rfl ?_ | refine kl_valG (y_fieldAddr Try.underlying38 rfl I36 S36 rfl rfl) rfl rfl rfl rfl rfl ?_
    first | refine kl_skipG rfl rfl rfl rfl rfl rfl ?_ | refine kl_valG (y_load rfl (ld_aggB Try.underlying36 rfl I36 S36 (hd34 hlx) (hb1.part 37 34 (pc_drop (a := 1) (o := 36) rfl (pc_drop (a := 1) (o := 35) rfl (pc_drop (a := 1) (o := 34) rfl (pc_drop (a := 32) (o := 2) (bv32 hkx) (pc_drop (a := 1) (o := 1) rfl (pc_drop (a := 1) (o := 0) rfl (pc_take (hd34 hlx))))))))))) rfl rfl rfl rfl rfl ?_
    first | refine kl_skipG rfl rfl rfl rfl rfl rfl ?_ | refine kl_valG (y_fieldAddr Try.underlying38 rfl I36 S36 rfl rfl) rfl rfl rfl rfl rfl ?_
    first | refine kl_skipG rfl rfl rfl rfl rfl rfl ?_ | refine kl_valG (y_load rfl (ld_aggB Try.underlying36 rfl I36 S36 (hd34 hly) (hb2.part 37 34 (pc_drop (a := 1) (o := 36) rfl (pc_drop (a := 1) (o := 35) rfl (pc_drop (a := 1) (o := 34) rfl (pc_drop (a := 32) (o := 2) (bv32 hky) (pc_drop (a := 1) (o := 1) rfl (pc_drop (a := 1) (o := 0) rfl (pc_take (hd34 hly))))))))))) rfl rfl rfl rfl rfl ?_
    first | refine kl_skipG rfl rfl rfl rfl rfl rfl ?_ | refine kl_valG (y_move) rfl rfl rfl rfl rfl ?_
    refine kl_val (by first | exact y_pickT rfl | exact y_pickF rfl) rfl rfl rfl ?_
    refine kl_val (y_move) rfl rfl rfl ?_
    first | refine kl_skipG rfl rfl rfl rfl rfl rfl ?_ | refine kl_valG (y_fieldAddr Try.underlying38 rfl I22 S22 rfl rfl) rfl rfl rfl rfl rfl ?_
    first | refine kl_skipG rfl rfl rfl rfl rfl rfl ?_ | refine kl_valG (y_load rfl (ld_one Try.underlying22 rfl (bx_cell hb1 (pc_drop (a := 1) (o := 70) rfl (pc_drop (a := 1) (o := 69) rfl (pc_drop (a := 1) (o := 68) rfl (pc_drop (a := 32) (o := 36) (bv32 hkx) (pc_drop (a := 1) (o := 35) rfl (pc_drop (a := 1) (o := 34) rfl (pc_drop (a := 34) (o := 0) (hd34 hlx) (pc_last rfl))))))))))) rfl rfl rfl rfl rfl ?_
    first | refine kl_skipG rfl rfl rfl rfl rfl rfl ?_ | refine kl_valG (y_b2s Try.underlying22 Try.underlying5 Try.underlying9 rfl hsx) rfl rfl rfl rfl rfl ?_
    first | refine kl_skipG rfl rfl rfl rfl rfl rfl ?_ | refine kl_valG (y_fieldAddr Try.underlying38 rfl I22 S22 rfl rfl) rfl rfl rfl rfl rfl ?_
    first | refine kl_skipG rfl rfl rfl rfl rfl rfl ?_ | refine kl_valG (y_load rfl (ld_one Try.underlying22 rfl (bx_cell hb2 (pc_drop (a := 1) (o := 70) rfl (pc_drop (a := 1) (o := 69) rfl (pc_drop (a := 1) (o := 68) rfl (pc_drop (a := 32) (o := 36) (bv32 hky) (pc_drop (a := 1) (o := 35) rfl (pc_drop (a := 1) (o := 34) rfl (pc_drop (a := 34) (o := 0) (hd34 hly) (pc_last rfl))))))))))) rfl rfl rfl rfl rfl ?_
    first | refine kl_skipG rfl rfl rfl rfl rfl rfl ?_ | refine kl_valG (y_b2s Try.underlying22 Try.underlying5 Try.underlying9 rfl hsy) rfl rfl rfl rfl rfl ?_
    first | refine kl_skipG rfl rfl rfl rfl rfl rfl ?_ | refine kl_valG (y_move) rfl rfl rfl rfl rfl ?_
    refine kl_val (by first | exact y_pickT rfl | exact y_pickF rfl) rfl rfl rfl ?_
    refine kl_val (y_assign) rfl rfl rfl ?_
    refine kl_nil ?_
    refine x_seq ?_
    refine k_ret ?_
    exact k_ret1 rfl rfl ⟨_, rfl, false, rfl, ⟨fun h => absurd h (by decide), fun h => absurd (congrArg _ h) hsrc⟩, hE⟩

end Go.Proofs.Ythpocekigliomaa.K
