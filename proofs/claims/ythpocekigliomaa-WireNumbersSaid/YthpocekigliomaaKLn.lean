/- WireNumbers answers true. Condition: its number fits its kind. -/
import Derived.Test.YthpocekigliomaaKLa
namespace Go.Proofs.Ythpocekigliomaa.K
open Go

set_option maxRecDepth 100000 in
set_option maxHeartbeats 1000000 in
theorem WireNumbers_R {x : Int} {k : Nat} {w : World} :
    Ret Try.prog 3 #[.int .i64 x, .int .u8 (k : Int)] w (fun u w' => u = .bool true ∧ Ext w w') := by
  refine k_enter2 Try.func3 rfl Try.ntmps3 rfl ?_
  obtain ⟨v0, hv0⟩ : ∃ v0, v0 = x.tmod 1099511627777 := ⟨_, rfl⟩
  have hvb := tmod_bound x
  rw [← hv0] at hvb
  refine k_seq ?_
  refine k_region ?_
  refine kl_val (y_assign) rfl rfl rfl ?_
  refine kl_nil ?_
  refine x_seq ?_
  refine k_seq ?_
  refine k_region ?_
  refine kl_val (y_move) rfl rfl rfl ?_
  refine kl_val (Y.cast (v' := .int .i64 v0) (y_rem rfl rfl (by decide)) (congrArg (Value.int .i64) hv0.symm)) rfl rfl rfl ?_
  refine kl_val (y_assign) rfl rfl rfl ?_
  refine kl_nil ?_
  refine x_seq ?_
  refine k_seq ?_
  refine k_seq ?_
  refine k_region ?_
  refine kl_val (y_move) rfl rfl rfl ?_
  refine kl_val (y_lss rfl rfl) rfl rfl rfl ?_
  refine kl_nil ?_
  refine x_seq ?_
  refine k_condp rfl (fun hneg => ?_) (fun hneg => ?_)
  · skip
    obtain ⟨q, hq, hq1⟩ := shr_le (a := 0 - v0) (min ((k : Int) % 41).toNat IntKind.i64.bits) (by omega) (by omega)
    refine k_region ?_
    refine kl_val (y_move) rfl rfl rfl ?_
    refine kl_val (Y.cast (v' := .int .i64 (0 - v0)) (y_neg rfl) (congrArg (Value.int .i64) (wrap64_eq (by omega) (by omega)))) rfl rfl rfl ?_
    refine kl_val (y_assign) rfl rfl rfl ?_
    refine kl_nil ?_
    refine x_seq ?_
    refine k_seq ?_
    refine k_region ?_
    refine kl_val (y_move) rfl rfl rfl ?_
    refine kl_val (y_move) rfl rfl rfl ?_
    refine kl_val (y_rem' rfl rfl (by decide) (by omega)) rfl rfl rfl ?_
    refine kl_val (Y.cast (v' := .int .i64 (q : Int)) (y_shr rfl rfl (by omega)) (congrArg (Value.int .i64) hq.symm)) rfl rfl rfl ?_
    refine kl_val (y_assign) rfl rfl rfl ?_
    refine kl_nil ?_
    refine x_seq ?_
    refine k_seq ?_
    refine k_region ?_
    refine kl_val (y_move) rfl rfl rfl ?_
    refine kl_val (y_build (cells := #[.string (numUsr q).name, .int .i64 (numUsr q).account, .bool (numUsr q).sure]) rfl (by kernel_rfl)) rfl rfl rfl ?_
    refine kl_ow rfl (ow_slice1 Try.underlying26 I25 Z25 S25 rfl rfl (v := .agg #[.string (numUsr q).name, .int .i64 (numUsr q).account, .bool (numUsr q).sure]) rfl (by decide) (by decide) rfl (fun w1 b1 hb1 hf1 he1 hz1 => ?_))
    have hx : SlX UsrR 3 w1 (fun i => i = b1) (.slice (some ⟨b1, 0, none⟩) 1 1) [(numUsr q)] := slx_one hb1.cs rfl rfl ⟨rfl⟩
    refine kl_ow rfl (ow_call1 fn9 rfl rfl rfl (Users_W hx (fun i hi => by omega) (by have := usr1_len (hokN q); omega) (by show 1 ≤ _; omega)) (kret_ret (fun v w2 hO => ?_)))
    have hs2 := hO.ext.size
    have hsl : SlR w2 (ownB v) v 1 _ (bvs (wEach wUsr [numUsr q])) := SlR.ofOwn hO.own (fun _ h => h)
    refine kl_val (y_assign) rfl rfl rfl ?_
    refine kl_nil ?_
    refine x_seq ?_
    refine k_seq ?_
    refine k_region ?_
    refine kl_val (y_move) rfl rfl rfl ?_
    refine kl_ow rfl (ow_call1 fn10 rfl rfl rfl (ReadUsers_R hsl (fun i hi => own_lt hO.own hi)) (kret_ret (fun u w3 ⟨hE3, hW⟩ => ?_)))
    obtain ⟨us, rfl, hus⟩ := hW.ok (numRead hq1)
    obtain ⟨ua, ucap, cs, rfl, hcl, ⟨hce⟩, hcs⟩ := hus.get (i := 0) rfl
    subst hce
    obtain ⟨va, vc, rfl⟩ := hsl.form
    refine kl_val (y_move) rfl rfl rfl ?_
    refine kl_val (y_extract rfl rfl) rfl rfl rfl ?_
    refine kl_val (y_extract rfl rfl) rfl rfl rfl ?_
    refine kl_val (y_assign) rfl rfl rfl ?_
    refine kl_val (y_assign) rfl rfl rfl ?_
    refine kl_nil ?_
    refine x_seq ?_
    refine k_seq ?_
    refine k_region ?_
    refine kl_val (y_assign) rfl rfl rfl ?_
    refine kl_nil ?_
    refine x_seq ?_
    refine k_seq ?_
    refine k_seq ?_
    refine k_region ?_
    refine kl_val (y_move) rfl rfl rfl ?_
    refine kl_val (y_assign) rfl rfl rfl ?_
    refine kl_nil ?_
    refine x_seq ?_
    refine k_block ?_
    refine k_loop (fun m ρ w' => ∃ (i r : Nat), ρ 5 = .int .i64 (q : Int) ∧ ρ 6 = .slice va (wEach wUsr [numUsr q]).length vc ∧ ρ 7 = .slice (some ua) 1 ucap ∧ ρ 8 = .int .u16 0 ∧ ρ 9 = .int .i64 (i : Int) ∧ ρ 10 = .int .i64 (r : Int) ∧ r = m ∧ r ≤ 1099511627776 ∧ i ≤ 7 ∧ i + (num r).length = (num q).length + 1 ∧ w' = w3) q ⟨1, q, rfl, rfl, rfl, rfl, rfl, rfl, rfl, hq1, by omega, by omega, rfl⟩ ?_
    rintro m ρ w' ⟨i, r, e5, e6, e7, e8, e9, e10, rfl, hr, hi7, hnum, rfl⟩
    obtain ⟨σ, rfl⟩ : ∃ σ, ρ = (upd (upd (upd (upd (upd (upd σ 5 (.int .i64 (q : Int))) 6 (.slice va (wEach wUsr [numUsr q]).length vc)) 7 (.slice (some ua) 1 ucap)) 8 (.int .u16 0)) 9 (.int .i64 (i : Int))) 10 (.int .i64 (r : Int))) := ⟨ρ, by rw [upd_self ρ e5, upd_self ρ e6, upd_self ρ e7, upd_self ρ e8, upd_self ρ e9, upd_self ρ e10]⟩
    clear e5 e6 e7 e8 e9 e10
    have hq6 := numI_length (q : Int)
    have hqn : numI (q : Int) = num q := by unfold numI clamp; congr 1; omega
    rw [hqn] at hq6
    refine k_seq ?_
    refine k_seq ?_
    refine k_region ?_
    refine kl_val (y_move) rfl rfl rfl ?_
    refine kl_val (y_gtr rfl rfl) rfl rfl rfl ?_
    refine kl_nil ?_
    refine x_seq ?_
    refine k_condp rfl (fun hlt => ?_) (fun hlt => ?_)
    · skip
      refine k_skip ?_
      refine x_seq ?_
      refine k_seq ?_
      refine k_block ?_
      refine k_region ?_
      refine kl_val (y_move) rfl rfl rfl ?_
      refine kl_val (Y.cast (v' := .int .i64 ((i + 1 : Nat) : Int)) (y_add64 rfl rfl (by omega)) (congrArg (Value.int .i64) (by omega))) rfl rfl rfl ?_
      refine kl_val (y_assign) rfl rfl rfl ?_
      refine kl_nil ?_
      refine x_blk ?_
      refine x_seq ?_
      refine k_region ?_
      refine kl_val (y_move) rfl rfl rfl ?_
      refine kl_val (Y.cast (v' := .int .i64 ((r / 128 : Nat) : Int)) (y_quo rfl rfl (by decide)) (congrArg (Value.int .i64) (quo128 hr))) rfl rfl rfl ?_
      refine kl_val (y_assign) rfl rfl rfl ?_
      refine kl_nil ?_
      refine x_lpN (r / 128) (by omega) ⟨i + 1, r / 128, rfl, rfl, rfl, rfl, rfl, rfl, rfl, by omega, ?_, ?_, rfl⟩
      · rw [num_ge (by omega), List.length_cons] at hnum; have : 0 < (num (r / 128)).length := num_pos _; omega
      · rw [num_ge (by omega), List.length_cons] at hnum; omega
    · skip
      rw [num_lt (by omega)] at hnum
      simp only [List.length_singleton] at hnum
      refine k_exit ?_
      refine x_seqX ?_
      refine x_lpX ?_
      refine x_blkX ?_
      refine x_seq ?_
      refine k_seq ?_
      refine k_region ?_
      refine kl_ow rfl (ow_call0 fn11 rfl rfl (known_R) (kret_ret (fun u w4 ⟨hu, hE4⟩ => ?_)))
      subst hu
      replace hcs := hcs.keep hE4 (fun h => h)
      have hE := ((hf1.trans hO.ext).trans hE3).trans hE4
      have hnl := numLen hq1
      refine kl_val (y_move) rfl rfl rfl ?_
      first | refine kl_skipG rfl rfl rfl rfl rfl rfl ?_ | refine kl_valG (y_move) rfl rfl rfl rfl rfl ?_
      first | refine kl_skipG rfl rfl rfl rfl rfl rfl ?_ | refine kl_valG (yb (b := true) (y_eql rfl rfl) rfl) rfl rfl rfl rfl rfl ?_
      refine kl_val (by first | exact y_pickT rfl | exact y_pickF rfl) rfl rfl rfl ?_
      refine kl_val (y_move) rfl rfl rfl ?_
      first | refine kl_skipG rfl rfl rfl rfl rfl rfl ?_ | refine kl_valG (y_move) rfl rfl rfl rfl rfl ?_
      first | refine kl_skipG rfl rfl rfl rfl rfl rfl ?_ | refine kl_valG (y_lenS Try.underlying26 rfl) rfl rfl rfl rfl rfl ?_
      first | refine kl_skipG rfl rfl rfl rfl rfl rfl ?_ | refine kl_valG (yb (b := true) (y_eql rfl rfl) rfl) rfl rfl rfl rfl rfl ?_
      refine kl_val (by first | exact y_pickT rfl | exact y_pickF rfl) rfl rfl rfl ?_
      refine kl_val (y_move) rfl rfl rfl ?_
      first | refine kl_skipG rfl rfl rfl rfl rfl rfl ?_ | refine kl_valG (y_move) rfl rfl rfl rfl rfl ?_
      first | refine kl_skipG rfl rfl rfl rfl rfl rfl ?_ | refine kl_valG (y_indexAddr Try.underlying26 I25 S25 rfl rfl (by decide) (by decide)) rfl rfl rfl rfl rfl ?_
      first | refine kl_skipG rfl rfl rfl rfl rfl rfl ?_ | refine kl_valG (y_fieldAddr Try.underlying25 rfl I3 S3 rfl rfl) rfl rfl rfl rfl rfl ?_
      first | refine kl_skipG rfl rfl rfl rfl rfl rfl ?_ | refine kl_valG (y_load rfl (ld_one Try.underlying3 rfl (hcs.at (i := 1) rfl))) rfl rfl rfl rfl rfl ?_
      first | refine kl_skipG rfl rfl rfl rfl rfl rfl ?_ | refine kl_valG (y_move) rfl rfl rfl rfl rfl ?_
      first | refine kl_skipG rfl rfl rfl rfl rfl rfl ?_ | refine kl_valG (yb (b := true) (y_eql rfl rfl) (decide_eq_true rfl)) rfl rfl rfl rfl rfl ?_
      refine kl_val (by first | exact y_pickT rfl | exact y_pickF rfl) rfl rfl rfl ?_
      refine kl_val (y_move) rfl rfl rfl ?_
      first | refine kl_skipG rfl rfl rfl rfl rfl rfl ?_ | refine kl_valG (y_move) rfl rfl rfl rfl rfl ?_
      first | refine kl_skipG rfl rfl rfl rfl rfl rfl ?_ | refine kl_valG (y_lenS Try.underlying22 rfl) rfl rfl rfl rfl rfl ?_
      first | refine kl_skipG rfl rfl rfl rfl rfl rfl ?_ | refine kl_valG (y_move) rfl rfl rfl rfl rfl ?_
      first | refine kl_skipG rfl rfl rfl rfl rfl rfl ?_ | refine kl_valG (y_add64 rfl rfl (by omega)) rfl rfl rfl rfl rfl ?_
      first | refine kl_skipG rfl rfl rfl rfl rfl rfl ?_ | refine kl_valG (yb (b := true) (y_eql rfl rfl) (decide_eq_true (by omega))) rfl rfl rfl rfl rfl ?_
      refine kl_val (by first | exact y_pickT rfl | exact y_pickF rfl) rfl rfl rfl ?_
      refine kl_val (y_assign) rfl rfl rfl ?_
      refine kl_nil ?_
      refine x_seq ?_
      refine k_ret ?_
      exact k_ret1 rfl rfl ⟨_, rfl, rfl, hE⟩
  · skip
    obtain ⟨q, hq, hq1⟩ := shr_le (a := v0) (min ((k : Int) % 41).toNat IntKind.i64.bits) (by omega) (by omega)
    refine k_skip ?_
    refine x_seq ?_
    refine k_seq ?_
    refine k_region ?_
    refine kl_val (y_move) rfl rfl rfl ?_
    refine kl_val (y_move) rfl rfl rfl ?_
    refine kl_val (y_rem' rfl rfl (by decide) (by omega)) rfl rfl rfl ?_
    refine kl_val (Y.cast (v' := .int .i64 (q : Int)) (y_shr rfl rfl (by omega)) (congrArg (Value.int .i64) hq.symm)) rfl rfl rfl ?_
    refine kl_val (y_assign) rfl rfl rfl ?_
    refine kl_nil ?_
    refine x_seq ?_
    refine k_seq ?_
    refine k_region ?_
    refine kl_val (y_move) rfl rfl rfl ?_
    refine kl_val (y_build (cells := #[.string (numUsr q).name, .int .i64 (numUsr q).account, .bool (numUsr q).sure]) rfl (by kernel_rfl)) rfl rfl rfl ?_
    refine kl_ow rfl (ow_slice1 Try.underlying26 I25 Z25 S25 rfl rfl (v := .agg #[.string (numUsr q).name, .int .i64 (numUsr q).account, .bool (numUsr q).sure]) rfl (by decide) (by decide) rfl (fun w1 b1 hb1 hf1 he1 hz1 => ?_))
    have hx : SlX UsrR 3 w1 (fun i => i = b1) (.slice (some ⟨b1, 0, none⟩) 1 1) [(numUsr q)] := slx_one hb1.cs rfl rfl ⟨rfl⟩
    refine kl_ow rfl (ow_call1 fn9 rfl rfl rfl (Users_W hx (fun i hi => by omega) (by have := usr1_len (hokN q); omega) (by show 1 ≤ _; omega)) (kret_ret (fun v w2 hO => ?_)))
    have hs2 := hO.ext.size
    have hsl : SlR w2 (ownB v) v 1 _ (bvs (wEach wUsr [numUsr q])) := SlR.ofOwn hO.own (fun _ h => h)
    refine kl_val (y_assign) rfl rfl rfl ?_
    refine kl_nil ?_
    refine x_seq ?_
    refine k_seq ?_
    refine k_region ?_
    refine kl_val (y_move) rfl rfl rfl ?_
    refine kl_ow rfl (ow_call1 fn10 rfl rfl rfl (ReadUsers_R hsl (fun i hi => own_lt hO.own hi)) (kret_ret (fun u w3 ⟨hE3, hW⟩ => ?_)))
    obtain ⟨us, rfl, hus⟩ := hW.ok (numRead hq1)
    obtain ⟨ua, ucap, cs, rfl, hcl, ⟨hce⟩, hcs⟩ := hus.get (i := 0) rfl
    subst hce
    obtain ⟨va, vc, rfl⟩ := hsl.form
    refine kl_val (y_move) rfl rfl rfl ?_
    refine kl_val (y_extract rfl rfl) rfl rfl rfl ?_
    refine kl_val (y_extract rfl rfl) rfl rfl rfl ?_
    refine kl_val (y_assign) rfl rfl rfl ?_
    refine kl_val (y_assign) rfl rfl rfl ?_
    refine kl_nil ?_
    refine x_seq ?_
    refine k_seq ?_
    refine k_region ?_
    refine kl_val (y_assign) rfl rfl rfl ?_
    refine kl_nil ?_
    refine x_seq ?_
    refine k_seq ?_
    refine k_seq ?_
    refine k_region ?_
    refine kl_val (y_move) rfl rfl rfl ?_
    refine kl_val (y_assign) rfl rfl rfl ?_
    refine kl_nil ?_
    refine x_seq ?_
    refine k_block ?_
    refine k_loop (fun m ρ w' => ∃ (i r : Nat), ρ 5 = .int .i64 (q : Int) ∧ ρ 6 = .slice va (wEach wUsr [numUsr q]).length vc ∧ ρ 7 = .slice (some ua) 1 ucap ∧ ρ 8 = .int .u16 0 ∧ ρ 9 = .int .i64 (i : Int) ∧ ρ 10 = .int .i64 (r : Int) ∧ r = m ∧ r ≤ 1099511627776 ∧ i ≤ 7 ∧ i + (num r).length = (num q).length + 1 ∧ w' = w3) q ⟨1, q, rfl, rfl, rfl, rfl, rfl, rfl, rfl, hq1, by omega, by omega, rfl⟩ ?_
    rintro m ρ w' ⟨i, r, e5, e6, e7, e8, e9, e10, rfl, hr, hi7, hnum, rfl⟩
    obtain ⟨σ, rfl⟩ : ∃ σ, ρ = (upd (upd (upd (upd (upd (upd σ 5 (.int .i64 (q : Int))) 6 (.slice va (wEach wUsr [numUsr q]).length vc)) 7 (.slice (some ua) 1 ucap)) 8 (.int .u16 0)) 9 (.int .i64 (i : Int))) 10 (.int .i64 (r : Int))) := ⟨ρ, by rw [upd_self ρ e5, upd_self ρ e6, upd_self ρ e7, upd_self ρ e8, upd_self ρ e9, upd_self ρ e10]⟩
    clear e5 e6 e7 e8 e9 e10
    have hq6 := numI_length (q : Int)
    have hqn : numI (q : Int) = num q := by unfold numI clamp; congr 1; omega
    rw [hqn] at hq6
    refine k_seq ?_
    refine k_seq ?_
    refine k_region ?_
    refine kl_val (y_move) rfl rfl rfl ?_
    refine kl_val (y_gtr rfl rfl) rfl rfl rfl ?_
    refine kl_nil ?_
    refine x_seq ?_
    refine k_condp rfl (fun hlt => ?_) (fun hlt => ?_)
    · skip
      refine k_skip ?_
      refine x_seq ?_
      refine k_seq ?_
      refine k_block ?_
      refine k_region ?_
      refine kl_val (y_move) rfl rfl rfl ?_
      refine kl_val (Y.cast (v' := .int .i64 ((i + 1 : Nat) : Int)) (y_add64 rfl rfl (by omega)) (congrArg (Value.int .i64) (by omega))) rfl rfl rfl ?_
      refine kl_val (y_assign) rfl rfl rfl ?_
      refine kl_nil ?_
      refine x_blk ?_
      refine x_seq ?_
      refine k_region ?_
      refine kl_val (y_move) rfl rfl rfl ?_
      refine kl_val (Y.cast (v' := .int .i64 ((r / 128 : Nat) : Int)) (y_quo rfl rfl (by decide)) (congrArg (Value.int .i64) (quo128 hr))) rfl rfl rfl ?_
      refine kl_val (y_assign) rfl rfl rfl ?_
      refine kl_nil ?_
      refine x_lpN (r / 128) (by omega) ⟨i + 1, r / 128, rfl, rfl, rfl, rfl, rfl, rfl, rfl, by omega, ?_, ?_, rfl⟩
      · rw [num_ge (by omega), List.length_cons] at hnum; have : 0 < (num (r / 128)).length := num_pos _; omega
      · rw [num_ge (by omega), List.length_cons] at hnum; omega
    · skip
      rw [num_lt (by omega)] at hnum
      simp only [List.length_singleton] at hnum
      refine k_exit ?_
      refine x_seqX ?_
      refine x_lpX ?_
      refine x_blkX ?_
      refine x_seq ?_
      refine k_seq ?_
      refine k_region ?_
      refine kl_ow rfl (ow_call0 fn11 rfl rfl (known_R) (kret_ret (fun u w4 ⟨hu, hE4⟩ => ?_)))
      subst hu
      replace hcs := hcs.keep hE4 (fun h => h)
      have hE := ((hf1.trans hO.ext).trans hE3).trans hE4
      have hnl := numLen hq1
      refine kl_val (y_move) rfl rfl rfl ?_
      first | refine kl_skipG rfl rfl rfl rfl rfl rfl ?_ | refine kl_valG (y_move) rfl rfl rfl rfl rfl ?_
      first | refine kl_skipG rfl rfl rfl rfl rfl rfl ?_ | refine kl_valG (yb (b := true) (y_eql rfl rfl) rfl) rfl rfl rfl rfl rfl ?_
      refine kl_val (by first | exact y_pickT rfl | exact y_pickF rfl) rfl rfl rfl ?_
      refine kl_val (y_move) rfl rfl rfl ?_
      first | refine kl_skipG rfl rfl rfl rfl rfl rfl ?_ | refine kl_valG (y_move) rfl rfl rfl rfl rfl ?_
      first | refine kl_skipG rfl rfl rfl rfl rfl rfl ?_ | refine kl_valG (y_lenS Try.underlying26 rfl) rfl rfl rfl rfl rfl ?_
      first | refine kl_skipG rfl rfl rfl rfl rfl rfl ?_ | refine kl_valG (yb (b := true) (y_eql rfl rfl) rfl) rfl rfl rfl rfl rfl ?_
      refine kl_val (by first | exact y_pickT rfl | exact y_pickF rfl) rfl rfl rfl ?_
      refine kl_val (y_move) rfl rfl rfl ?_
      first | refine kl_skipG rfl rfl rfl rfl rfl rfl ?_ | refine kl_valG (y_move) rfl rfl rfl rfl rfl ?_
      first | refine kl_skipG rfl rfl rfl rfl rfl rfl ?_ | refine kl_valG (y_indexAddr Try.underlying26 I25 S25 rfl rfl (by decide) (by decide)) rfl rfl rfl rfl rfl ?_
      first | refine kl_skipG rfl rfl rfl rfl rfl rfl ?_ | refine kl_valG (y_fieldAddr Try.underlying25 rfl I3 S3 rfl rfl) rfl rfl rfl rfl rfl ?_
      first | refine kl_skipG rfl rfl rfl rfl rfl rfl ?_ | refine kl_valG (y_load rfl (ld_one Try.underlying3 rfl (hcs.at (i := 1) rfl))) rfl rfl rfl rfl rfl ?_
      first | refine kl_skipG rfl rfl rfl rfl rfl rfl ?_ | refine kl_valG (y_move) rfl rfl rfl rfl rfl ?_
      first | refine kl_skipG rfl rfl rfl rfl rfl rfl ?_ | refine kl_valG (yb (b := true) (y_eql rfl rfl) (decide_eq_true rfl)) rfl rfl rfl rfl rfl ?_
      refine kl_val (by first | exact y_pickT rfl | exact y_pickF rfl) rfl rfl rfl ?_
      refine kl_val (y_move) rfl rfl rfl ?_
      first | refine kl_skipG rfl rfl rfl rfl rfl rfl ?_ | refine kl_valG (y_move) rfl rfl rfl rfl rfl ?_
      first | refine kl_skipG rfl rfl rfl rfl rfl rfl ?_ | refine kl_valG (y_lenS Try.underlying22 rfl) rfl rfl rfl rfl rfl ?_
      first | refine kl_skipG rfl rfl rfl rfl rfl rfl ?_ | refine kl_valG (y_move) rfl rfl rfl rfl rfl ?_
      first | refine kl_skipG rfl rfl rfl rfl rfl rfl ?_ | refine kl_valG (y_add64 rfl rfl (by omega)) rfl rfl rfl rfl rfl ?_
      first | refine kl_skipG rfl rfl rfl rfl rfl rfl ?_ | refine kl_valG (yb (b := true) (y_eql rfl rfl) (decide_eq_true (by omega))) rfl rfl rfl rfl rfl ?_
      refine kl_val (by first | exact y_pickT rfl | exact y_pickF rfl) rfl rfl rfl ?_
      refine kl_val (y_assign) rfl rfl rfl ?_
      refine kl_nil ?_
      refine x_seq ?_
      refine k_ret ?_
      exact k_ret1 rfl rfl ⟨_, rfl, rfl, hE⟩

end Go.Proofs.Ythpocekigliomaa.K
