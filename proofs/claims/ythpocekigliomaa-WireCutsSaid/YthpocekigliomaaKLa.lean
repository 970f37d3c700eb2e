/- Known answers hold. No condition. -/
import Derived.Test.YthpocekigliomaaKL
import Derived.Test.YthpocekigliomaaKE
import Derived.Test.YthpocekigliomaaKQb
import Derived.Test.YthpocekigliomaaKWd
namespace Go.Proofs.Ythpocekigliomaa.K
open Go

set_option maxRecDepth 100000 in
set_option maxHeartbeats 1000000 in
theorem known_R {w : World} :
    Ret Try.prog 11 #[] w (fun u w' => u = .bool true ∧ Ext w w') := by
  refine k_enter0 Try.func11 rfl Try.ntmps11 ?_
  refine k_seq ?_
  refine k_region ?_
  refine kl_val (y_assign) rfl rfl rfl ?_
  refine kl_nil ?_
  refine x_seq ?_
  refine k_seq ?_
  refine k_region ?_
  refine kl_val (y_build (cells := #[.string knownUsr.name, .int .i64 knownUsr.account, .bool knownUsr.sure]) rfl (by kernel_rfl)) rfl rfl rfl ?_
  refine kl_ow rfl (ow_slice1 Try.underlying26 I25 Z25 S25 rfl rfl (v := .agg #[.string knownUsr.name, .int .i64 knownUsr.account, .bool knownUsr.sure]) rfl (by decide) (by decide) rfl (fun w1 b1 hb1 hf1 he1 hz1 => ?_))
  have hx : SlX UsrR 3 w1 (fun i => i = b1) (.slice (some ⟨b1, 0, none⟩) 1 1) [knownUsr] := slx_one hb1.cs rfl rfl ⟨rfl⟩
  refine kl_ow rfl (ow_call1 fn9 rfl rfl rfl (Users_W hx (fun i hi => by omega) (by have := usr1_len hok; omega) (by show 1 ≤ _; omega)) (kret_ret (fun v w2 hO => ?_)))
  have hs2 := hO.ext.size
  have hsl : SlR w2 (ownB v) v 1 _ (bvs (wEach wUsr [knownUsr])) := SlR.ofOwn hO.own (fun _ h => h)
  refine kl_val (y_assign) rfl rfl rfl ?_
  refine kl_nil ?_
  refine x_seq ?_
  refine k_seq ?_
  refine k_region ?_
  refine kl_val (y_move) rfl rfl rfl ?_
  refine kl_ow rfl (ow_call1 fn10 rfl rfl rfl (ReadUsers_R hsl (fun i hi => own_lt hO.own hi)) (kret_ret (fun u w3 ⟨hE3, hW⟩ => ?_)))
  obtain ⟨us, rfl, hus⟩ := hW.ok knownRead
  obtain ⟨ua, ucap, cs, rfl, hcl, ⟨hce⟩, hcs⟩ := hus.get (i := 0) rfl
  subst hce
  have hs3 := hE3.size
  refine kl_val (y_move) rfl rfl rfl ?_
  refine kl_val (y_extract rfl rfl) rfl rfl rfl ?_
  refine kl_val (y_extract rfl rfl) rfl rfl rfl ?_
  refine kl_val (y_assign) rfl rfl rfl ?_
  refine kl_val (y_assign) rfl rfl rfl ?_
  refine kl_nil ?_
  refine x_seq ?_
  refine k_seq ?_
  refine k_region ?_
  refine kl_ow rfl (ow_call1 fn34 rfl rfl rfl (ReadList_R (bs := []) (B := fun _ => False) (SlR.nil _ _ _) (fun _ h => h.elim)) (kret_ret (fun u w4 ⟨hE4, hW4⟩ => ?_)))
  obtain rfl := hW4.err (e := 10) rfl
  have hs4 := hE4.size
  refine kl_val (y_move) rfl rfl rfl ?_
  refine kl_val (y_extract rfl rfl) rfl rfl rfl ?_
  refine kl_val (y_extract rfl rfl) rfl rfl rfl ?_
  refine kl_ow rfl (ow_alloc I47 Z47 rfl (fun w5 b5 hb5 hf5 he5 hz5 => ?_))
  replace hb5 := bx_eq hb5 (show _ = ([Value.int .i64 0, Value.int .i64 0] ++ List.replicate 32 (Value.int .u8 0) ++ [Value.slice none 0 0] ++ List.replicate 64 (Value.int .u8 0) : List Value) from rfl)
  refine kl_ow rfl (ow_store (b := b5) (o := 0) I47 S47 rfl (v := .agg (([Value.int .i64 0, Value.int .i64 0] ++ List.replicate 32 (Value.int .u8 0) ++ [Value.slice none 0 0] ++ List.replicate 64 (Value.int .u8 0) : List Value)).toArray) (xs := ([Value.int .i64 0, Value.int .i64 0] ++ List.replicate 32 (Value.int .u8 0) ++ [Value.slice none 0 0] ++ List.replicate 64 (Value.int .u8 0) : List Value)) rfl hb5 rfl (by simp) (by simp) zoneList (fun w6 hb6 hf6 hz6 => ?_))
  have hE : Ext w w6 := ((((hf1.trans hO.ext).trans hE3).trans hE4).trans hf5).trans' hf6 (fun i hi e => absurd e (by omega))
  have hlt := cs_lt hcs (by decide)
  replace hcs := (((hcs.keep hE4 (fun h => h)).keep hf5 (fun h => h)).keep hf6 (fun (e : (ua.add (0 * 3)).block = b5) => by omega))
  replace hsl := (((hsl.keep hE3 (fun _ _ h => h)).keep hE4 (fun _ _ h => h)).keep hf5 (fun _ _ h => h)).keep hf6 (fun i hi e => by have := own_lt hO.own hi; omega)
  refine kl_val (y_assign) rfl rfl rfl ?_
  refine kl_nil ?_
  refine x_seq ?_
  refine k_seq ?_
  refine k_region ?_
  refine kl_val (y_move) rfl rfl rfl ?_
  refine kl_val (y_b2s Try.underlying22 Try.underlying5 Try.underlying9 rfl hsl) rfl rfl rfl ?_
  refine kl_val (yb (b := true) (y_seql rfl rfl) (by rw [knownBytes]; rfl)) rfl rfl rfl ?_
  refine kl_val (y_move) rfl rfl rfl ?_
  first | refine kl_skipG rfl rfl rfl rfl rfl rfl ?_ | refine kl_valG (y_move) rfl rfl rfl rfl rfl ?_
  first | refine kl_skipG rfl rfl rfl rfl rfl rfl ?_ | refine kl_valG (yb (b := true) (y_eql rfl rfl) rfl) rfl rfl rfl rfl rfl ?_
  refine kl_val (by first | exact y_pickT rfl | exact y_pickF rfl) rfl rfl rfl ?_
  refine kl_val (y_move) rfl rfl rfl ?_
  first | refine kl_skipG rfl rfl rfl rfl rfl rfl ?_ | refine kl_valG (y_move) rfl rfl rfl rfl rfl ?_
  first | refine kl_skipG rfl rfl rfl rfl rfl rfl ?_ | refine kl_valG (y_lenS Try.underlying26 rfl) rfl rfl rfl rfl rfl ?_
  first | refine kl_skipG rfl rfl rfl rfl rfl rfl ?_ | refine kl_valG (yb (b := true) (y_eql rfl rfl) rfl) rfl rfl rfl rfl rfl ?_
  refine kl_val (by first | exact y_pickT rfl | exact y_pickF rfl) rfl rfl rfl ?_
  refine kl_val (y_move) rfl rfl rfl ?_
  first | refine kl_skipG rfl rfl rfl rfl rfl rfl ?_ | refine kl_valG (y_move) rfl rfl rfl rfl rfl ?_
  first | refine kl_skipG rfl rfl rfl rfl rfl rfl ?_ | refine kl_valG (y_indexAddr Try.underlying26 I25 S25 rfl rfl (by decide) (by decide)) rfl rfl rfl rfl rfl ?_
  first | refine kl_skipG rfl rfl rfl rfl rfl rfl ?_ | refine kl_valG (y_load rfl (ld_aggB Try.underlying25 rfl I25 S25 rfl hcs)) rfl rfl rfl rfl rfl ?_
  first | refine kl_skipG rfl rfl rfl rfl rfl rfl ?_ | refine kl_valG (y_build (cells := #[.string knownUsr.name, .int .i64 knownUsr.account, .bool knownUsr.sure]) rfl (by kernel_rfl)) rfl rfl rfl rfl rfl ?_
  first | refine kl_skipG rfl rfl rfl rfl rfl rfl ?_ | refine kl_valG (yb (b := true) (y_eqlA eg_usr rfl rfl (eq_usr (a := knownUsr) (b := knownUsr) (d := 9998))) (by simp)) rfl rfl rfl rfl rfl ?_
  refine kl_val (by first | exact y_pickT rfl | exact y_pickF rfl) rfl rfl rfl ?_
  refine kl_val (y_move) rfl rfl rfl ?_
  first | refine kl_skipG rfl rfl rfl rfl rfl rfl ?_ | refine kl_valG (y_move) rfl rfl rfl rfl rfl ?_
  first | refine kl_skipG rfl rfl rfl rfl rfl rfl ?_ | refine kl_valG (yb (b := true) (y_eql rfl rfl) rfl) rfl rfl rfl rfl rfl ?_
  refine kl_val (by first | exact y_pickT rfl | exact y_pickF rfl) rfl rfl rfl ?_
  refine kl_val (y_assign) rfl rfl rfl ?_
  refine kl_nil ?_
  refine x_seq ?_
  refine k_ret ?_
  exact k_ret1 rfl rfl ⟨_, rfl, rfl, hE⟩

end Go.Proofs.Ythpocekigliomaa.K
