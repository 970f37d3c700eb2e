/- WireCuts answers true. Condition: the bytes are there. -/
import Derived.Test.YthpocekigliomaaKCe
import Derived.Test.YthpocekigliomaaKH
import Derived.Test.YthpocekigliomaaKLa
namespace Go.Proofs.Ythpocekigliomaa.K
open Go

set_option maxRecDepth 100000 in
set_option maxHeartbeats 1000000 in
theorem WireCuts_R {v : Value} {c : By} {B : Nat → Prop} {w : World} {n : Nat} {kb : UInt8} (hn : n ≤ 65535) (hb : SlR w B v 1 c.length (bvs c)) (hB : ∀ b, B b → b < w.heap.size) :
    Ret Try.prog 7 #[v, .int .u16 (n : Int), bv kb] w (fun u w' => u = .bool true ∧ Ext w w') := by
  refine k_enter3 Try.func7 rfl Try.ntmps7 rfl ?_
  obtain ⟨va, vc, rfl⟩ := hb.form
  refine k_seq ?_
  refine k_region ?_
  refine kl_val (y_assign) rfl rfl rfl ?_
  refine kl_nil ?_
  refine x_seq ?_
  refine k_seq ?_
  refine k_seq ?_
  refine k_region ?_
  refine kl_val (y_move) rfl rfl rfl ?_
  refine kl_val (y_lenS Try.underlying22 rfl) rfl rfl rfl ?_
  refine kl_val (y_gtr rfl rfl) rfl rfl rfl ?_
  refine kl_nil ?_
  refine x_seq ?_
  refine k_condp rfl (fun hlen => ?_) (fun hlen => ?_)
  · skip
    refine k_seq ?_
    refine k_region ?_
    refine kl_ow rfl (ow_call0 fn11 rfl rfl (known_R) (kret_ret (fun u w1 ⟨hu, hE'⟩ => ?_)))
    subst hu
    refine kl_val (y_assign) rfl rfl rfl ?_
    refine kl_nil ?_
    refine x_seq ?_
    refine k_ret ?_
    refine x_seqR ?_
    exact k_ret1 rfl rfl ⟨_, rfl, rfl, hE'⟩
  · skip
    refine k_skip ?_
    refine x_seq ?_
    refine k_seq ?_
    refine k_region ?_
    refine kl_val (y_move) rfl rfl rfl ?_
    refine kl_ow rfl (ow_call1 fn15 rfl rfl rfl (Request_c hb hB) (kret_ret (fun u w1 ⟨⟨cx, hu, hRx⟩, hE1⟩ => ?_)))
    subst hu
    have hs1 := hE1.size
    refine kl_ow rfl (ow_call1 fn20 rfl rfl rfl (Request_W hRx (fun _ h => h) (by have := chReq_wlen c; omega) ⟨by have := (chList_ok c).2; show (chList c).devices.length ≤ _; omega, by have := (chPres_ok c (i := 8) (by omega)).1; show (chPres c 8).length ≤ _; omega, by have := (chReq_ok c).2; omega, fun q hq => by have := ((chReq_ok c).1.items q hq).env.one.1; omega⟩) (kret_ret (fun v1 w2 hO => ?_)))
    have hpos1 := wReq_pos (chReq c)
    have hg1 := gd_req (chReq_ok c).1
    have hl1 := chReq_wlen c
    obtain ⟨l1, hle⟩ : ∃ l, l = wReq (chReq c) := ⟨_, rfl⟩
    rw [← hle] at hO hpos1 hg1 hl1
    have ho1 := hO.own
    have hE := hE1.trans hO.ext
    have hn1 : ∀ q, ownB v1 q → w.heap.size ≤ q := fun q hq => by have := hO.fresh q hq; omega
    clear hle hRx hO hE1 hs1
    replace hb := hb.keep hE (fun _ _ h => h)
    refine kl_val (y_assign) rfl rfl rfl ?_
    refine kl_nil ?_
    refine x_seq ?_
    refine k_seq ?_
    refine k_region ?_
    refine kl_val (y_move) rfl rfl rfl ?_
    refine kl_ow rfl (ow_call1 fn29 rfl rfl rfl (Account_c hb (fun q hq => by have := hB q hq; have := hE.size; omega)) (kret_ret (fun u w3 ⟨⟨cx, hu, hRx⟩, hE'⟩ => ?_)))
    subst hu
    replace ho1 := own_keep ho1 hE' (fun _ _ h => h)
    replace hE := hE.trans hE'
    refine kl_ow rfl (ow_call1 fn28 rfl rfl rfl (Account_W hRx (fun _ h => h) (by have := (chAcct_ok c).2.1; omega) ⟨by have := (chList_ok c).2; show (chList c).devices.length ≤ _; omega, by have := (chAcct_ok c).2.2.1; omega, by have := (chAcct_ok c).2.2.2; omega, fun s hs => by have h := (chAcct_ok c).1.slots s hs; exact ⟨by have := h.ol; omega, by have := h.ml; omega, fun e he => by have := (h.mail e he).one.1; omega⟩⟩) (kret_ret (fun v2 w4 hO => ?_)))
    have hpos2 := wAcct_pos (chAcct c)
    have hg2 := gd_acct (chAcct_ok c).1
    have hl2 := (chAcct_ok c).2.1
    obtain ⟨l2, hle⟩ : ∃ l, l = wAcct (chAcct c) := ⟨_, rfl⟩
    rw [← hle] at hO hpos2 hg2 hl2
    have hE' := hO.ext
    have ho2 := hO.own
    have hn2 : ∀ q, ownB v2 q → w.heap.size ≤ q := fun q hq => by have := hO.fresh q hq; have := hE.size; omega
    have hdd : ∀ q, ownB v1 q → ¬ ownB v2 q := fun q h1 h2 => by have := own_lt ho1 h1; have := hO.fresh q h2; omega
    clear hle hRx hO
    replace ho1 := own_keep ho1 hE' (fun _ _ h => h)
    replace hE := hE.trans hE'
    obtain ⟨a1, k1, rfl⟩ := (SlR.ofOwn (B := fun _ => True) ho1 (fun _ _ => trivial)).form
    obtain ⟨a2, k2, rfl⟩ := (SlR.ofOwn (B := fun _ => True) ho2 (fun _ _ => trivial)).form
    have hm1 : n % l1.length < l1.length := Nat.mod_lt _ hpos1
    have hm2 : n % l2.length < l2.length := Nat.mod_lt _ hpos2
    clear hE'
    refine kl_val (y_assign) rfl rfl rfl ?_
    refine kl_nil ?_
    refine x_seq ?_
    refine k_seq ?_
    refine k_seq ?_
    refine k_region ?_
    refine kl_val (y_move) rfl rfl rfl ?_
    refine kl_val (y_lenS Try.underlying22 rfl) rfl rfl rfl ?_
    refine kl_val (yb (b := false) (y_eql rfl rfl) (eqF (by omega))) rfl rfl rfl ?_
    refine kl_val (y_move) rfl rfl rfl ?_
    first | refine kl_skipG rfl rfl rfl rfl rfl rfl ?_ | refine kl_valG (y_move) rfl rfl rfl rfl rfl ?_
    first | refine kl_skipG rfl rfl rfl rfl rfl rfl ?_ | refine kl_valG (y_lenS Try.underlying22 rfl) rfl rfl rfl rfl rfl ?_
    first | refine kl_skipG rfl rfl rfl rfl rfl rfl ?_ | refine kl_valG (yb (b := false) (y_eql rfl rfl) (eqF (by omega))) rfl rfl rfl rfl rfl ?_
    refine kl_val (by first | exact y_pickT rfl | exact y_pickF rfl) rfl rfl rfl ?_
    refine kl_nil ?_
    refine x_seq ?_
    refine k_condF rfl ?_
    refine k_skip ?_
    refine x_seq ?_
    refine k_seq ?_
    refine k_region ?_
    refine kl_val (y_move) rfl rfl rfl ?_
    refine kl_val (y_move) rfl rfl rfl ?_
    refine kl_val (Y.cast (v' := .int .i64 (n : Int)) (y_conv_int ⟨_, Try.underlying27⟩ Try.underlying3 rfl) (congrArg (Value.int .i64) (wrap64_eq (by omega) (by omega)))) rfl rfl rfl ?_
    refine kl_val (y_move) rfl rfl rfl ?_
    refine kl_val (y_lenS Try.underlying22 rfl) rfl rfl rfl ?_
    refine kl_val (Y.cast (v' := .int .i64 ((n % l1.length : Nat) : Int)) (y_rem' rfl rfl (by omega) (by omega)) (congrArg (Value.int .i64) (by omega))) rfl rfl rfl ?_
    have hs := SlR.ofOwn (B := ownB (.slice a1 l1.length k1)) ho1 (fun _ h => h)
    have hcap := hs.cap
    refine kl_val (Y.cast (v' := .slice a1 (n % l1.length) k1) (y_sliceHi Try.underlying22 I5 rfl rfl (by omega) (by omega)) (congrArg (fun i => Value.slice a1 i k1) (Int.toNat_natCast _))) rfl rfl rfl ?_
    refine kl_ow rfl (ow_call1 fn33 rfl rfl rfl (ReadRequest_R (hs.toB (n % l1.length) (Nat.le_of_lt hm1)) (fun q hq => own_lt ho1 hq)) (kret_ret (fun u w5 ⟨hE', hW⟩ => ?_)))
    have hu := hW.err (e := 10) (gd_part hg1 (by omega) hm1)
    subst hu
    replace ho1 := own_keep ho1 hE' (fun _ _ h => h)
    replace ho2 := own_keep ho2 hE' (fun _ _ h => h)
    replace hE := hE.trans hE'
    clear hW hE'
    refine kl_val (y_move) rfl rfl rfl ?_
    refine kl_val (y_extract rfl rfl) rfl rfl rfl ?_
    refine kl_val (y_extract rfl rfl) rfl rfl rfl ?_
    refine kl_ow rfl (ow_alloc I53 Z53 rfl (fun w6 b9 hb9 hf9 he9 hz9 => ?_))
    replace hb9 := bx_eq hb9 (show _ = ([Value.int .u8 0, Value.int .i64 0, Value.int .i64 0, Value.string ByteArray.empty, Value.string ByteArray.empty, Value.string ByteArray.empty, Value.int .i64 0, Value.int .i64 0] ++ List.replicate 32 (Value.int .u8 0) ++ [Value.slice none 0 0] ++ List.replicate 96 (Value.int .u8 0) ++ [Value.int .i64 0] ++ List.replicate 96 (Value.int .u8 0) ++ [Value.slice none 0 0, Value.int .i64 0, Value.slice none 0 0] : List Value) from rfl)
    refine kl_ow rfl (ow_store (b := b9) (o := 0) I53 S53 rfl (v := .agg (([Value.int .u8 0, Value.int .i64 0, Value.int .i64 0, Value.string ByteArray.empty, Value.string ByteArray.empty, Value.string ByteArray.empty, Value.int .i64 0, Value.int .i64 0] ++ List.replicate 32 (Value.int .u8 0) ++ [Value.slice none 0 0] ++ List.replicate 96 (Value.int .u8 0) ++ [Value.int .i64 0] ++ List.replicate 96 (Value.int .u8 0) ++ [Value.slice none 0 0, Value.int .i64 0, Value.slice none 0 0] : List Value)).toArray) (xs := ([Value.int .u8 0, Value.int .i64 0, Value.int .i64 0, Value.string ByteArray.empty, Value.string ByteArray.empty, Value.string ByteArray.empty, Value.int .i64 0, Value.int .i64 0] ++ List.replicate 32 (Value.int .u8 0) ++ [Value.slice none 0 0] ++ List.replicate 96 (Value.int .u8 0) ++ [Value.int .i64 0] ++ List.replicate 96 (Value.int .u8 0) ++ [Value.slice none 0 0, Value.int .i64 0, Value.slice none 0 0] : List Value)) rfl hb9 rfl (by simp) (by simp) zoneRequest (fun w7 hb7 hf7 hz7 => ?_))
    have hE' := ext_store hf9 hf7 (by omega)
    replace ho1 := own_keep ho1 hE' (fun _ _ h => h)
    replace ho2 := own_keep ho2 hE' (fun _ _ h => h)
    replace hE := hE.trans hE'
    clear hE' hb7 hf7 hz7 hb9 hf9 he9 hz9
    refine kl_val (y_assign) rfl rfl rfl ?_
    refine kl_nil ?_
    refine x_seq ?_
    refine k_seq ?_
    refine k_region ?_
    refine kl_val (y_move) rfl rfl rfl ?_
    refine kl_val (y_move) rfl rfl rfl ?_
    refine kl_val (Y.cast (v' := .int .i64 (n : Int)) (y_conv_int ⟨_, Try.underlying27⟩ Try.underlying3 rfl) (congrArg (Value.int .i64) (wrap64_eq (by omega) (by omega)))) rfl rfl rfl ?_
    refine kl_val (y_move) rfl rfl rfl ?_
    refine kl_val (y_lenS Try.underlying22 rfl) rfl rfl rfl ?_
    refine kl_val (Y.cast (v' := .int .i64 ((n % l2.length : Nat) : Int)) (y_rem' rfl rfl (by omega) (by omega)) (congrArg (Value.int .i64) (by omega))) rfl rfl rfl ?_
    have hs := SlR.ofOwn (B := ownB (.slice a2 l2.length k2)) ho2 (fun _ h => h)
    have hcap := hs.cap
    refine kl_val (Y.cast (v' := .slice a2 (n % l2.length) k2) (y_sliceHi Try.underlying22 I5 rfl rfl (by omega) (by omega)) (congrArg (fun i => Value.slice a2 i k2) (Int.toNat_natCast _))) rfl rfl rfl ?_
    refine kl_ow rfl (ow_call1 fn35 rfl rfl rfl (ReadAccount_R (hs.toB (n % l2.length) (Nat.le_of_lt hm2)) (fun q hq => own_lt ho2 hq)) (kret_ret (fun u w5 ⟨hE', hW⟩ => ?_)))
    have hu := hW.err (e := 10) (gd_part hg2 (by omega) hm2)
    subst hu
    replace ho1 := own_keep ho1 hE' (fun _ _ h => h)
    replace ho2 := own_keep ho2 hE' (fun _ _ h => h)
    replace hE := hE.trans hE'
    clear hW hE'
    refine kl_val (y_move) rfl rfl rfl ?_
    refine kl_val (y_extract rfl rfl) rfl rfl rfl ?_
    refine kl_val (y_extract rfl rfl) rfl rfl rfl ?_
    refine kl_ow rfl (ow_alloc I72 Z72 rfl (fun w6 b9 hb9 hf9 he9 hz9 => ?_))
    replace hb9 := bx_eq hb9 (show _ = ([Value.int .i64 0, Value.string ByteArray.empty, Value.int .i64 0, Value.int .i64 0, Value.int .i64 0, Value.int .i64 0] ++ List.replicate 32 (Value.int .u8 0) ++ [Value.slice none 0 0] ++ List.replicate 64 (Value.int .u8 0) ++ [Value.slice none 0 0, Value.slice none 0 0] : List Value) from rfl)
    refine kl_ow rfl (ow_store (b := b9) (o := 0) I72 S72 rfl (v := .agg (([Value.int .i64 0, Value.string ByteArray.empty, Value.int .i64 0, Value.int .i64 0, Value.int .i64 0, Value.int .i64 0] ++ List.replicate 32 (Value.int .u8 0) ++ [Value.slice none 0 0] ++ List.replicate 64 (Value.int .u8 0) ++ [Value.slice none 0 0, Value.slice none 0 0] : List Value)).toArray) (xs := ([Value.int .i64 0, Value.string ByteArray.empty, Value.int .i64 0, Value.int .i64 0, Value.int .i64 0, Value.int .i64 0] ++ List.replicate 32 (Value.int .u8 0) ++ [Value.slice none 0 0] ++ List.replicate 64 (Value.int .u8 0) ++ [Value.slice none 0 0, Value.slice none 0 0] : List Value)) rfl hb9 rfl (by simp) (by simp) zoneAccount (fun w7 hb7 hf7 hz7 => ?_))
    have hE' := ext_store hf9 hf7 (by omega)
    replace ho1 := own_keep ho1 hE' (fun _ _ h => h)
    replace ho2 := own_keep ho2 hE' (fun _ _ h => h)
    replace hE := hE.trans hE'
    clear hE' hb7 hf7 hz7 hb9 hf9 he9 hz9
    refine kl_val (y_assign) rfl rfl rfl ?_
    refine kl_nil ?_
    refine x_seq ?_
    refine k_seq ?_
    refine k_region ?_
    refine kl_val (y_move) rfl rfl rfl ?_
    refine kl_val (y_move) rfl rfl rfl ?_
    refine kl_ow rfl (ow_slice1 Try.underlying22 I5 Z5 S5 rfl rfl (v := bv kb) rfl (by decide) (by decide) rfl (fun w8 b5 hb5 hE' he5 hz5 => ?_))
    replace ho1 := own_keep ho1 hE' (fun _ _ h => h)
    replace ho2 := own_keep ho2 hE' (fun _ _ h => h)
    replace hE := hE.trans hE'
    refine kl_ow rfl (ow_append Try.underlying22 I5 Z5 S5 rfl (by decide) (by rw [B5]; decide) rfl ho1 rfl (news := bvs [kb]) rfl hb5.cs (bvs_one _) (by omega) rfl (fun v3 w9 ho hf hfr _ => ?_))
    have hlt2 : ∀ q, ownB (.slice a2 l2.length k2) q → q < w8.heap.size := fun q hq => own_lt ho2 hq
    have hfr : (v3 : Value).ownBlock = (Value.slice a1 l1.length k1).ownBlock ∨ ∀ b, ownB v3 b → w8.heap.size ≤ b := hfr
    have hd3 : ∀ q, ownB v3 q → ¬ ownB (.slice a2 l2.length k2) q := fun q h3 h2 => by
      rcases hfr with e | e
      · exact hdd q (by unfold ownB at *; rw [← e]; exact h3) h2
      · have := e q h3; have := hlt2 q h2; omega
    replace ho2 := own_keep ho2 hf (fun q h2 h1 => hdd q h1 h2)
    replace hE := hE.trans' hf (fun q hq h => by have := hn1 q h; omega)
    refine Exists.elim (⟨_, rfl⟩ : ∃ m, m = l1 ++ [kb]) (fun m1 hmm => ?_)
    have hw1 : pWhole pReq m1 = .error 11 := by rw [hmm]; exact gd_more hg1 (by omega) kb
    have ho : w9.ownsRow 0 5 1 v3 m1.length (bvs m1) := by rw [hmm, bvs_append, List.length_append]; exact ho
    clear hmm
    clear hfr hf hlt2 ho1 hb5 hdd hn1 hm1
    refine kl_val (y_assign) rfl rfl rfl ?_
    refine kl_nil ?_
    refine x_seq ?_
    refine k_seq ?_
    refine k_region ?_
    refine kl_val (y_move) rfl rfl rfl ?_
    refine kl_val (y_move) rfl rfl rfl ?_
    refine kl_ow rfl (ow_slice1 Try.underlying22 I5 Z5 S5 rfl rfl (v := bv kb) rfl (by decide) (by decide) rfl (fun wa b5 hb5 hE' he5 hz5 => ?_))
    replace ho := own_keep ho hE' (fun _ _ h => h)
    replace ho2 := own_keep ho2 hE' (fun _ _ h => h)
    replace hE := hE.trans hE'
    refine kl_ow rfl (ow_append Try.underlying22 I5 Z5 S5 rfl (by decide) (by rw [B5]; decide) rfl ho2 rfl (news := bvs [kb]) rfl hb5.cs (bvs_one _) (by omega) rfl (fun v4 w9 ho4 hf hfr _ => ?_))
    replace ho := own_keep ho hf (fun q h3 h2 => hd3 q h3 h2)
    replace hE := hE.trans' hf (fun q hq h => by have := hn2 q h; omega)
    refine Exists.elim (⟨_, rfl⟩ : ∃ m, m = l2 ++ [kb]) (fun m2 hmm => ?_)
    have hw2 : pWhole pAcct m2 = .error 11 := by rw [hmm]; exact gd_more hg2 (by omega) kb
    have ho4 : w9.ownsRow 0 5 1 v4 m2.length (bvs m2) := by rw [hmm, bvs_append, List.length_append]; exact ho4
    clear hmm
    clear hfr hf ho2 hb5 hd3 hn2 hm2
    refine kl_val (y_assign) rfl rfl rfl ?_
    refine kl_nil ?_
    refine x_seq ?_
    refine k_seq ?_
    refine k_region ?_
    refine kl_val (y_move) rfl rfl rfl ?_
    refine kl_ow rfl (ow_call1 fn33 rfl rfl rfl (ReadRequest_R (bs := m1) (SlR.ofOwn (B := ownB v3) ho (fun _ h => h)) (fun q hq => own_lt ho hq)) (kret_ret (fun u w5 ⟨hE', hW⟩ => ?_)))
    have hu := hW.err (e := 11) (hw1)
    subst hu
    replace ho := own_keep ho hE' (fun _ _ h => h)
    replace ho4 := own_keep ho4 hE' (fun _ _ h => h)
    replace hE := hE.trans hE'
    clear hW hE'
    refine kl_val (y_move) rfl rfl rfl ?_
    refine kl_val (y_extract rfl rfl) rfl rfl rfl ?_
    refine kl_val (y_extract rfl rfl) rfl rfl rfl ?_
    refine kl_ow rfl (ow_alloc I53 Z53 rfl (fun w6 b9 hb9 hf9 he9 hz9 => ?_))
    replace hb9 := bx_eq hb9 (show _ = ([Value.int .u8 0, Value.int .i64 0, Value.int .i64 0, Value.string ByteArray.empty, Value.string ByteArray.empty, Value.string ByteArray.empty, Value.int .i64 0, Value.int .i64 0] ++ List.replicate 32 (Value.int .u8 0) ++ [Value.slice none 0 0] ++ List.replicate 96 (Value.int .u8 0) ++ [Value.int .i64 0] ++ List.replicate 96 (Value.int .u8 0) ++ [Value.slice none 0 0, Value.int .i64 0, Value.slice none 0 0] : List Value) from rfl)
    refine kl_ow rfl (ow_store (b := b9) (o := 0) I53 S53 rfl (v := .agg (([Value.int .u8 0, Value.int .i64 0, Value.int .i64 0, Value.string ByteArray.empty, Value.string ByteArray.empty, Value.string ByteArray.empty, Value.int .i64 0, Value.int .i64 0] ++ List.replicate 32 (Value.int .u8 0) ++ [Value.slice none 0 0] ++ List.replicate 96 (Value.int .u8 0) ++ [Value.int .i64 0] ++ List.replicate 96 (Value.int .u8 0) ++ [Value.slice none 0 0, Value.int .i64 0, Value.slice none 0 0] : List Value)).toArray) (xs := ([Value.int .u8 0, Value.int .i64 0, Value.int .i64 0, Value.string ByteArray.empty, Value.string ByteArray.empty, Value.string ByteArray.empty, Value.int .i64 0, Value.int .i64 0] ++ List.replicate 32 (Value.int .u8 0) ++ [Value.slice none 0 0] ++ List.replicate 96 (Value.int .u8 0) ++ [Value.int .i64 0] ++ List.replicate 96 (Value.int .u8 0) ++ [Value.slice none 0 0, Value.int .i64 0, Value.slice none 0 0] : List Value)) rfl hb9 rfl (by simp) (by simp) zoneRequest (fun w7 hb7 hf7 hz7 => ?_))
    have hE' := ext_store hf9 hf7 (by omega)
    replace ho := own_keep ho hE' (fun _ _ h => h)
    replace ho4 := own_keep ho4 hE' (fun _ _ h => h)
    replace hE := hE.trans hE'
    clear hE' hb7 hf7 hz7 hb9 hf9 he9 hz9
    refine kl_val (y_assign) rfl rfl rfl ?_
    refine kl_nil ?_
    refine x_seq ?_
    refine k_seq ?_
    refine k_region ?_
    refine kl_val (y_move) rfl rfl rfl ?_
    refine kl_ow rfl (ow_call1 fn35 rfl rfl rfl (ReadAccount_R (bs := m2) (SlR.ofOwn (B := ownB v4) ho4 (fun _ h => h)) (fun q hq => own_lt ho4 hq)) (kret_ret (fun u w5 ⟨hE', hW⟩ => ?_)))
    have hu := hW.err (e := 11) (hw2)
    subst hu
    replace ho := own_keep ho hE' (fun _ _ h => h)
    replace ho4 := own_keep ho4 hE' (fun _ _ h => h)
    replace hE := hE.trans hE'
    clear hW hE'
    refine kl_val (y_move) rfl rfl rfl ?_
    refine kl_val (y_extract rfl rfl) rfl rfl rfl ?_
    refine kl_val (y_extract rfl rfl) rfl rfl rfl ?_
    refine kl_ow rfl (ow_alloc I72 Z72 rfl (fun w6 b9 hb9 hf9 he9 hz9 => ?_))
    replace hb9 := bx_eq hb9 (show _ = ([Value.int .i64 0, Value.string ByteArray.empty, Value.int .i64 0, Value.int .i64 0, Value.int .i64 0, Value.int .i64 0] ++ List.replicate 32 (Value.int .u8 0) ++ [Value.slice none 0 0] ++ List.replicate 64 (Value.int .u8 0) ++ [Value.slice none 0 0, Value.slice none 0 0] : List Value) from rfl)
    refine kl_ow rfl (ow_store (b := b9) (o := 0) I72 S72 rfl (v := .agg (([Value.int .i64 0, Value.string ByteArray.empty, Value.int .i64 0, Value.int .i64 0, Value.int .i64 0, Value.int .i64 0] ++ List.replicate 32 (Value.int .u8 0) ++ [Value.slice none 0 0] ++ List.replicate 64 (Value.int .u8 0) ++ [Value.slice none 0 0, Value.slice none 0 0] : List Value)).toArray) (xs := ([Value.int .i64 0, Value.string ByteArray.empty, Value.int .i64 0, Value.int .i64 0, Value.int .i64 0, Value.int .i64 0] ++ List.replicate 32 (Value.int .u8 0) ++ [Value.slice none 0 0] ++ List.replicate 64 (Value.int .u8 0) ++ [Value.slice none 0 0, Value.slice none 0 0] : List Value)) rfl hb9 rfl (by simp) (by simp) zoneAccount (fun w7 hb7 hf7 hz7 => ?_))
    have hE' := ext_store hf9 hf7 (by omega)
    replace ho := own_keep ho hE' (fun _ _ h => h)
    replace ho4 := own_keep ho4 hE' (fun _ _ h => h)
    replace hE := hE.trans hE'
    clear hE' hb7 hf7 hz7 hb9 hf9 he9 hz9
    refine kl_val (y_assign) rfl rfl rfl ?_
    refine kl_nil ?_
    refine x_seq ?_
    refine k_seq ?_
    refine k_region ?_
    refine kl_ow rfl (ow_makeB Try.underlying22 I5 Z5 S5 B5 (m := 60001) rfl rfl (by decide) rfl (fun v5 wb bz hbz hs5 hq5 hE' => ?_))
    replace hE := hE.trans hE'
    clear hE' ho ho4
    refine kl_ow rfl (ow_call1 fn34 rfl rfl rfl (ReadList_R (bs := bz) hs5 hq5) (kret_ret (fun u w5 ⟨hE', hW⟩ => ?_)))
    have hu := hW.err (e := 3) (gd_long (by omega))
    subst hu
    
    replace hE := hE.trans hE'
    clear hW hE'
    refine kl_val (y_move) rfl rfl rfl ?_
    refine kl_val (y_extract rfl rfl) rfl rfl rfl ?_
    refine kl_val (y_extract rfl rfl) rfl rfl rfl ?_
    refine kl_ow rfl (ow_alloc I47 Z47 rfl (fun w6 b9 hb9 hf9 he9 hz9 => ?_))
    replace hb9 := bx_eq hb9 (show _ = ([Value.int .i64 0, Value.int .i64 0] ++ List.replicate 32 (Value.int .u8 0) ++ [Value.slice none 0 0] ++ List.replicate 64 (Value.int .u8 0) : List Value) from rfl)
    refine kl_ow rfl (ow_store (b := b9) (o := 0) I47 S47 rfl (v := .agg (([Value.int .i64 0, Value.int .i64 0] ++ List.replicate 32 (Value.int .u8 0) ++ [Value.slice none 0 0] ++ List.replicate 64 (Value.int .u8 0) : List Value)).toArray) (xs := ([Value.int .i64 0, Value.int .i64 0] ++ List.replicate 32 (Value.int .u8 0) ++ [Value.slice none 0 0] ++ List.replicate 64 (Value.int .u8 0) : List Value)) rfl hb9 rfl (by simp) (by simp) zoneList (fun w7 hb7 hf7 hz7 => ?_))
    have hE' := ext_store hf9 hf7 (by omega)
    
    replace hE := hE.trans hE'
    clear hE' hb7 hf7 hz7 hb9 hf9 he9 hz9
    refine kl_val (y_assign) rfl rfl rfl ?_
    refine kl_nil ?_
    refine x_seq ?_
    refine k_seq ?_
    refine k_region ?_
    refine kl_ow rfl (ow_call0 fn11 rfl rfl (known_R) (kret_ret (fun u wk ⟨hu, hE'⟩ => ?_)))
    subst hu
    replace hE := hE.trans hE'
    refine kl_val (y_move) rfl rfl rfl ?_
    first | refine kl_skipG rfl rfl rfl rfl rfl rfl ?_ | refine kl_valG (y_move) rfl rfl rfl rfl rfl ?_
    first | refine kl_skipG rfl rfl rfl rfl rfl rfl ?_ | refine kl_valG (yb (b := true) (y_eql rfl rfl) rfl) rfl rfl rfl rfl rfl ?_
    refine kl_val (by first | exact y_pickT rfl | exact y_pickF rfl) rfl rfl rfl ?_
    refine kl_val (y_move) rfl rfl rfl ?_
    first | refine kl_skipG rfl rfl rfl rfl rfl rfl ?_ | refine kl_valG (y_move) rfl rfl rfl rfl rfl ?_
    first | refine kl_skipG rfl rfl rfl rfl rfl rfl ?_ | refine kl_valG (yb (b := true) (y_eql rfl rfl) rfl) rfl rfl rfl rfl rfl ?_
    refine kl_val (by first | exact y_pickT rfl | exact y_pickF rfl) rfl rfl rfl ?_
    refine kl_val (y_move) rfl rfl rfl ?_
    first | refine kl_skipG rfl rfl rfl rfl rfl rfl ?_ | refine kl_valG (y_move) rfl rfl rfl rfl rfl ?_
    first | refine kl_skipG rfl rfl rfl rfl rfl rfl ?_ | refine kl_valG (yb (b := true) (y_eql rfl rfl) rfl) rfl rfl rfl rfl rfl ?_
    refine kl_val (by first | exact y_pickT rfl | exact y_pickF rfl) rfl rfl rfl ?_
    refine kl_val (y_move) rfl rfl rfl ?_
    first | refine kl_skipG rfl rfl rfl rfl rfl rfl ?_ | refine kl_valG (y_move) rfl rfl rfl rfl rfl ?_
    first | refine kl_skipG rfl rfl rfl rfl rfl rfl ?_ | refine kl_valG (yb (b := true) (y_eql rfl rfl) rfl) rfl rfl rfl rfl rfl ?_
    refine kl_val (by first | exact y_pickT rfl | exact y_pickF rfl) rfl rfl rfl ?_
    refine kl_val (y_move) rfl rfl rfl ?_
    first | refine kl_skipG rfl rfl rfl rfl rfl rfl ?_ | refine kl_valG (y_move) rfl rfl rfl rfl rfl ?_
    first | refine kl_skipG rfl rfl rfl rfl rfl rfl ?_ | refine kl_valG (yb (b := true) (y_eql rfl rfl) rfl) rfl rfl rfl rfl rfl ?_
    refine kl_val (by first | exact y_pickT rfl | exact y_pickF rfl) rfl rfl rfl ?_
    refine kl_val (y_assign) rfl rfl rfl ?_
    refine kl_nil ?_
    refine x_seq ?_
    refine k_ret ?_
    exact k_ret1 rfl rfl ⟨_, rfl, rfl, hE⟩

end Go.Proofs.Ythpocekigliomaa.K
