/- WireOnce answers true. Condition: the bytes are there. -/
import Derived.Test.YthpocekigliomaaKCd
import Derived.Test.YthpocekigliomaaKG
import Derived.Test.YthpocekigliomaaKLa
import Derived.Test.YthpocekigliomaaKSa
namespace Go.Proofs.Ythpocekigliomaa.K
open Go

set_option maxRecDepth 100000 in
set_option maxHeartbeats 1000000 in
theorem WireOnce_R {v v2 : Value} {c d : By} {B Bd : Nat → Prop} {w : World} {n : Nat} {kb : UInt8} (hn : n ≤ 65535) (hb : SlR w B v 1 c.length (bvs c)) (hB : ∀ b, B b → b < w.heap.size) (hd : SlR w Bd v2 1 d.length (bvs d)) (hBd : ∀ b, Bd b → b < w.heap.size) :
    Ret Try.prog 6 #[v, v2, .int .u16 (n : Int), bv kb] w (fun u w' => u = .bool true ∧ Ext w w') := by
  refine k_enter4 Try.func6 rfl Try.ntmps6 rfl ?_
  obtain ⟨va, vc, rfl⟩ := hb.form
  obtain ⟨vb, vd, rfl⟩ := hd.form
  refine k_seq ?_
  refine k_region ?_
  refine kl_val (y_assign) rfl rfl rfl ?_
  refine kl_nil ?_
  refine x_seq ?_
  refine k_seq ?_
  refine k_seq ?_
  refine k_region ?_
  refine kl_val (y_move) rfl rfl rfl ?_
  refine kl_val (y_lenS Try.underlying22 rfl) rfl rfl rfl ?_
  by_cases ha : (300 : Int) < (c.length : Int)
  · skip
    refine kl_val (yb (b := true) (y_gtr rfl rfl) (eqT ha)) rfl rfl rfl ?_
    refine kl_val (y_move) rfl rfl rfl ?_
    first | refine kl_skipG rfl rfl rfl rfl rfl rfl ?_ | refine kl_valG (y_move) rfl rfl rfl rfl rfl ?_
    first | refine kl_skipG rfl rfl rfl rfl rfl rfl ?_ | refine kl_valG (y_lenS Try.underlying22 rfl) rfl rfl rfl rfl rfl ?_
    first | refine kl_skipG rfl rfl rfl rfl rfl rfl ?_ | refine kl_valG (y_move) rfl rfl rfl rfl rfl ?_
    refine kl_val (by first | exact y_pickT rfl | exact y_pickF rfl) rfl rfl rfl ?_
    refine kl_nil ?_
    refine x_seq ?_
    refine k_condT rfl ?_
    refine k_seq ?_
    refine k_region ?_
    refine kl_ow rfl (ow_call0 fn11 rfl rfl (known_R) (kret_ret (fun u w1 ⟨hu, hE'⟩ => ?_)))
    subst hu
    refine kl_val (y_assign) rfl rfl rfl ?_
    refine kl_nil ?_
    refine x_seq ?_
    refine k_ret ?_
    refine x_seqR ?_
    exact k_ret1 rfl rfl ⟨_, rfl, rfl, hE'⟩
  · skip
    refine kl_val (yb (b := false) (y_gtr rfl rfl) (eqF ha)) rfl rfl rfl ?_
    refine kl_val (y_move) rfl rfl rfl ?_
    first | refine kl_skipG rfl rfl rfl rfl rfl rfl ?_ | refine kl_valG (y_move) rfl rfl rfl rfl rfl ?_
    first | refine kl_skipG rfl rfl rfl rfl rfl rfl ?_ | refine kl_valG (y_lenS Try.underlying22 rfl) rfl rfl rfl rfl rfl ?_
    first | refine kl_skipG rfl rfl rfl rfl rfl rfl ?_ | refine kl_valG (y_gtr rfl rfl) rfl rfl rfl rfl rfl ?_
    refine kl_val (by first | exact y_pickT rfl | exact y_pickF rfl) rfl rfl rfl ?_
    refine kl_nil ?_
    refine x_seq ?_
    refine k_condp rfl (fun hlen => ?_) (fun hlen => ?_)
    · skip
      refine k_seq ?_
      refine k_region ?_
      refine kl_ow rfl (ow_call0 fn11 rfl rfl (known_R) (kret_ret (fun u w1 ⟨hu, hE'⟩ => ?_)))
      subst hu
      refine kl_val (y_assign) rfl rfl rfl ?_
      refine kl_nil ?_
      refine x_seq ?_
      refine k_ret ?_
      refine x_seqR ?_
      exact k_ret1 rfl rfl ⟨_, rfl, rfl, hE'⟩
    · skip
      refine k_skip ?_
      refine x_seq ?_
      refine k_seq ?_
      refine k_region ?_
      refine kl_val (y_move) rfl rfl rfl ?_
      refine kl_ow rfl (ow_call1 fn15 rfl rfl rfl (Request_c hd hBd) (kret_ret (fun u w1 ⟨⟨cx, hu, hRx⟩, hE1⟩ => ?_)))
      subst hu
      have hs1 := hE1.size
      refine kl_ow rfl (ow_call1 fn20 rfl rfl rfl (Request_W hRx (fun _ h => h) (by have := wReq_len (chReq_ok d).1 (n := 4) (by have := (chList_ok d).2; exact this) (by have := (chPres_ok d (i := 8) (by omega)).1; show (chPres d 8).length ≤ _; omega) (by have := (chReq_ok d).2; omega); omega) ⟨by have := (chList_ok d).2; show (chList d).devices.length ≤ _; omega, by have := (chPres_ok d (i := 8) (by omega)).1; show (chPres d 8).length ≤ _; omega, by have := (chReq_ok d).2; omega, fun q hq => by have := ((chReq_ok d).1.items q hq).env.one.1; omega⟩) (kret_ret (fun vo w2 hO => ?_)))
      have hpos := wReq_pos (chReq d)
      obtain ⟨l, hl⟩ : ∃ l, l = wReq (chReq d) := ⟨_, rfl⟩
      rw [← hl] at hO hpos
      obtain ⟨bo, co, rfl, hbo, hbo2, hop⟩ := hO.open hpos
      have hs2 := hO.ext.size
      clear hl hRx
      refine kl_val (y_assign) rfl rfl rfl ?_
      refine kl_nil ?_
      refine x_seq ?_
      refine k_seq ?_
      refine k_seq ?_
      refine k_region ?_
      refine kl_val (y_move) rfl rfl rfl ?_
      refine kl_val (y_lenS Try.underlying22 rfl) rfl rfl rfl ?_
      refine kl_val (yb (b := false) (y_eql rfl rfl) (eqF (by omega))) rfl rfl rfl ?_
      refine kl_nil ?_
      refine x_seq ?_
      refine k_condF rfl ?_
      refine k_skip ?_
      refine x_seq ?_
      refine k_seq ?_
      refine k_region ?_
      refine kl_val (y_move) rfl rfl rfl ?_
      refine kl_val (y_move) rfl rfl rfl ?_
      refine kl_val (Y.cast (v' := .int .i64 (n : Int)) (y_conv_int ⟨_, Try.underlying27⟩ Try.underlying3 rfl) (congrArg (Value.int .i64) (wrap64_eq (by omega) (by omega)))) rfl rfl rfl ?_
      refine kl_val (y_move) rfl rfl rfl ?_
      refine kl_val (y_lenS Try.underlying22 rfl) rfl rfl rfl ?_
      have hmod : n % l.length < l.length := Nat.mod_lt _ hpos
      refine kl_val (Y.cast (v' := .int .i64 ((n % l.length : Nat) : Int)) (y_rem' rfl rfl (by omega) (by omega)) (congrArg (Value.int .i64) (by omega))) rfl rfl rfl ?_
      refine kl_val (y_move) rfl rfl rfl ?_
      refine kl_val (Y.cast (v' := .pointer (some ⟨bo, n % l.length, none⟩)) (y_indexAddrN Try.underlying22 I5 S5 rfl rfl hmod) (by rw [Nat.mul_one, addr0])) rfl rfl rfl ?_
      obtain ⟨⟨cu, hcu⟩, hfz, hsl⟩ := (hop w2 (Fr.refl _ _)).2 _ hmod kb
      refine kl_ow rfl (ow_store1 (a := ⟨bo, n % l.length, none⟩) (v := bv kb) I5 S5 rfl rfl hcu hfz rfl rfl ?_)
      obtain ⟨w3, hw3⟩ : ∃ w3, w3 = w2.setCell ⟨bo, n % l.length, none⟩ (bv kb) := ⟨_, rfl⟩
      have hf3 : Fr (· = bo) w2 w3 := hw3 ▸ (Fr.refl _ _).setCell _ _ (fun _ => rfl)
      rw [← hw3] at hsl
      rw [← hw3]
      clear hw3 hcu hfz hop
      obtain ⟨bs, hbs⟩ : ∃ bs, bs = l.set (n % l.length) kb := ⟨_, rfl⟩
      rw [← hbs] at hsl
      have hbl : bs.length = l.length := by rw [hbs]; simp
      rw [← hbl] at hsl ⊢
      have hs3 := hf3.size
      have hE : Ext w w3 := (hE1.trans hO.ext).trans' hf3 (fun i hi e => absurd e (by omega))
      replace hb := hb.keep hE (fun _ _ h => h)
      replace hB : ∀ q, B q → q < w3.heap.size := fun q hq => by have := hB q hq; have := hE.size; omega
      have hbo3 : ∀ q, q = bo → q < w3.heap.size := fun q hq => by omega
      clear hbs hs1 hs2 hs3 hf3 hO hE1 hpos hmod hbo2 hbl hd hBd
      refine kl_nil ?_
      refine x_seq ?_
      refine k_seq ?_
      refine k_region ?_
      refine kl_val (y_move) rfl rfl rfl ?_
      refine kl_ow rfl (ow_call1 fn33 rfl rfl rfl (ReadRequest_R hsl hbo3) (kret_ret (fun u w4 ⟨hE', hW⟩ => ?_)))
      obtain ⟨ys, e1, rfl, hyl, hyo, hyx⟩ := hW.three (n := 237) ⟨by simp, zoneRequest⟩ (fun cs x h => ⟨h.length, h.one⟩) (fun e he => er_whole er_req he)
      clear hW
      have hyx : e1 = 0 → ∃ x, pWhole pReq bs = .ok x ∧ ReqR w4 (fun q => q < w4.heap.size) ys x := fun h0 => by obtain ⟨x, h1, h2⟩ := hyx h0; exact ⟨x, h1, h2.mono (fun q hq => hq.2)⟩
      obtain ⟨B4, hB4⟩ : ∃ B4 : Nat → Prop, B4 = fun q => q < w4.heap.size := ⟨_, rfl⟩
      rw [← hB4] at hyx
      replace hB4 : ∀ q, B4 q → q < w4.heap.size := fun q hq => by rw [hB4] at hq; exact hq
      replace hb := hb.keep hE' (fun _ _ h => h)
      replace hsl := hsl.keep hE' (fun _ _ h => h)
      replace hE := hE.trans hE'
      replace hB := fun q hq => Nat.lt_of_lt_of_le (hB q hq) hE'.size
      replace hbo3 := fun q hq => Nat.lt_of_lt_of_le (hbo3 q hq) hE'.size
      refine kl_val (y_move) rfl rfl rfl ?_
      refine kl_val (y_extract rfl rfl) rfl rfl rfl ?_
      refine kl_val (y_extract rfl rfl) rfl rfl rfl ?_
      have hB' := hB
      have hbo3' := hbo3
      have hEs := hE.size
      
      refine kl_ow rfl (ow_alloc I53 Z53 rfl (fun w5 b10 hbb10 hE' he0 hz0 => ?_))
      replace hbb10 := bx_eq hbb10 (show _ = ([Value.int .u8 0, Value.int .i64 0, Value.int .i64 0, Value.string ByteArray.empty, Value.string ByteArray.empty, Value.string ByteArray.empty, Value.int .i64 0, Value.int .i64 0] ++ List.replicate 32 (Value.int .u8 0) ++ [Value.slice none 0 0] ++ List.replicate 96 (Value.int .u8 0) ++ [Value.int .i64 0] ++ List.replicate 96 (Value.int .u8 0) ++ [Value.slice none 0 0, Value.int .i64 0, Value.slice none 0 0] : List Value) from rfl)
      replace hb := hb.keep hE' (fun _ _ h => h)
      replace hsl := hsl.keep hE' (fun _ _ h => h)
      replace hE := hE.trans hE'
      replace hB := fun q hq => Nat.lt_of_lt_of_le (hB q hq) hE'.size
      replace hbo3 := fun q hq => Nat.lt_of_lt_of_le (hbo3 q hq) hE'.size
      replace hyx := imp_ex hyx (fun x h2 => h2.keep hE' (fun _ _ h => h))
      have h0s := hE'.size
      refine kl_ow rfl (ow_store (b := b10) (o := 0) I53 S53 rfl (v := .agg ys.toArray) (xs := ys) rfl hbb10 rfl hyl (by rw [hyl]; simp) hyo (fun w6 hb7 hf7 hz7 => ?_))
      have hz7' : w4.heap.size ≤ w6.heap.size := Nat.le_trans hE'.size hf7.size
      replace hbb10 := bx_eq hb7 (splice_all (by rw [hyl]; simp))
      have h4 := hE'.size
      replace hsl := hsl.keep hf7 (fun q hq e => by have e' : q = b10 := e; have := hbo3' q hq; omega)
      replace hb := hb.keep hf7 (fun q hq e => by have e' : q = b10 := e; have := hB' q hq; omega)
      replace hE := hE.trans' hf7 (fun q hq e => absurd e (by omega))
      replace hyx := imp_ex hyx (fun x h2 => h2.keep hf7 (fun q hq e => by have e' : q = b10 := e; have := hB4 q hq; omega))
      replace hB := fun q hq => Nat.lt_of_lt_of_le (hB q hq) hf7.size
      replace hbo3 := fun q hq => Nat.lt_of_lt_of_le (hbo3 q hq) hf7.size
      clear hf7 hz7 he0 hz0 h0s h4 hB' hbo3'
      replace hB4 : ∀ q, B4 q → q < w6.heap.size := fun q hq => by have := hB4 q hq; have := hz7'; omega
      refine kl_val (y_assign) rfl rfl rfl ?_
      refine kl_nil ?_
      refine x_seq ?_
      refine k_seq ?_
      refine k_region ?_
      refine kl_val (y_move) rfl rfl rfl ?_
      refine kl_ow rfl (ow_call1 fn34 rfl rfl rfl (ReadList_R hb hB) (kret_ret (fun u w7 ⟨hE', hW⟩ => ?_)))
      obtain ⟨zs, e2, rfl, hzl, hzo, hzx⟩ := hW.three (n := 99) ⟨by simp, zoneList⟩ (fun cs x h => ⟨h.length, h.one⟩) (fun e he => er_whole er_lst he)
      clear hW
      have hzx : e2 = 0 → ∃ x, pWhole pLst c = .ok x ∧ LstR w7 (fun q => q < w7.heap.size) zs x := fun h0 => by obtain ⟨x, h1, h2⟩ := hzx h0; exact ⟨x, h1, h2.mono (fun q hq => hq.2)⟩
      obtain ⟨B7, hB7⟩ : ∃ B7 : Nat → Prop, B7 = fun q => q < w7.heap.size := ⟨_, rfl⟩
      rw [← hB7] at hzx
      replace hB7 : ∀ q, B7 q → q < w7.heap.size := fun q hq => by rw [hB7] at hq; exact hq
      have hlt10 := hbb10.lt
      replace hB4 := fun q hq => Nat.lt_of_lt_of_le (hB4 q hq) hE'.size
      replace hb := hb.keep hE' (fun _ _ h => h)
      replace hsl := hsl.keep hE' (fun _ _ h => h)
      replace hE := hE.trans hE'
      replace hB := fun q hq => Nat.lt_of_lt_of_le (hB q hq) hE'.size
      replace hbo3 := fun q hq => Nat.lt_of_lt_of_le (hbo3 q hq) hE'.size
      replace hbb10 := hbb10.keep hE' (fun h => h)
      replace hyx := imp_ex hyx (fun x h2 => h2.keep hE' (fun _ _ h => h))
      refine kl_val (y_move) rfl rfl rfl ?_
      refine kl_val (y_extract rfl rfl) rfl rfl rfl ?_
      refine kl_val (y_extract rfl rfl) rfl rfl rfl ?_
      have hB' := hB
      have hbo3' := hbo3
      have hEs := hE.size
      have hlt10' := hbb10.lt
      refine kl_ow rfl (ow_alloc I47 Z47 rfl (fun w8 b12 hbb12 hE' he0 hz0 => ?_))
      replace hbb12 := bx_eq hbb12 (show _ = ([Value.int .i64 0, Value.int .i64 0] ++ List.replicate 32 (Value.int .u8 0) ++ [Value.slice none 0 0] ++ List.replicate 64 (Value.int .u8 0) : List Value) from rfl)
      replace hb := hb.keep hE' (fun _ _ h => h)
      replace hsl := hsl.keep hE' (fun _ _ h => h)
      replace hE := hE.trans hE'
      replace hB := fun q hq => Nat.lt_of_lt_of_le (hB q hq) hE'.size
      replace hbo3 := fun q hq => Nat.lt_of_lt_of_le (hbo3 q hq) hE'.size
      replace hbb10 := hbb10.keep hE' (fun h => h)
      replace hyx := imp_ex hyx (fun x h2 => h2.keep hE' (fun _ _ h => h))
      replace hzx := imp_ex hzx (fun x h2 => h2.keep hE' (fun _ _ h => h))
      have h0s := hE'.size
      refine kl_ow rfl (ow_store (b := b12) (o := 0) I47 S47 rfl (v := .agg zs.toArray) (xs := zs) rfl hbb12 rfl hzl (by rw [hzl]; simp) hzo (fun w9 hb7 hf7 hz7 => ?_))
      have hz7' : w7.heap.size ≤ w9.heap.size := Nat.le_trans hE'.size hf7.size
      replace hbb10 := hbb10.keep hf7 (fun e => by have e' : b10 = b12 := e; omega)
      replace hbb12 := bx_eq hb7 (splice_all (by rw [hzl]; simp))
      have h4 := hE'.size
      replace hsl := hsl.keep hf7 (fun q hq e => by have e' : q = b12 := e; have := hbo3' q hq; omega)
      replace hb := hb.keep hf7 (fun q hq e => by have e' : q = b12 := e; have := hB' q hq; omega)
      replace hE := hE.trans' hf7 (fun q hq e => absurd e (by omega))
      replace hyx := imp_ex hyx (fun x h2 => h2.keep hf7 (fun q hq e => by have e' : q = b12 := e; have := hB4 q hq; omega))
      replace hzx := imp_ex hzx (fun x h2 => h2.keep hf7 (fun q hq e => by have e' : q = b12 := e; have := hB7 q hq; omega))
      replace hB := fun q hq => Nat.lt_of_lt_of_le (hB q hq) hf7.size
      replace hbo3 := fun q hq => Nat.lt_of_lt_of_le (hbo3 q hq) hf7.size
      clear hf7 hz7 he0 hz0 h0s h4 hB' hbo3'
      replace hB4 : ∀ q, B4 q → q < w9.heap.size := fun q hq => by have := hB4 q hq; omega
      replace hB7 : ∀ q, B7 q → q < w9.heap.size := fun q hq => by have := hB7 q hq; omega
      refine kl_val (y_assign) rfl rfl rfl ?_
      refine kl_nil ?_
      refine x_seq ?_
      refine k_seq ?_
      refine k_region ?_
      refine kl_val (y_move) rfl rfl rfl ?_
      refine kl_ow rfl (ow_call1 fn10 rfl rfl rfl (ReadUsers_R hb hB) (kret_ret (fun u wN ⟨hE', hW⟩ => ?_)))
      obtain ⟨us, e3, rfl, hux⟩ := hW.two (fun e he => er_whole (er_all er_usr) he)
      clear hW
      have hux : e3 = 0 → ∃ x, pWhole pUsers c = .ok x ∧ SlX UsrR 3 wN (fun q => q < wN.heap.size) us x := fun h0 => by obtain ⟨x, h1, h2⟩ := hux h0; exact ⟨x, h1, h2.mono (fun q hq => hq.2) (fun _ _ h => ⟨h.eq⟩)⟩
      obtain ⟨BN, hBN⟩ : ∃ BN : Nat → Prop, BN = fun q => q < wN.heap.size := ⟨_, rfl⟩
      rw [← hBN] at hux
      replace hBN : ∀ q, BN q → q < wN.heap.size := fun q hq => by rw [hBN] at hq; exact hq
      replace hB4 := fun q hq => Nat.lt_of_lt_of_le (hB4 q hq) hE'.size
      replace hB7 := fun q hq => Nat.lt_of_lt_of_le (hB7 q hq) hE'.size
      replace hb := hb.keep hE' (fun _ _ h => h)
      replace hsl := hsl.keep hE' (fun _ _ h => h)
      replace hE := hE.trans hE'
      replace hB := fun q hq => Nat.lt_of_lt_of_le (hB q hq) hE'.size
      replace hbo3 := fun q hq => Nat.lt_of_lt_of_le (hbo3 q hq) hE'.size
      replace hbb10 := hbb10.keep hE' (fun h => h)
      replace hbb12 := hbb12.keep hE' (fun h => h)
      replace hyx := imp_ex hyx (fun x h2 => h2.keep hE' (fun _ _ h => h))
      replace hzx := imp_ex hzx (fun x h2 => h2.keep hE' (fun _ _ h => h))
      refine kl_val (y_move) rfl rfl rfl ?_
      refine kl_val (y_extract rfl rfl) rfl rfl rfl ?_
      refine kl_val (y_extract rfl rfl) rfl rfl rfl ?_
      refine kl_val (y_assign) rfl rfl rfl ?_
      refine kl_val (y_assign) rfl rfl rfl ?_
      refine kl_nil ?_
      refine x_seq ?_
      refine k_seq ?_
      refine k_regionD (S := fun w' => Bx w' b10 53 ys ∧ Bx w' b12 47 zs ∧ SlR w' (fun q => q = bo) (.slice (some ⟨bo, 0, none⟩) bs.length co) 1 bs.length (bvs bs) ∧ SlR w' B (.slice va c.length vc) 1 c.length (bvs c)) [] [(0, false), (1, true), (2, true), (3, true), (4, true), (5, true), (8, true), (9, true), (6, false), (7, true), (10, true), (11, true), (12, true), (13, true), (14, true), (15, true), (16, true), (17, true), (20, true), (21, true), (18, false), (19, true), (22, true), (23, true), (24, true), (25, true), (26, true), (27, true), (28, true), (29, true), (32, true), (33, true), (30, false), (31, true), (34, true), (35, true), (36, true), (37, true)] mixed (fun _ _ _ _ _ h => h) (by kernel_rfl) ?_
      have hE' : Ext wN wN.drew := Fr.drew1 _ _
      have hS10 : (fun w' => Bx w' b10 53 ys ∧ Bx w' b12 47 zs ∧ SlR w' (fun q => q = bo) (.slice (some ⟨bo, 0, none⟩) bs.length co) 1 bs.length (bvs bs) ∧ SlR w' B (.slice va c.length vc) 1 c.length (bvs c)) wN.drew := ⟨hbb10.keep hE' (fun h => h), hbb12.keep hE' (fun h => h), hsl.keep hE' (fun _ _ h => h), hb.keep hE' (fun _ _ h => h)⟩
      replace hE := hE.trans hE'
      replace hB4 := fun q hq => Nat.lt_of_lt_of_le (hB4 q hq) hE'.size
      replace hB7 := fun q hq => Nat.lt_of_lt_of_le (hB7 q hq) hE'.size
      replace hBN := fun q hq => Nat.lt_of_lt_of_le (hBN q hq) hE'.size
      replace hyx := imp_ex hyx (fun x h2 => h2.keep hE' (fun _ _ h => h))
      replace hzx := imp_ex hzx (fun x h2 => h2.keep hE' (fun _ _ h => h))
      replace hux := imp_ex hux (fun x h2 => h2.keep hE' (fun _ _ h => h) (fun _ _ h => ⟨h.eq⟩))
      refine kr_ow rfl rfl (ow_call0 fn11 rfl rfl (known_R) (kret_ret (fun u wk ⟨hu, hE'⟩ => ?_)))
      subst hu
      replace hS10 := And.intro (hS10.1.keep hE' (fun h => h)) (And.intro (hS10.2.1.keep hE' (fun h => h)) (And.intro (hS10.2.2.1.keep hE' (fun _ _ h => h)) (hS10.2.2.2.keep hE' (fun _ _ h => h))))
      replace hE := hE.trans hE'
      replace hB4 := fun q hq => Nat.lt_of_lt_of_le (hB4 q hq) hE'.size
      replace hB7 := fun q hq => Nat.lt_of_lt_of_le (hB7 q hq) hE'.size
      replace hBN := fun q hq => Nat.lt_of_lt_of_le (hBN q hq) hE'.size
      replace hyx := imp_ex hyx (fun x h2 => h2.keep hE' (fun _ _ h => h))
      replace hzx := imp_ex hzx (fun x h2 => h2.keep hE' (fun _ _ h => h))
      replace hux := imp_ex hux (fun x h2 => h2.keep hE' (fun _ _ h => h) (fun _ _ h => ⟨h.eq⟩))
      refine ⟨(fun _ => hS10), ?_⟩
      refine kr_val rfl (hS10) (fun w' hS' => y_move) rfl rfl rfl ?_
      first | refine kr_skipG rfl (hS10) rfl rfl rfl rfl rfl rfl ?_ | refine kr_valG rfl (hS10) (fun w' hS' => y_move) rfl rfl rfl rfl rfl ?_
      by_cases h1 : e1 = 0
      · skip
        first | refine kr_skipG rfl (hS10) rfl rfl rfl rfl rfl rfl ?_ | refine kr_valG rfl (hS10) (fun w' hS' => yb (b := false) (y_neq rfl rfl) (eqF (fun e => e (by rw [h1]; rfl)))) rfl rfl rfl rfl rfl ?_
        first | refine kr_skipG rfl (hS10) rfl rfl rfl rfl rfl rfl ?_ | refine kr_valG rfl (hS10) (fun w' hS' => y_move) rfl rfl rfl rfl rfl ?_
        first | refine kr_skipG rfl (hS10) rfl rfl rfl rfl rfl rfl ?_ | refine kr_valG rfl (hS10) (fun w' hS' => y_load rfl (ld_aggB Try.underlying53 rfl I53 S53 hyl hS'.1.cs)) rfl rfl rfl rfl rfl ?_
        first | refine kr_skipG rfl (hS10) rfl rfl rfl rfl rfl rfl ?_ | refine kr_valG rfl (hS10) (fun w' hS' => y_move) rfl rfl rfl rfl rfl ?_
        first | refine kr_skipG rfl (hS10) rfl rfl rfl rfl rfl rfl ?_ | refine kr_valG rfl (hS10) (fun w' hS' => y_b2s Try.underlying22 Try.underlying5 Try.underlying9 rfl hS'.2.2.1) rfl rfl rfl rfl rfl ?_
        refine Exists.elim (hyx h1) (fun x hxx => ?_)
        have hx1 := hxx.1
        have hx2 := hxx.2
        have hx345 := pWhole_b (fun _ _ _ => pReq_b) hx1
        have hx3 := hx345.1
        have hx4 := hx345.2.1
        have hx5 := hx345.2.2
        have hxl : (wReq x).length ≤ 60000 := hx3 ▸ hx5
        refine kr_owGS rfl rfl rfl rfl (ow_call1 fn20 rfl rfl rfl (Request_W hx2 hB4 (by omega) ⟨by have := hx4.list.dl; omega, by have := hx4.ol; omega, by have := hx4.il; omega, fun q hq => by have := (hx4.items q hq).env.one.1; omega⟩) (kret_ret (fun v1 wr hO1 => ?_)))
        have hE' := hO1.ext
        replace hS10 := And.intro (hS10.1.keep hE' (fun h => h)) (And.intro (hS10.2.1.keep hE' (fun h => h)) (And.intro (hS10.2.2.1.keep hE' (fun _ _ h => h)) (hS10.2.2.2.keep hE' (fun _ _ h => h))))
        replace hE := hE.trans hE'
        replace hB4 := fun q hq => Nat.lt_of_lt_of_le (hB4 q hq) hE'.size
        replace hB7 := fun q hq => Nat.lt_of_lt_of_le (hB7 q hq) hE'.size
        replace hBN := fun q hq => Nat.lt_of_lt_of_le (hBN q hq) hE'.size
        replace hyx := imp_ex hyx (fun x h2 => h2.keep hE' (fun _ _ h => h))
        replace hzx := imp_ex hzx (fun x h2 => h2.keep hE' (fun _ _ h => h))
        replace hux := imp_ex hux (fun x h2 => h2.keep hE' (fun _ _ h => h) (fun _ _ h => ⟨h.eq⟩))
        have hq : SlR wr (ownB v1) v1 1 (wReq x).length (bvs (wReq x)) := SlR.ofOwn hO1.own (fun _ h => h)
        refine ⟨(fun _ => hS10), (fun w' => (Bx w' b10 53 ys ∧ Bx w' b12 47 zs ∧ SlR w' (fun q => q = bo) (.slice (some ⟨bo, 0, none⟩) bs.length co) 1 bs.length (bvs bs) ∧ SlR w' B (.slice va c.length vc) 1 c.length (bvs c)) ∧ SlR w' (ownB v1) v1 1 (wReq x).length (bvs (wReq x))), (fun _ h => h.1), ?_⟩
        replace hS10 := And.intro hS10 hq
        first | refine kr_skipG rfl (hS10) rfl rfl rfl rfl rfl rfl ?_ | refine kr_valG rfl (hS10) (fun w' hS' => y_b2s Try.underlying22 Try.underlying5 Try.underlying9 rfl hS'.2) rfl rfl rfl rfl rfl ?_
        first | refine kr_skipG rfl (hS10) rfl rfl rfl rfl rfl rfl ?_ | refine kr_valG rfl (hS10) (fun w' hS' => yb (b := true) (y_seql rfl rfl) (baT hx3.symm)) rfl rfl rfl rfl rfl ?_
        first | refine kr_skipG rfl (hS10) rfl rfl rfl rfl rfl rfl ?_ | refine kr_valG rfl (hS10) (fun w' hS' => by first | exact y_pickT rfl | exact y_pickF rfl) rfl rfl rfl rfl rfl ?_
        refine kr_val rfl (hS10) (fun w' hS' => by first | exact y_pickT rfl | exact y_pickF rfl) rfl rfl rfl ?_
        refine kr_val rfl (hS10) (fun w' hS' => y_move) rfl rfl rfl ?_
        first | refine kr_skipG rfl (hS10) rfl rfl rfl rfl rfl rfl ?_ | refine kr_valG rfl (hS10) (fun w' hS' => y_move) rfl rfl rfl rfl rfl ?_
        by_cases h2 : e2 = 0
        · skip
          first | refine kr_skipG rfl (hS10) rfl rfl rfl rfl rfl rfl ?_ | refine kr_valG rfl (hS10) (fun w' hS' => yb (b := false) (y_neq rfl rfl) (eqF (fun e => e (by rw [h2]; rfl)))) rfl rfl rfl rfl rfl ?_
          first | refine kr_skipG rfl (hS10) rfl rfl rfl rfl rfl rfl ?_ | refine kr_valG rfl (hS10) (fun w' hS' => y_move) rfl rfl rfl rfl rfl ?_
          first | refine kr_skipG rfl (hS10) rfl rfl rfl rfl rfl rfl ?_ | refine kr_valG rfl (hS10) (fun w' hS' => y_load rfl (ld_aggB Try.underlying47 rfl I47 S47 hzl hS'.1.2.1.cs)) rfl rfl rfl rfl rfl ?_
          first | refine kr_skipG rfl (hS10) rfl rfl rfl rfl rfl rfl ?_ | refine kr_valG rfl (hS10) (fun w' hS' => y_move) rfl rfl rfl rfl rfl ?_
          first | refine kr_skipG rfl (hS10) rfl rfl rfl rfl rfl rfl ?_ | refine kr_valG rfl (hS10) (fun w' hS' => y_b2s Try.underlying22 Try.underlying5 Try.underlying9 rfl hS'.1.2.2.2) rfl rfl rfl rfl rfl ?_
          refine Exists.elim (hzx h2) (fun xl hxx => ?_)
          have hl1 := hxx.1
          have hl2 := hxx.2
          have hl345 := pWhole_b (fun _ _ _ => pLst_b) hl1
          have hl3 := hl345.1
          have hl4 := hl345.2.1
          have hl5 := hl345.2.2
          have hll : (wLst xl).length ≤ 60000 := hl3 ▸ hl5
          refine kr_owGS rfl rfl rfl rfl (ow_call1 fn17 rfl rfl rfl (List_W hl2 hB7 (by omega) (by have := hl4.dl; omega)) (kret_ret (fun v2 wl hO2 => ?_)))
          have hE' := hO2.ext
          replace hS10 := (And.intro (And.intro (hS10.1.1.keep hE' (fun h => h)) (And.intro (hS10.1.2.1.keep hE' (fun h => h)) (And.intro (hS10.1.2.2.1.keep hE' (fun _ _ h => h)) (hS10.1.2.2.2.keep hE' (fun _ _ h => h))))) (hS10.2.keep hE' (fun _ _ h => h)))
          replace hE := hE.trans hE'
          replace hB4 := fun q hq => Nat.lt_of_lt_of_le (hB4 q hq) hE'.size
          replace hB7 := fun q hq => Nat.lt_of_lt_of_le (hB7 q hq) hE'.size
          replace hBN := fun q hq => Nat.lt_of_lt_of_le (hBN q hq) hE'.size
          replace hyx := imp_ex hyx (fun x h2 => h2.keep hE' (fun _ _ h => h))
          replace hzx := imp_ex hzx (fun x h2 => h2.keep hE' (fun _ _ h => h))
          replace hux := imp_ex hux (fun x h2 => h2.keep hE' (fun _ _ h => h) (fun _ _ h => ⟨h.eq⟩))
          have hq : SlR wl (ownB v2) v2 1 (wLst xl).length (bvs (wLst xl)) := SlR.ofOwn hO2.own (fun _ h => h)
          refine ⟨(fun _ => hS10), (fun w' => ((Bx w' b10 53 ys ∧ Bx w' b12 47 zs ∧ SlR w' (fun q => q = bo) (.slice (some ⟨bo, 0, none⟩) bs.length co) 1 bs.length (bvs bs) ∧ SlR w' B (.slice va c.length vc) 1 c.length (bvs c)) ∧ SlR w' (ownB v1) v1 1 (wReq x).length (bvs (wReq x))) ∧ SlR w' (ownB v2) v2 1 (wLst xl).length (bvs (wLst xl))), (fun _ h => h.1), ?_⟩
          replace hS10 := And.intro hS10 hq
          first | refine kr_skipG rfl (hS10) rfl rfl rfl rfl rfl rfl ?_ | refine kr_valG rfl (hS10) (fun w' hS' => y_b2s Try.underlying22 Try.underlying5 Try.underlying9 rfl hS'.2) rfl rfl rfl rfl rfl ?_
          first | refine kr_skipG rfl (hS10) rfl rfl rfl rfl rfl rfl ?_ | refine kr_valG rfl (hS10) (fun w' hS' => yb (b := true) (y_seql rfl rfl) (baT hl3.symm)) rfl rfl rfl rfl rfl ?_
          first | refine kr_skipG rfl (hS10) rfl rfl rfl rfl rfl rfl ?_ | refine kr_valG rfl (hS10) (fun w' hS' => by first | exact y_pickT rfl | exact y_pickF rfl) rfl rfl rfl rfl rfl ?_
          refine kr_val rfl (hS10) (fun w' hS' => by first | exact y_pickT rfl | exact y_pickF rfl) rfl rfl rfl ?_
          refine kr_val rfl (hS10) (fun w' hS' => y_move) rfl rfl rfl ?_
          first | refine kr_skipG rfl (hS10) rfl rfl rfl rfl rfl rfl ?_ | refine kr_valG rfl (hS10) (fun w' hS' => y_move) rfl rfl rfl rfl rfl ?_
          by_cases h3 : e3 = 0
          · skip
            first | refine kr_skipG rfl (hS10) rfl rfl rfl rfl rfl rfl ?_ | refine kr_valG rfl (hS10) (fun w' hS' => yb (b := false) (y_neq rfl rfl) (eqF (fun e => e (by rw [h3]; rfl)))) rfl rfl rfl rfl rfl ?_
            first | refine kr_skipG rfl (hS10) rfl rfl rfl rfl rfl rfl ?_ | refine kr_valG rfl (hS10) (fun w' hS' => y_move) rfl rfl rfl rfl rfl ?_
            first | refine kr_skipG rfl (hS10) rfl rfl rfl rfl rfl rfl ?_ | refine kr_valG rfl (hS10) (fun w' hS' => y_move) rfl rfl rfl rfl rfl ?_
            first | refine kr_skipG rfl (hS10) rfl rfl rfl rfl rfl rfl ?_ | refine kr_valG rfl (hS10) (fun w' hS' => y_move) rfl rfl rfl rfl rfl ?_
            first | refine kr_skipG rfl (hS10) rfl rfl rfl rfl rfl rfl ?_ | refine kr_valG rfl (hS10) (fun w' hS' => y_b2s Try.underlying22 Try.underlying5 Try.underlying9 rfl hS'.1.1.2.2.2) rfl rfl rfl rfl rfl ?_
            refine Exists.elim (hux h3) (fun xu hxx => ?_)
            have hu1 := hxx.1
            have hu2 := hxx.2
            have hu345 := pUsers_b hu1
            have hu3 := hu345.1
            have hu4 := hu345.2.1
            have hu5 := hu345.2.2
            have hul : (wEach wUsr xu).length ≤ 60000 := hu3 ▸ hu5
            refine kr_owGS rfl rfl rfl rfl (ow_call1 fn9 rfl rfl rfl (Users_W hu2 hBN (by omega) (by omega)) (kret_ret (fun v3 wu hO3 => ?_)))
            have hE' := hO3.ext
            replace hS10 := (And.intro (And.intro (And.intro (hS10.1.1.1.keep hE' (fun h => h)) (And.intro (hS10.1.1.2.1.keep hE' (fun h => h)) (And.intro (hS10.1.1.2.2.1.keep hE' (fun _ _ h => h)) (hS10.1.1.2.2.2.keep hE' (fun _ _ h => h))))) (hS10.1.2.keep hE' (fun _ _ h => h))) (hS10.2.keep hE' (fun _ _ h => h)))
            replace hE := hE.trans hE'
            replace hB4 := fun q hq => Nat.lt_of_lt_of_le (hB4 q hq) hE'.size
            replace hB7 := fun q hq => Nat.lt_of_lt_of_le (hB7 q hq) hE'.size
            replace hBN := fun q hq => Nat.lt_of_lt_of_le (hBN q hq) hE'.size
            replace hyx := imp_ex hyx (fun x h2 => h2.keep hE' (fun _ _ h => h))
            replace hzx := imp_ex hzx (fun x h2 => h2.keep hE' (fun _ _ h => h))
            replace hux := imp_ex hux (fun x h2 => h2.keep hE' (fun _ _ h => h) (fun _ _ h => ⟨h.eq⟩))
            have hq : SlR wu (ownB v3) v3 1 (wEach wUsr xu).length (bvs (wEach wUsr xu)) := SlR.ofOwn hO3.own (fun _ h => h)
            refine ⟨(fun _ => hS10), (fun w' => (((Bx w' b10 53 ys ∧ Bx w' b12 47 zs ∧ SlR w' (fun q => q = bo) (.slice (some ⟨bo, 0, none⟩) bs.length co) 1 bs.length (bvs bs) ∧ SlR w' B (.slice va c.length vc) 1 c.length (bvs c)) ∧ SlR w' (ownB v1) v1 1 (wReq x).length (bvs (wReq x))) ∧ SlR w' (ownB v2) v2 1 (wLst xl).length (bvs (wLst xl))) ∧ SlR w' (ownB v3) v3 1 (wEach wUsr xu).length (bvs (wEach wUsr xu))), (fun _ h => h.1), ?_⟩
            replace hS10 := And.intro hS10 hq
            first | refine kr_skipG rfl (hS10) rfl rfl rfl rfl rfl rfl ?_ | refine kr_valG rfl (hS10) (fun w' hS' => y_b2s Try.underlying22 Try.underlying5 Try.underlying9 rfl hS'.2) rfl rfl rfl rfl rfl ?_
            first | refine kr_skipG rfl (hS10) rfl rfl rfl rfl rfl rfl ?_ | refine kr_valG rfl (hS10) (fun w' hS' => yb (b := true) (y_seql rfl rfl) (baT hu3.symm)) rfl rfl rfl rfl rfl ?_
            first | refine kr_skipG rfl (hS10) rfl rfl rfl rfl rfl rfl ?_ | refine kr_valG rfl (hS10) (fun w' hS' => by first | exact y_pickT rfl | exact y_pickF rfl) rfl rfl rfl rfl rfl ?_
            refine kr_val rfl (hS10) (fun w' hS' => by first | exact y_pickT rfl | exact y_pickF rfl) rfl rfl rfl ?_
            refine kr_val rfl (hS10) (fun w' hS' => y_assign) rfl rfl rfl ?_
            refine kr_nil ?_
            refine x_seq ?_
            refine k_ret ?_
            exact k_ret1 rfl rfl ⟨_, rfl, rfl, hE⟩
          · skip
            first | refine kr_skipG rfl (hS10) rfl rfl rfl rfl rfl rfl ?_ | refine kr_valG rfl (hS10) (fun w' hS' => yb (b := true) (y_neq rfl rfl) (eqT (fun e => h3 (by omega)))) rfl rfl rfl rfl rfl ?_
            first | refine kr_skipG rfl (hS10) rfl rfl rfl rfl rfl rfl ?_ | refine kr_valG rfl (hS10) (fun w' hS' => y_move) rfl rfl rfl rfl rfl ?_
            first | refine kr_skipG rfl (hS10) rfl rfl rfl rfl rfl rfl ?_ | refine kr_valG rfl (hS10) (fun w' hS' => y_move) rfl rfl rfl rfl rfl ?_
            first | refine kr_skipG rfl (hS10) rfl rfl rfl rfl rfl rfl ?_ | refine kr_valG rfl (hS10) (fun w' hS' => y_move) rfl rfl rfl rfl rfl ?_
            first | refine kr_skipG rfl (hS10) rfl rfl rfl rfl rfl rfl ?_ | refine kr_valG rfl (hS10) (fun w' hS' => y_move) rfl rfl rfl rfl rfl ?_
            refine kr_skipS rfl (fun _ => hS10) rfl rfl rfl rfl rfl rfl ?_
            first | refine kr_skipG rfl (hS10) rfl rfl rfl rfl rfl rfl ?_ | refine kr_valG rfl (hS10) (fun w' hS' => y_move) rfl rfl rfl rfl rfl ?_
            first | refine kr_skipG rfl (hS10) rfl rfl rfl rfl rfl rfl ?_ | refine kr_valG rfl (hS10) (fun w' hS' => y_move) rfl rfl rfl rfl rfl ?_
            first | refine kr_skipG rfl (hS10) rfl rfl rfl rfl rfl rfl ?_ | refine kr_valG rfl (hS10) (fun w' hS' => by first | exact y_pickT rfl | exact y_pickF rfl) rfl rfl rfl rfl rfl ?_
            refine kr_val rfl (hS10) (fun w' hS' => by first | exact y_pickT rfl | exact y_pickF rfl) rfl rfl rfl ?_
            refine kr_val rfl (hS10) (fun w' hS' => y_assign) rfl rfl rfl ?_
            refine kr_nil ?_
            refine x_seq ?_
            refine k_ret ?_
            exact k_ret1 rfl rfl ⟨_, rfl, rfl, hE⟩
        · skip
          first | refine kr_skipG rfl (hS10) rfl rfl rfl rfl rfl rfl ?_ | refine kr_valG rfl (hS10) (fun w' hS' => yb (b := true) (y_neq rfl rfl) (eqT (fun e => h2 (by omega)))) rfl rfl rfl rfl rfl ?_
          first | refine kr_skipG rfl (hS10) rfl rfl rfl rfl rfl rfl ?_ | refine kr_valG rfl (hS10) (fun w' hS' => y_move) rfl rfl rfl rfl rfl ?_
          first | refine kr_skipG rfl (hS10) rfl rfl rfl rfl rfl rfl ?_ | refine kr_valG rfl (hS10) (fun w' hS' => y_move) rfl rfl rfl rfl rfl ?_
          first | refine kr_skipG rfl (hS10) rfl rfl rfl rfl rfl rfl ?_ | refine kr_valG rfl (hS10) (fun w' hS' => y_move) rfl rfl rfl rfl rfl ?_
          first | refine kr_skipG rfl (hS10) rfl rfl rfl rfl rfl rfl ?_ | refine kr_valG rfl (hS10) (fun w' hS' => y_move) rfl rfl rfl rfl rfl ?_
          refine kr_skipS rfl (fun _ => hS10) rfl rfl rfl rfl rfl rfl ?_
          first | refine kr_skipG rfl (hS10) rfl rfl rfl rfl rfl rfl ?_ | refine kr_valG rfl (hS10) (fun w' hS' => y_move) rfl rfl rfl rfl rfl ?_
          first | refine kr_skipG rfl (hS10) rfl rfl rfl rfl rfl rfl ?_ | refine kr_valG rfl (hS10) (fun w' hS' => y_move) rfl rfl rfl rfl rfl ?_
          first | refine kr_skipG rfl (hS10) rfl rfl rfl rfl rfl rfl ?_ | refine kr_valG rfl (hS10) (fun w' hS' => by first | exact y_pickT rfl | exact y_pickF rfl) rfl rfl rfl rfl rfl ?_
          refine kr_val rfl (hS10) (fun w' hS' => by first | exact y_pickT rfl | exact y_pickF rfl) rfl rfl rfl ?_
          refine kr_val rfl (hS10) (fun w' hS' => y_move) rfl rfl rfl ?_
          first | refine kr_skipG rfl (hS10) rfl rfl rfl rfl rfl rfl ?_ | refine kr_valG rfl (hS10) (fun w' hS' => y_move) rfl rfl rfl rfl rfl ?_
          by_cases h3 : e3 = 0
          · skip
            first | refine kr_skipG rfl (hS10) rfl rfl rfl rfl rfl rfl ?_ | refine kr_valG rfl (hS10) (fun w' hS' => yb (b := false) (y_neq rfl rfl) (eqF (fun e => e (by rw [h3]; rfl)))) rfl rfl rfl rfl rfl ?_
            first | refine kr_skipG rfl (hS10) rfl rfl rfl rfl rfl rfl ?_ | refine kr_valG rfl (hS10) (fun w' hS' => y_move) rfl rfl rfl rfl rfl ?_
            first | refine kr_skipG rfl (hS10) rfl rfl rfl rfl rfl rfl ?_ | refine kr_valG rfl (hS10) (fun w' hS' => y_move) rfl rfl rfl rfl rfl ?_
            first | refine kr_skipG rfl (hS10) rfl rfl rfl rfl rfl rfl ?_ | refine kr_valG rfl (hS10) (fun w' hS' => y_move) rfl rfl rfl rfl rfl ?_
            first | refine kr_skipG rfl (hS10) rfl rfl rfl rfl rfl rfl ?_ | refine kr_valG rfl (hS10) (fun w' hS' => y_b2s Try.underlying22 Try.underlying5 Try.underlying9 rfl hS'.1.2.2.2) rfl rfl rfl rfl rfl ?_
            refine Exists.elim (hux h3) (fun xu hxx => ?_)
            have hu1 := hxx.1
            have hu2 := hxx.2
            have hu345 := pUsers_b hu1
            have hu3 := hu345.1
            have hu4 := hu345.2.1
            have hu5 := hu345.2.2
            have hul : (wEach wUsr xu).length ≤ 60000 := hu3 ▸ hu5
            refine kr_owGS rfl rfl rfl rfl (ow_call1 fn9 rfl rfl rfl (Users_W hu2 hBN (by omega) (by omega)) (kret_ret (fun v3 wu hO3 => ?_)))
            have hE' := hO3.ext
            replace hS10 := (And.intro (And.intro (hS10.1.1.keep hE' (fun h => h)) (And.intro (hS10.1.2.1.keep hE' (fun h => h)) (And.intro (hS10.1.2.2.1.keep hE' (fun _ _ h => h)) (hS10.1.2.2.2.keep hE' (fun _ _ h => h))))) (hS10.2.keep hE' (fun _ _ h => h)))
            replace hE := hE.trans hE'
            replace hB4 := fun q hq => Nat.lt_of_lt_of_le (hB4 q hq) hE'.size
            replace hB7 := fun q hq => Nat.lt_of_lt_of_le (hB7 q hq) hE'.size
            replace hBN := fun q hq => Nat.lt_of_lt_of_le (hBN q hq) hE'.size
            replace hyx := imp_ex hyx (fun x h2 => h2.keep hE' (fun _ _ h => h))
            replace hzx := imp_ex hzx (fun x h2 => h2.keep hE' (fun _ _ h => h))
            replace hux := imp_ex hux (fun x h2 => h2.keep hE' (fun _ _ h => h) (fun _ _ h => ⟨h.eq⟩))
            have hq : SlR wu (ownB v3) v3 1 (wEach wUsr xu).length (bvs (wEach wUsr xu)) := SlR.ofOwn hO3.own (fun _ h => h)
            refine ⟨(fun _ => hS10), (fun w' => ((Bx w' b10 53 ys ∧ Bx w' b12 47 zs ∧ SlR w' (fun q => q = bo) (.slice (some ⟨bo, 0, none⟩) bs.length co) 1 bs.length (bvs bs) ∧ SlR w' B (.slice va c.length vc) 1 c.length (bvs c)) ∧ SlR w' (ownB v1) v1 1 (wReq x).length (bvs (wReq x))) ∧ SlR w' (ownB v3) v3 1 (wEach wUsr xu).length (bvs (wEach wUsr xu))), (fun _ h => h.1), ?_⟩
            replace hS10 := And.intro hS10 hq
            first | refine kr_skipG rfl (hS10) rfl rfl rfl rfl rfl rfl ?_ | refine kr_valG rfl (hS10) (fun w' hS' => y_b2s Try.underlying22 Try.underlying5 Try.underlying9 rfl hS'.2) rfl rfl rfl rfl rfl ?_
            first | refine kr_skipG rfl (hS10) rfl rfl rfl rfl rfl rfl ?_ | refine kr_valG rfl (hS10) (fun w' hS' => yb (b := true) (y_seql rfl rfl) (baT hu3.symm)) rfl rfl rfl rfl rfl ?_
            first | refine kr_skipG rfl (hS10) rfl rfl rfl rfl rfl rfl ?_ | refine kr_valG rfl (hS10) (fun w' hS' => by first | exact y_pickT rfl | exact y_pickF rfl) rfl rfl rfl rfl rfl ?_
            refine kr_val rfl (hS10) (fun w' hS' => by first | exact y_pickT rfl | exact y_pickF rfl) rfl rfl rfl ?_
            refine kr_val rfl (hS10) (fun w' hS' => y_assign) rfl rfl rfl ?_
            refine kr_nil ?_
            refine x_seq ?_
            refine k_ret ?_
            exact k_ret1 rfl rfl ⟨_, rfl, rfl, hE⟩
          · skip
            first | refine kr_skipG rfl (hS10) rfl rfl rfl rfl rfl rfl ?_ | refine kr_valG rfl (hS10) (fun w' hS' => yb (b := true) (y_neq rfl rfl) (eqT (fun e => h3 (by omega)))) rfl rfl rfl rfl rfl ?_
            first | refine kr_skipG rfl (hS10) rfl rfl rfl rfl rfl rfl ?_ | refine kr_valG rfl (hS10) (fun w' hS' => y_move) rfl rfl rfl rfl rfl ?_
            first | refine kr_skipG rfl (hS10) rfl rfl rfl rfl rfl rfl ?_ | refine kr_valG rfl (hS10) (fun w' hS' => y_move) rfl rfl rfl rfl rfl ?_
            first | refine kr_skipG rfl (hS10) rfl rfl rfl rfl rfl rfl ?_ | refine kr_valG rfl (hS10) (fun w' hS' => y_move) rfl rfl rfl rfl rfl ?_
            first | refine kr_skipG rfl (hS10) rfl rfl rfl rfl rfl rfl ?_ | refine kr_valG rfl (hS10) (fun w' hS' => y_move) rfl rfl rfl rfl rfl ?_
            refine kr_skipS rfl (fun _ => hS10) rfl rfl rfl rfl rfl rfl ?_
            first | refine kr_skipG rfl (hS10) rfl rfl rfl rfl rfl rfl ?_ | refine kr_valG rfl (hS10) (fun w' hS' => y_move) rfl rfl rfl rfl rfl ?_
            first | refine kr_skipG rfl (hS10) rfl rfl rfl rfl rfl rfl ?_ | refine kr_valG rfl (hS10) (fun w' hS' => y_move) rfl rfl rfl rfl rfl ?_
            first | refine kr_skipG rfl (hS10) rfl rfl rfl rfl rfl rfl ?_ | refine kr_valG rfl (hS10) (fun w' hS' => by first | exact y_pickT rfl | exact y_pickF rfl) rfl rfl rfl rfl rfl ?_
            refine kr_val rfl (hS10) (fun w' hS' => by first | exact y_pickT rfl | exact y_pickF rfl) rfl rfl rfl ?_
            refine kr_val rfl (hS10) (fun w' hS' => y_assign) rfl rfl rfl ?_
            refine kr_nil ?_
            refine x_seq ?_
            refine k_ret ?_
            exact k_ret1 rfl rfl ⟨_, rfl, rfl, hE⟩
      · skip
        first | refine kr_skipG rfl (hS10) rfl rfl rfl rfl rfl rfl ?_ | refine kr_valG rfl (hS10) (fun w' hS' => yb (b := true) (y_neq rfl rfl) (eqT (fun e => h1 (by omega)))) rfl rfl rfl rfl rfl ?_
        first | refine kr_skipG rfl (hS10) rfl rfl rfl rfl rfl rfl ?_ | refine kr_valG rfl (hS10) (fun w' hS' => y_move) rfl rfl rfl rfl rfl ?_
        first | refine kr_skipG rfl (hS10) rfl rfl rfl rfl rfl rfl ?_ | refine kr_valG rfl (hS10) (fun w' hS' => y_move) rfl rfl rfl rfl rfl ?_
        first | refine kr_skipG rfl (hS10) rfl rfl rfl rfl rfl rfl ?_ | refine kr_valG rfl (hS10) (fun w' hS' => y_move) rfl rfl rfl rfl rfl ?_
        first | refine kr_skipG rfl (hS10) rfl rfl rfl rfl rfl rfl ?_ | refine kr_valG rfl (hS10) (fun w' hS' => y_move) rfl rfl rfl rfl rfl ?_
        refine kr_skipS rfl (fun _ => hS10) rfl rfl rfl rfl rfl rfl ?_
        first | refine kr_skipG rfl (hS10) rfl rfl rfl rfl rfl rfl ?_ | refine kr_valG rfl (hS10) (fun w' hS' => y_move) rfl rfl rfl rfl rfl ?_
        first | refine kr_skipG rfl (hS10) rfl rfl rfl rfl rfl rfl ?_ | refine kr_valG rfl (hS10) (fun w' hS' => y_move) rfl rfl rfl rfl rfl ?_
        first | refine kr_skipG rfl (hS10) rfl rfl rfl rfl rfl rfl ?_ | refine kr_valG rfl (hS10) (fun w' hS' => by first | exact y_pickT rfl | exact y_pickF rfl) rfl rfl rfl rfl rfl ?_
        refine kr_val rfl (hS10) (fun w' hS' => by first | exact y_pickT rfl | exact y_pickF rfl) rfl rfl rfl ?_
        refine kr_val rfl (hS10) (fun w' hS' => y_move) rfl rfl rfl ?_
        first | refine kr_skipG rfl (hS10) rfl rfl rfl rfl rfl rfl ?_ | refine kr_valG rfl (hS10) (fun w' hS' => y_move) rfl rfl rfl rfl rfl ?_
        by_cases h2 : e2 = 0
        · skip
          first | refine kr_skipG rfl (hS10) rfl rfl rfl rfl rfl rfl ?_ | refine kr_valG rfl (hS10) (fun w' hS' => yb (b := false) (y_neq rfl rfl) (eqF (fun e => e (by rw [h2]; rfl)))) rfl rfl rfl rfl rfl ?_
          first | refine kr_skipG rfl (hS10) rfl rfl rfl rfl rfl rfl ?_ | refine kr_valG rfl (hS10) (fun w' hS' => y_move) rfl rfl rfl rfl rfl ?_
          first | refine kr_skipG rfl (hS10) rfl rfl rfl rfl rfl rfl ?_ | refine kr_valG rfl (hS10) (fun w' hS' => y_load rfl (ld_aggB Try.underlying47 rfl I47 S47 hzl hS'.2.1.cs)) rfl rfl rfl rfl rfl ?_
          first | refine kr_skipG rfl (hS10) rfl rfl rfl rfl rfl rfl ?_ | refine kr_valG rfl (hS10) (fun w' hS' => y_move) rfl rfl rfl rfl rfl ?_
          first | refine kr_skipG rfl (hS10) rfl rfl rfl rfl rfl rfl ?_ | refine kr_valG rfl (hS10) (fun w' hS' => y_b2s Try.underlying22 Try.underlying5 Try.underlying9 rfl hS'.2.2.2) rfl rfl rfl rfl rfl ?_
          refine Exists.elim (hzx h2) (fun xl hxx => ?_)
          have hl1 := hxx.1
          have hl2 := hxx.2
          have hl345 := pWhole_b (fun _ _ _ => pLst_b) hl1
          have hl3 := hl345.1
          have hl4 := hl345.2.1
          have hl5 := hl345.2.2
          have hll : (wLst xl).length ≤ 60000 := hl3 ▸ hl5
          refine kr_owGS rfl rfl rfl rfl (ow_call1 fn17 rfl rfl rfl (List_W hl2 hB7 (by omega) (by have := hl4.dl; omega)) (kret_ret (fun v2 wl hO2 => ?_)))
          have hE' := hO2.ext
          replace hS10 := And.intro (hS10.1.keep hE' (fun h => h)) (And.intro (hS10.2.1.keep hE' (fun h => h)) (And.intro (hS10.2.2.1.keep hE' (fun _ _ h => h)) (hS10.2.2.2.keep hE' (fun _ _ h => h))))
          replace hE := hE.trans hE'
          replace hB4 := fun q hq => Nat.lt_of_lt_of_le (hB4 q hq) hE'.size
          replace hB7 := fun q hq => Nat.lt_of_lt_of_le (hB7 q hq) hE'.size
          replace hBN := fun q hq => Nat.lt_of_lt_of_le (hBN q hq) hE'.size
          replace hyx := imp_ex hyx (fun x h2 => h2.keep hE' (fun _ _ h => h))
          replace hzx := imp_ex hzx (fun x h2 => h2.keep hE' (fun _ _ h => h))
          replace hux := imp_ex hux (fun x h2 => h2.keep hE' (fun _ _ h => h) (fun _ _ h => ⟨h.eq⟩))
          have hq : SlR wl (ownB v2) v2 1 (wLst xl).length (bvs (wLst xl)) := SlR.ofOwn hO2.own (fun _ h => h)
          refine ⟨(fun _ => hS10), (fun w' => (Bx w' b10 53 ys ∧ Bx w' b12 47 zs ∧ SlR w' (fun q => q = bo) (.slice (some ⟨bo, 0, none⟩) bs.length co) 1 bs.length (bvs bs) ∧ SlR w' B (.slice va c.length vc) 1 c.length (bvs c)) ∧ SlR w' (ownB v2) v2 1 (wLst xl).length (bvs (wLst xl))), (fun _ h => h.1), ?_⟩
          replace hS10 := And.intro hS10 hq
          first | refine kr_skipG rfl (hS10) rfl rfl rfl rfl rfl rfl ?_ | refine kr_valG rfl (hS10) (fun w' hS' => y_b2s Try.underlying22 Try.underlying5 Try.underlying9 rfl hS'.2) rfl rfl rfl rfl rfl ?_
          first | refine kr_skipG rfl (hS10) rfl rfl rfl rfl rfl rfl ?_ | refine kr_valG rfl (hS10) (fun w' hS' => yb (b := true) (y_seql rfl rfl) (baT hl3.symm)) rfl rfl rfl rfl rfl ?_
          first | refine kr_skipG rfl (hS10) rfl rfl rfl rfl rfl rfl ?_ | refine kr_valG rfl (hS10) (fun w' hS' => by first | exact y_pickT rfl | exact y_pickF rfl) rfl rfl rfl rfl rfl ?_
          refine kr_val rfl (hS10) (fun w' hS' => by first | exact y_pickT rfl | exact y_pickF rfl) rfl rfl rfl ?_
          refine kr_val rfl (hS10) (fun w' hS' => y_move) rfl rfl rfl ?_
          first | refine kr_skipG rfl (hS10) rfl rfl rfl rfl rfl rfl ?_ | refine kr_valG rfl (hS10) (fun w' hS' => y_move) rfl rfl rfl rfl rfl ?_
          by_cases h3 : e3 = 0
          · skip
            first | refine kr_skipG rfl (hS10) rfl rfl rfl rfl rfl rfl ?_ | refine kr_valG rfl (hS10) (fun w' hS' => yb (b := false) (y_neq rfl rfl) (eqF (fun e => e (by rw [h3]; rfl)))) rfl rfl rfl rfl rfl ?_
            first | refine kr_skipG rfl (hS10) rfl rfl rfl rfl rfl rfl ?_ | refine kr_valG rfl (hS10) (fun w' hS' => y_move) rfl rfl rfl rfl rfl ?_
            first | refine kr_skipG rfl (hS10) rfl rfl rfl rfl rfl rfl ?_ | refine kr_valG rfl (hS10) (fun w' hS' => y_move) rfl rfl rfl rfl rfl ?_
            first | refine kr_skipG rfl (hS10) rfl rfl rfl rfl rfl rfl ?_ | refine kr_valG rfl (hS10) (fun w' hS' => y_move) rfl rfl rfl rfl rfl ?_
            first | refine kr_skipG rfl (hS10) rfl rfl rfl rfl rfl rfl ?_ | refine kr_valG rfl (hS10) (fun w' hS' => y_b2s Try.underlying22 Try.underlying5 Try.underlying9 rfl hS'.1.2.2.2) rfl rfl rfl rfl rfl ?_
            refine Exists.elim (hux h3) (fun xu hxx => ?_)
            have hu1 := hxx.1
            have hu2 := hxx.2
            have hu345 := pUsers_b hu1
            have hu3 := hu345.1
            have hu4 := hu345.2.1
            have hu5 := hu345.2.2
            have hul : (wEach wUsr xu).length ≤ 60000 := hu3 ▸ hu5
            refine kr_owGS rfl rfl rfl rfl (ow_call1 fn9 rfl rfl rfl (Users_W hu2 hBN (by omega) (by omega)) (kret_ret (fun v3 wu hO3 => ?_)))
            have hE' := hO3.ext
            replace hS10 := (And.intro (And.intro (hS10.1.1.keep hE' (fun h => h)) (And.intro (hS10.1.2.1.keep hE' (fun h => h)) (And.intro (hS10.1.2.2.1.keep hE' (fun _ _ h => h)) (hS10.1.2.2.2.keep hE' (fun _ _ h => h))))) (hS10.2.keep hE' (fun _ _ h => h)))
            replace hE := hE.trans hE'
            replace hB4 := fun q hq => Nat.lt_of_lt_of_le (hB4 q hq) hE'.size
            replace hB7 := fun q hq => Nat.lt_of_lt_of_le (hB7 q hq) hE'.size
            replace hBN := fun q hq => Nat.lt_of_lt_of_le (hBN q hq) hE'.size
            replace hyx := imp_ex hyx (fun x h2 => h2.keep hE' (fun _ _ h => h))
            replace hzx := imp_ex hzx (fun x h2 => h2.keep hE' (fun _ _ h => h))
            replace hux := imp_ex hux (fun x h2 => h2.keep hE' (fun _ _ h => h) (fun _ _ h => ⟨h.eq⟩))
            have hq : SlR wu (ownB v3) v3 1 (wEach wUsr xu).length (bvs (wEach wUsr xu)) := SlR.ofOwn hO3.own (fun _ h => h)
            refine ⟨(fun _ => hS10), (fun w' => ((Bx w' b10 53 ys ∧ Bx w' b12 47 zs ∧ SlR w' (fun q => q = bo) (.slice (some ⟨bo, 0, none⟩) bs.length co) 1 bs.length (bvs bs) ∧ SlR w' B (.slice va c.length vc) 1 c.length (bvs c)) ∧ SlR w' (ownB v2) v2 1 (wLst xl).length (bvs (wLst xl))) ∧ SlR w' (ownB v3) v3 1 (wEach wUsr xu).length (bvs (wEach wUsr xu))), (fun _ h => h.1), ?_⟩
            replace hS10 := And.intro hS10 hq
            first | refine kr_skipG rfl (hS10) rfl rfl rfl rfl rfl rfl ?_ | refine kr_valG rfl (hS10) (fun w' hS' => y_b2s Try.underlying22 Try.underlying5 Try.underlying9 rfl hS'.2) rfl rfl rfl rfl rfl ?_
            first | refine kr_skipG rfl (hS10) rfl rfl rfl rfl rfl rfl ?_ | refine kr_valG rfl (hS10) (fun w' hS' => yb (b := true) (y_seql rfl rfl) (baT hu3.symm)) rfl rfl rfl rfl rfl ?_
            first | refine kr_skipG rfl (hS10) rfl rfl rfl rfl rfl rfl ?_ | refine kr_valG rfl (hS10) (fun w' hS' => by first | exact y_pickT rfl | exact y_pickF rfl) rfl rfl rfl rfl rfl ?_
            refine kr_val rfl (hS10) (fun w' hS' => by first | exact y_pickT rfl | exact y_pickF rfl) rfl rfl rfl ?_
            refine kr_val rfl (hS10) (fun w' hS' => y_assign) rfl rfl rfl ?_
            refine kr_nil ?_
            refine x_seq ?_
            refine k_ret ?_
            exact k_ret1 rfl rfl ⟨_, rfl, rfl, hE⟩
          · skip
            first | refine kr_skipG rfl (hS10) rfl rfl rfl rfl rfl rfl ?_ | refine kr_valG rfl (hS10) (fun w' hS' => yb (b := true) (y_neq rfl rfl) (eqT (fun e => h3 (by omega)))) rfl rfl rfl rfl rfl ?_
            first | refine kr_skipG rfl (hS10) rfl rfl rfl rfl rfl rfl ?_ | refine kr_valG rfl (hS10) (fun w' hS' => y_move) rfl rfl rfl rfl rfl ?_
            first | refine kr_skipG rfl (hS10) rfl rfl rfl rfl rfl rfl ?_ | refine kr_valG rfl (hS10) (fun w' hS' => y_move) rfl rfl rfl rfl rfl ?_
            first | refine kr_skipG rfl (hS10) rfl rfl rfl rfl rfl rfl ?_ | refine kr_valG rfl (hS10) (fun w' hS' => y_move) rfl rfl rfl rfl rfl ?_
            first | refine kr_skipG rfl (hS10) rfl rfl rfl rfl rfl rfl ?_ | refine kr_valG rfl (hS10) (fun w' hS' => y_move) rfl rfl rfl rfl rfl ?_
            refine kr_skipS rfl (fun _ => hS10) rfl rfl rfl rfl rfl rfl ?_
            first | refine kr_skipG rfl (hS10) rfl rfl rfl rfl rfl rfl ?_ | refine kr_valG rfl (hS10) (fun w' hS' => y_move) rfl rfl rfl rfl rfl ?_
            first | refine kr_skipG rfl (hS10) rfl rfl rfl rfl rfl rfl ?_ | refine kr_valG rfl (hS10) (fun w' hS' => y_move) rfl rfl rfl rfl rfl ?_
            first | refine kr_skipG rfl (hS10) rfl rfl rfl rfl rfl rfl ?_ | refine kr_valG rfl (hS10) (fun w' hS' => by first | exact y_pickT rfl | exact y_pickF rfl) rfl rfl rfl rfl rfl ?_
            refine kr_val rfl (hS10) (fun w' hS' => by first | exact y_pickT rfl | exact y_pickF rfl) rfl rfl rfl ?_
            refine kr_val rfl (hS10) (fun w' hS' => y_assign) rfl rfl rfl ?_
            refine kr_nil ?_
            refine x_seq ?_
            refine k_ret ?_
            exact k_ret1 rfl rfl ⟨_, rfl, rfl, hE⟩
        · skip
          first | refine kr_skipG rfl (hS10) rfl rfl rfl rfl rfl rfl ?_ | refine kr_valG rfl (hS10) (fun w' hS' => yb (b := true) (y_neq rfl rfl) (eqT (fun e => h2 (by omega)))) rfl rfl rfl rfl rfl ?_
          first | refine kr_skipG rfl (hS10) rfl rfl rfl rfl rfl rfl ?_ | refine kr_valG rfl (hS10) (fun w' hS' => y_move) rfl rfl rfl rfl rfl ?_
          first | refine kr_skipG rfl (hS10) rfl rfl rfl rfl rfl rfl ?_ | refine kr_valG rfl (hS10) (fun w' hS' => y_move) rfl rfl rfl rfl rfl ?_
          first | refine kr_skipG rfl (hS10) rfl rfl rfl rfl rfl rfl ?_ | refine kr_valG rfl (hS10) (fun w' hS' => y_move) rfl rfl rfl rfl rfl ?_
          first | refine kr_skipG rfl (hS10) rfl rfl rfl rfl rfl rfl ?_ | refine kr_valG rfl (hS10) (fun w' hS' => y_move) rfl rfl rfl rfl rfl ?_
          refine kr_skipS rfl (fun _ => hS10) rfl rfl rfl rfl rfl rfl ?_
          first | refine kr_skipG rfl (hS10) rfl rfl rfl rfl rfl rfl ?_ | refine kr_valG rfl (hS10) (fun w' hS' => y_move) rfl rfl rfl rfl rfl ?_
          first | refine kr_skipG rfl (hS10) rfl rfl rfl rfl rfl rfl ?_ | refine kr_valG rfl (hS10) (fun w' hS' => y_move) rfl rfl rfl rfl rfl ?_
          first | refine kr_skipG rfl (hS10) rfl rfl rfl rfl rfl rfl ?_ | refine kr_valG rfl (hS10) (fun w' hS' => by first | exact y_pickT rfl | exact y_pickF rfl) rfl rfl rfl rfl rfl ?_
          refine kr_val rfl (hS10) (fun w' hS' => by first | exact y_pickT rfl | exact y_pickF rfl) rfl rfl rfl ?_
          refine kr_val rfl (hS10) (fun w' hS' => y_move) rfl rfl rfl ?_
          first | refine kr_skipG rfl (hS10) rfl rfl rfl rfl rfl rfl ?_ | refine kr_valG rfl (hS10) (fun w' hS' => y_move) rfl rfl rfl rfl rfl ?_
          by_cases h3 : e3 = 0
          · skip
            first | refine kr_skipG rfl (hS10) rfl rfl rfl rfl rfl rfl ?_ | refine kr_valG rfl (hS10) (fun w' hS' => yb (b := false) (y_neq rfl rfl) (eqF (fun e => e (by rw [h3]; rfl)))) rfl rfl rfl rfl rfl ?_
            first | refine kr_skipG rfl (hS10) rfl rfl rfl rfl rfl rfl ?_ | refine kr_valG rfl (hS10) (fun w' hS' => y_move) rfl rfl rfl rfl rfl ?_
            first | refine kr_skipG rfl (hS10) rfl rfl rfl rfl rfl rfl ?_ | refine kr_valG rfl (hS10) (fun w' hS' => y_move) rfl rfl rfl rfl rfl ?_
            first | refine kr_skipG rfl (hS10) rfl rfl rfl rfl rfl rfl ?_ | refine kr_valG rfl (hS10) (fun w' hS' => y_move) rfl rfl rfl rfl rfl ?_
            first | refine kr_skipG rfl (hS10) rfl rfl rfl rfl rfl rfl ?_ | refine kr_valG rfl (hS10) (fun w' hS' => y_b2s Try.underlying22 Try.underlying5 Try.underlying9 rfl hS'.2.2.2) rfl rfl rfl rfl rfl ?_
            refine Exists.elim (hux h3) (fun xu hxx => ?_)
            have hu1 := hxx.1
            have hu2 := hxx.2
            have hu345 := pUsers_b hu1
            have hu3 := hu345.1
            have hu4 := hu345.2.1
            have hu5 := hu345.2.2
            have hul : (wEach wUsr xu).length ≤ 60000 := hu3 ▸ hu5
            refine kr_owGS rfl rfl rfl rfl (ow_call1 fn9 rfl rfl rfl (Users_W hu2 hBN (by omega) (by omega)) (kret_ret (fun v3 wu hO3 => ?_)))
            have hE' := hO3.ext
            replace hS10 := And.intro (hS10.1.keep hE' (fun h => h)) (And.intro (hS10.2.1.keep hE' (fun h => h)) (And.intro (hS10.2.2.1.keep hE' (fun _ _ h => h)) (hS10.2.2.2.keep hE' (fun _ _ h => h))))
            replace hE := hE.trans hE'
            replace hB4 := fun q hq => Nat.lt_of_lt_of_le (hB4 q hq) hE'.size
            replace hB7 := fun q hq => Nat.lt_of_lt_of_le (hB7 q hq) hE'.size
            replace hBN := fun q hq => Nat.lt_of_lt_of_le (hBN q hq) hE'.size
            replace hyx := imp_ex hyx (fun x h2 => h2.keep hE' (fun _ _ h => h))
            replace hzx := imp_ex hzx (fun x h2 => h2.keep hE' (fun _ _ h => h))
            replace hux := imp_ex hux (fun x h2 => h2.keep hE' (fun _ _ h => h) (fun _ _ h => ⟨h.eq⟩))
            have hq : SlR wu (ownB v3) v3 1 (wEach wUsr xu).length (bvs (wEach wUsr xu)) := SlR.ofOwn hO3.own (fun _ h => h)
            refine ⟨(fun _ => hS10), (fun w' => (Bx w' b10 53 ys ∧ Bx w' b12 47 zs ∧ SlR w' (fun q => q = bo) (.slice (some ⟨bo, 0, none⟩) bs.length co) 1 bs.length (bvs bs) ∧ SlR w' B (.slice va c.length vc) 1 c.length (bvs c)) ∧ SlR w' (ownB v3) v3 1 (wEach wUsr xu).length (bvs (wEach wUsr xu))), (fun _ h => h.1), ?_⟩
            replace hS10 := And.intro hS10 hq
            first | refine kr_skipG rfl (hS10) rfl rfl rfl rfl rfl rfl ?_ | refine kr_valG rfl (hS10) (fun w' hS' => y_b2s Try.underlying22 Try.underlying5 Try.underlying9 rfl hS'.2) rfl rfl rfl rfl rfl ?_
            first | refine kr_skipG rfl (hS10) rfl rfl rfl rfl rfl rfl ?_ | refine kr_valG rfl (hS10) (fun w' hS' => yb (b := true) (y_seql rfl rfl) (baT hu3.symm)) rfl rfl rfl rfl rfl ?_
            first | refine kr_skipG rfl (hS10) rfl rfl rfl rfl rfl rfl ?_ | refine kr_valG rfl (hS10) (fun w' hS' => by first | exact y_pickT rfl | exact y_pickF rfl) rfl rfl rfl rfl rfl ?_
            refine kr_val rfl (hS10) (fun w' hS' => by first | exact y_pickT rfl | exact y_pickF rfl) rfl rfl rfl ?_
            refine kr_val rfl (hS10) (fun w' hS' => y_assign) rfl rfl rfl ?_
            refine kr_nil ?_
            refine x_seq ?_
            refine k_ret ?_
            exact k_ret1 rfl rfl ⟨_, rfl, rfl, hE⟩
          · skip
            first | refine kr_skipG rfl (hS10) rfl rfl rfl rfl rfl rfl ?_ | refine kr_valG rfl (hS10) (fun w' hS' => yb (b := true) (y_neq rfl rfl) (eqT (fun e => h3 (by omega)))) rfl rfl rfl rfl rfl ?_
            first | refine kr_skipG rfl (hS10) rfl rfl rfl rfl rfl rfl ?_ | refine kr_valG rfl (hS10) (fun w' hS' => y_move) rfl rfl rfl rfl rfl ?_
            first | refine kr_skipG rfl (hS10) rfl rfl rfl rfl rfl rfl ?_ | refine kr_valG rfl (hS10) (fun w' hS' => y_move) rfl rfl rfl rfl rfl ?_
            first | refine kr_skipG rfl (hS10) rfl rfl rfl rfl rfl rfl ?_ | refine kr_valG rfl (hS10) (fun w' hS' => y_move) rfl rfl rfl rfl rfl ?_
            first | refine kr_skipG rfl (hS10) rfl rfl rfl rfl rfl rfl ?_ | refine kr_valG rfl (hS10) (fun w' hS' => y_move) rfl rfl rfl rfl rfl ?_
            refine kr_skipS rfl (fun _ => hS10) rfl rfl rfl rfl rfl rfl ?_
            first | refine kr_skipG rfl (hS10) rfl rfl rfl rfl rfl rfl ?_ | refine kr_valG rfl (hS10) (fun w' hS' => y_move) rfl rfl rfl rfl rfl ?_
            first | refine kr_skipG rfl (hS10) rfl rfl rfl rfl rfl rfl ?_ | refine kr_valG rfl (hS10) (fun w' hS' => y_move) rfl rfl rfl rfl rfl ?_
            first | refine kr_skipG rfl (hS10) rfl rfl rfl rfl rfl rfl ?_ | refine kr_valG rfl (hS10) (fun w' hS' => by first | exact y_pickT rfl | exact y_pickF rfl) rfl rfl rfl rfl rfl ?_
            refine kr_val rfl (hS10) (fun w' hS' => by first | exact y_pickT rfl | exact y_pickF rfl) rfl rfl rfl ?_
            refine kr_val rfl (hS10) (fun w' hS' => y_assign) rfl rfl rfl ?_
            refine kr_nil ?_
            refine x_seq ?_
            refine k_ret ?_
            exact k_ret1 rfl rfl ⟨_, rfl, rfl, hE⟩

end Go.Proofs.Ythpocekigliomaa.K
