/- Bytes that are read. Conditions: the bytes lie in blocks that are there. -/
import Derived.Test.YthpocekigliomaaKQa
namespace Go.Proofs.Ythpocekigliomaa.K
open Go

set_option maxRecDepth 100000 in
set_option maxHeartbeats 1000000 in
theorem ReadList_R {v : Value} {bs : List UInt8} {B : Nat → Prop} {w : World} (hb : SlR w B v 1 bs.length (bvs bs)) (hB : ∀ b, B b → b < w.heap.size) :
    Ret Try.prog 34 #[v] w (fun u w' => Ext w w' ∧ WholeR (pWhole pLst bs) (fun v x => ∃ cs, v = .agg cs.toArray ∧ LstR w' (Nw w w') cs x) (.agg (([Value.int .i64 0, Value.int .i64 0] ++ List.replicate 32 (Value.int .u8 0) ++ [Value.slice none 0 0] ++ List.replicate 64 (Value.int .u8 0) : List Value)).toArray) u) := by
  refine k_enter1 Try.func34 rfl Try.ntmps34 rfl ?_
  refine k_seq ?_
  refine k_region ?_
  refine kl_ow rfl (ow_alloc I47 Z47 rfl (fun w1 b hb0 hf0 he0 hz0 => ?_))
  replace hb0 := bx_eq hb0 (show _ = ([Value.int .i64 0, Value.int .i64 0] ++ List.replicate 32 (Value.int .u8 0) ++ [Value.slice none 0 0] ++ List.replicate 64 (Value.int .u8 0) : List Value) from rfl)
  replace hb := hb.keep hf0 (fun _ _ h => h)
  replace hB : ∀ i, B i → i < w1.heap.size := fun i hi => by have := hB i hi; omega
  refine kl_val (y_assign) rfl rfl rfl ?_
  refine kl_nil ?_
  refine x_seq ?_
  refine k_seq ?_
  refine k_region ?_
  refine kl_val (y_move) rfl rfl rfl ?_
  refine kl_ow rfl (ow_call2 fn85 rfl rfl rfl rfl (wholeList_R hb hB) (kret_ret (fun u w2 ⟨hE, hW⟩ => ?_)))
  obtain ⟨ys, e, rfl, hyl, hyo⟩ := hW.form (n := 99) ⟨by simp, zoneList⟩ (fun v x ⟨cs, h1, h2⟩ => ⟨cs, h1, h2.length, h2.one⟩)
  replace hb0 := hb0.keep hE (fun h => h)
  have hs := hE.size
  refine kl_val (y_extract rfl rfl) rfl rfl rfl ?_
  refine kl_val (y_extract rfl rfl) rfl rfl rfl ?_
  refine kl_ow rfl (ow_store (b := b) (o := 0) I47 S47 rfl (v := .agg ys.toArray) (xs := ys) rfl hb0 rfl hyl (by rw [hyl]; simp) hyo (fun w3 hb3 hf3 hz3 => ?_))
  replace hb3 := bx_eq hb3 (splice_all (by rw [hyl]; simp))
  have hF := (hf0.trans hE).trans' hf3 (fun i hi e => absurd e (by omega))
  refine kl_val (y_assign) rfl rfl rfl ?_
  refine kl_nil ?_
  refine x_seq ?_
  refine k_ret ?_
  exact k_retCT rfl rfl (ld_aggB Try.underlying47 rfl I47 S47 hyl hb3.cs) rfl ⟨_, rfl, hF, hW.mono (fun v x ⟨cs, h1, h2⟩ => ⟨cs, h1, (h2.keep hf3 (fun i hi => by have := hi.1; omega)).mono (fun i hi => ⟨by have := hi.1; omega, by have := hi.2; omega⟩)⟩)⟩

set_option maxRecDepth 100000 in
set_option maxHeartbeats 1000000 in
theorem ReadEnvelope_R {v : Value} {bs : List UInt8} {B : Nat → Prop} {w : World} (hb : SlR w B v 1 bs.length (bvs bs)) (hB : ∀ b, B b → b < w.heap.size) :
    Ret Try.prog 37 #[v] w (fun u w' => Ext w w' ∧ WholeR (pWhole pEnv bs) (fun v x => ∃ cs, v = .agg cs.toArray ∧ EnvR w' (Nw w w') cs x) (.agg (([Value.int .i64 0, Value.int .i64 0, Value.bool false] ++ List.replicate 32 (Value.int .u8 0) ++ [Value.int .i64 0, Value.int .i64 0] ++ List.replicate 32 (Value.int .u8 0) ++ [Value.int .i64 0, Value.int .i64 0, Value.slice none 0 0] : List Value)).toArray) u) := by
  refine k_enter1 Try.func37 rfl Try.ntmps37 rfl ?_
  refine k_seq ?_
  refine k_region ?_
  refine kl_ow rfl (ow_alloc I38 Z38 rfl (fun w1 b hb0 hf0 he0 hz0 => ?_))
  replace hb0 := bx_eq hb0 (show _ = ([Value.int .i64 0, Value.int .i64 0, Value.bool false] ++ List.replicate 32 (Value.int .u8 0) ++ [Value.int .i64 0, Value.int .i64 0] ++ List.replicate 32 (Value.int .u8 0) ++ [Value.int .i64 0, Value.int .i64 0, Value.slice none 0 0] : List Value) from rfl)
  replace hb := hb.keep hf0 (fun _ _ h => h)
  replace hB : ∀ i, B i → i < w1.heap.size := fun i hi => by have := hB i hi; omega
  refine kl_val (y_assign) rfl rfl rfl ?_
  refine kl_nil ?_
  refine x_seq ?_
  refine k_seq ?_
  refine k_region ?_
  refine kl_val (y_move) rfl rfl rfl ?_
  refine kl_ow rfl (ow_call2 fn89 rfl rfl rfl rfl (wholeEnvelope_R hb hB) (kret_ret (fun u w2 ⟨hE, hW⟩ => ?_)))
  obtain ⟨ys, e, rfl, hyl, hyo⟩ := hW.form (n := 72) ⟨by simp, zoneEnvelope⟩ (fun v x ⟨cs, h1, h2⟩ => ⟨cs, h1, h2.length, h2.one⟩)
  replace hb0 := hb0.keep hE (fun h => h)
  have hs := hE.size
  refine kl_val (y_extract rfl rfl) rfl rfl rfl ?_
  refine kl_val (y_extract rfl rfl) rfl rfl rfl ?_
  refine kl_ow rfl (ow_store (b := b) (o := 0) I38 S38 rfl (v := .agg ys.toArray) (xs := ys) rfl hb0 rfl hyl (by rw [hyl]; simp) hyo (fun w3 hb3 hf3 hz3 => ?_))
  replace hb3 := bx_eq hb3 (splice_all (by rw [hyl]; simp))
  have hF := (hf0.trans hE).trans' hf3 (fun i hi e => absurd e (by omega))
  refine kl_val (y_assign) rfl rfl rfl ?_
  refine kl_nil ?_
  refine x_seq ?_
  refine k_ret ?_
  exact k_retCT rfl rfl (ld_aggB Try.underlying38 rfl I38 S38 hyl hb3.cs) rfl ⟨_, rfl, hF, hW.mono (fun v x ⟨cs, h1, h2⟩ => ⟨cs, h1, (h2.keep hf3 (fun i hi => by have := hi.1; omega)).mono (fun i hi => ⟨by have := hi.1; omega, by have := hi.2; omega⟩)⟩)⟩

set_option maxRecDepth 100000 in
set_option maxHeartbeats 1000000 in
theorem ReadRequest_R {v : Value} {bs : List UInt8} {B : Nat → Prop} {w : World} (hb : SlR w B v 1 bs.length (bvs bs)) (hB : ∀ b, B b → b < w.heap.size) :
    Ret Try.prog 33 #[v] w (fun u w' => Ext w w' ∧ WholeR (pWhole pReq bs) (fun v x => ∃ cs, v = .agg cs.toArray ∧ ReqR w' (Nw w w') cs x) (.agg (([Value.int .u8 0, Value.int .i64 0, Value.int .i64 0, Value.string ByteArray.empty, Value.string ByteArray.empty, Value.string ByteArray.empty, Value.int .i64 0, Value.int .i64 0] ++ List.replicate 32 (Value.int .u8 0) ++ [Value.slice none 0 0] ++ List.replicate 96 (Value.int .u8 0) ++ [Value.int .i64 0] ++ List.replicate 96 (Value.int .u8 0) ++ [Value.slice none 0 0, Value.int .i64 0, Value.slice none 0 0] : List Value)).toArray) u) := by
  refine k_enter1 Try.func33 rfl Try.ntmps33 rfl ?_
  refine k_seq ?_
  refine k_region ?_
  refine kl_ow rfl (ow_alloc I53 Z53 rfl (fun w1 b hb0 hf0 he0 hz0 => ?_))
  replace hb0 := bx_eq hb0 (show _ = ([Value.int .u8 0, Value.int .i64 0, Value.int .i64 0, Value.string ByteArray.empty, Value.string ByteArray.empty, Value.string ByteArray.empty, Value.int .i64 0, Value.int .i64 0] ++ List.replicate 32 (Value.int .u8 0) ++ [Value.slice none 0 0] ++ List.replicate 96 (Value.int .u8 0) ++ [Value.int .i64 0] ++ List.replicate 96 (Value.int .u8 0) ++ [Value.slice none 0 0, Value.int .i64 0, Value.slice none 0 0] : List Value) from rfl)
  replace hb := hb.keep hf0 (fun _ _ h => h)
  replace hB : ∀ i, B i → i < w1.heap.size := fun i hi => by have := hB i hi; omega
  refine kl_val (y_assign) rfl rfl rfl ?_
  refine kl_nil ?_
  refine x_seq ?_
  refine k_seq ?_
  refine k_region ?_
  refine kl_val (y_move) rfl rfl rfl ?_
  refine kl_ow rfl (ow_call2 fn83 rfl rfl rfl rfl (wholeRequest_R hb hB) (kret_ret (fun u w2 ⟨hE, hW⟩ => ?_)))
  obtain ⟨ys, e, rfl, hyl, hyo⟩ := hW.form (n := 237) ⟨by simp, zoneRequest⟩ (fun v x ⟨cs, h1, h2⟩ => ⟨cs, h1, h2.length, h2.one⟩)
  replace hb0 := hb0.keep hE (fun h => h)
  have hs := hE.size
  refine kl_val (y_extract rfl rfl) rfl rfl rfl ?_
  refine kl_val (y_extract rfl rfl) rfl rfl rfl ?_
  refine kl_ow rfl (ow_store (b := b) (o := 0) I53 S53 rfl (v := .agg ys.toArray) (xs := ys) rfl hb0 rfl hyl (by rw [hyl]; simp) hyo (fun w3 hb3 hf3 hz3 => ?_))
  replace hb3 := bx_eq hb3 (splice_all (by rw [hyl]; simp))
  have hF := (hf0.trans hE).trans' hf3 (fun i hi e => absurd e (by omega))
  refine kl_val (y_assign) rfl rfl rfl ?_
  refine kl_nil ?_
  refine x_seq ?_
  refine k_ret ?_
  exact k_retCT rfl rfl (ld_aggB Try.underlying53 rfl I53 S53 hyl hb3.cs) rfl ⟨_, rfl, hF, hW.mono (fun v x ⟨cs, h1, h2⟩ => ⟨cs, h1, (h2.keep hf3 (fun i hi => by have := hi.1; omega)).mono (fun i hi => ⟨by have := hi.1; omega, by have := hi.2; omega⟩)⟩)⟩

set_option maxRecDepth 100000 in
set_option maxHeartbeats 1000000 in
theorem ReadResponse_R {v : Value} {bs : List UInt8} {B : Nat → Prop} {w : World} (hb : SlR w B v 1 bs.length (bvs bs)) (hB : ∀ b, B b → b < w.heap.size) :
    Ret Try.prog 38 #[v] w (fun u w' => Ext w w' ∧ WholeR (pWhole pRsp bs) (fun v x => ∃ cs, v = .agg cs.toArray ∧ RspR w' (Nw w w') cs x) (.agg (([Value.int .u16 0, Value.int .i64 0, Value.int .i64 0] ++ List.replicate 32 (Value.int .u8 0) ++ [Value.slice none 0 0] ++ List.replicate 64 (Value.int .u8 0) ++ [Value.int .i64 0, Value.int .i64 0] ++ List.replicate 64 (Value.int .u8 0) ++ [Value.int .i64 0] ++ List.replicate 96 (Value.int .u8 0) ++ [Value.slice none 0 0, Value.slice none 0 0] : List Value)).toArray) u) := by
  refine k_enter1 Try.func38 rfl Try.ntmps38 rfl ?_
  refine k_seq ?_
  refine k_region ?_
  refine kl_ow rfl (ow_alloc I61 Z61 rfl (fun w1 b hb0 hf0 he0 hz0 => ?_))
  replace hb0 := bx_eq hb0 (show _ = ([Value.int .u16 0, Value.int .i64 0, Value.int .i64 0] ++ List.replicate 32 (Value.int .u8 0) ++ [Value.slice none 0 0] ++ List.replicate 64 (Value.int .u8 0) ++ [Value.int .i64 0, Value.int .i64 0] ++ List.replicate 64 (Value.int .u8 0) ++ [Value.int .i64 0] ++ List.replicate 96 (Value.int .u8 0) ++ [Value.slice none 0 0, Value.slice none 0 0] : List Value) from rfl)
  replace hb := hb.keep hf0 (fun _ _ h => h)
  replace hB : ∀ i, B i → i < w1.heap.size := fun i hi => by have := hB i hi; omega
  refine kl_val (y_assign) rfl rfl rfl ?_
  refine kl_nil ?_
  refine x_seq ?_
  refine k_seq ?_
  refine k_region ?_
  refine kl_val (y_move) rfl rfl rfl ?_
  refine kl_ow rfl (ow_call2 fn91 rfl rfl rfl rfl (wholeResponse_R hb hB) (kret_ret (fun u w2 ⟨hE, hW⟩ => ?_)))
  obtain ⟨ys, e, rfl, hyl, hyo⟩ := hW.form (n := 265) ⟨by simp, zoneResponse⟩ (fun v x ⟨cs, h1, h2⟩ => ⟨cs, h1, h2.length, h2.one⟩)
  replace hb0 := hb0.keep hE (fun h => h)
  have hs := hE.size
  refine kl_val (y_extract rfl rfl) rfl rfl rfl ?_
  refine kl_val (y_extract rfl rfl) rfl rfl rfl ?_
  refine kl_ow rfl (ow_store (b := b) (o := 0) I61 S61 rfl (v := .agg ys.toArray) (xs := ys) rfl hb0 rfl hyl (by rw [hyl]; simp) hyo (fun w3 hb3 hf3 hz3 => ?_))
  replace hb3 := bx_eq hb3 (splice_all (by rw [hyl]; simp))
  have hF := (hf0.trans hE).trans' hf3 (fun i hi e => absurd e (by omega))
  refine kl_val (y_assign) rfl rfl rfl ?_
  refine kl_nil ?_
  refine x_seq ?_
  refine k_ret ?_
  exact k_retCT rfl rfl (ld_aggB Try.underlying61 rfl I61 S61 hyl hb3.cs) rfl ⟨_, rfl, hF, hW.mono (fun v x ⟨cs, h1, h2⟩ => ⟨cs, h1, (h2.keep hf3 (fun i hi => by have := hi.1; omega)).mono (fun i hi => ⟨by have := hi.1; omega, by have := hi.2; omega⟩)⟩)⟩

set_option maxRecDepth 100000 in
set_option maxHeartbeats 1000000 in
theorem ReadAccount_R {v : Value} {bs : List UInt8} {B : Nat → Prop} {w : World} (hb : SlR w B v 1 bs.length (bvs bs)) (hB : ∀ b, B b → b < w.heap.size) :
    Ret Try.prog 35 #[v] w (fun u w' => Ext w w' ∧ WholeR (pWhole pAcct bs) (fun v x => ∃ cs, v = .agg cs.toArray ∧ AcctR w' (Nw w w') cs x) (.agg (([Value.int .i64 0, Value.string ByteArray.empty, Value.int .i64 0, Value.int .i64 0, Value.int .i64 0, Value.int .i64 0] ++ List.replicate 32 (Value.int .u8 0) ++ [Value.slice none 0 0] ++ List.replicate 64 (Value.int .u8 0) ++ [Value.slice none 0 0, Value.slice none 0 0] : List Value)).toArray) u) := by
  refine k_enter1 Try.func35 rfl Try.ntmps35 rfl ?_
  refine k_seq ?_
  refine k_region ?_
  refine kl_ow rfl (ow_alloc I72 Z72 rfl (fun w1 b hb0 hf0 he0 hz0 => ?_))
  replace hb0 := bx_eq hb0 (show _ = ([Value.int .i64 0, Value.string ByteArray.empty, Value.int .i64 0, Value.int .i64 0, Value.int .i64 0, Value.int .i64 0] ++ List.replicate 32 (Value.int .u8 0) ++ [Value.slice none 0 0] ++ List.replicate 64 (Value.int .u8 0) ++ [Value.slice none 0 0, Value.slice none 0 0] : List Value) from rfl)
  replace hb := hb.keep hf0 (fun _ _ h => h)
  replace hB : ∀ i, B i → i < w1.heap.size := fun i hi => by have := hB i hi; omega
  refine kl_val (y_assign) rfl rfl rfl ?_
  refine kl_nil ?_
  refine x_seq ?_
  refine k_seq ?_
  refine k_region ?_
  refine kl_val (y_move) rfl rfl rfl ?_
  refine kl_ow rfl (ow_call2 fn87 rfl rfl rfl rfl (wholeAccount_R hb hB) (kret_ret (fun u w2 ⟨hE, hW⟩ => ?_)))
  obtain ⟨ys, e, rfl, hyl, hyo⟩ := hW.form (n := 105) ⟨by simp, zoneAccount⟩ (fun v x ⟨cs, h1, h2⟩ => ⟨cs, h1, h2.length, h2.one⟩)
  replace hb0 := hb0.keep hE (fun h => h)
  have hs := hE.size
  refine kl_val (y_extract rfl rfl) rfl rfl rfl ?_
  refine kl_val (y_extract rfl rfl) rfl rfl rfl ?_
  refine kl_ow rfl (ow_store (b := b) (o := 0) I72 S72 rfl (v := .agg ys.toArray) (xs := ys) rfl hb0 rfl hyl (by rw [hyl]; simp) hyo (fun w3 hb3 hf3 hz3 => ?_))
  replace hb3 := bx_eq hb3 (splice_all (by rw [hyl]; simp))
  have hF := (hf0.trans hE).trans' hf3 (fun i hi e => absurd e (by omega))
  refine kl_val (y_assign) rfl rfl rfl ?_
  refine kl_nil ?_
  refine x_seq ?_
  refine k_ret ?_
  exact k_retCT rfl rfl (ld_aggB Try.underlying72 rfl I72 S72 hyl hb3.cs) rfl ⟨_, rfl, hF, hW.mono (fun v x ⟨cs, h1, h2⟩ => ⟨cs, h1, (h2.keep hf3 (fun i hi => by have := hi.1; omega)).mono (fun i hi => ⟨by have := hi.1; omega, by have := hi.2; omega⟩)⟩)⟩

set_option maxRecDepth 100000 in
set_option maxHeartbeats 1000000 in
theorem users_r {p : Addr} {v : Value} {bs : List UInt8} {B : Nat → Prop} {w : World} (h : Rd w B p v bs) :
    ReadC Try.prog 50 #[.pointer (some p)] w B p (pUsers bs) (fun w' u x => SlX UsrR 3 w' (Nw w w') u x) := by
  refine k_enter1 Try.func50 rfl Try.ntmps50 rfl ?_
  refine k_seq ?_
  refine k_region ?_
  refine kl_val (y_assign) rfl rfl rfl ?_
  refine kl_nil ?_
  refine x_seq ?_
  refine k_seq ?_
  refine k_region ?_
  refine kl_val (y_move) rfl rfl rfl ?_
  refine kl_ow rfl (ow_call2 fn51 rfl rfl rfl rfl (all_User_r h) (kret_retP (fun u w' hu => ?_) (fun c w' hc => ⟨rfl, .inr ⟨c, rfl, hc⟩⟩)))
  refine kl_val (y_assign) rfl rfl rfl ?_
  refine kl_nil ?_
  refine x_seq ?_
  refine k_ret ?_
  exact k_ret1 rfl rfl (.inl ⟨_, rfl, hu⟩)

set_option maxRecDepth 100000 in
set_option maxHeartbeats 1000000 in
theorem clUsers_ret {b4 b5 : Nat} {w : World} :
    CallsD Try.prog 98 #[.pointer (some ⟨b4, 0, none⟩), .pointer (some ⟨b5, 0, none⟩)] .returning w (fun e u' w' => u' = .returning ∧ ((∃ v, e = .returned v) ∧ Ext w w')) := by
  refine k_recover (n := 15) .returning .returning .nilIface Try.func98 rfl Try.ntmps98 rfl rfl (fun c cs h => .inr ⟨rec_return c cs h, rfl, rfl⟩) ?_
  rw [args2]
  refine k_block ?_
  refine k_seq ?_
  refine k_region ?_
  refine kl_val (y_eqlN Try.underlying20 rfl) rfl rfl rfl ?_
  refine kl_nil ?_
  refine x_seq ?_
  refine k_condT rfl ?_
  refine k_region ?_
  refine kl_val (y_assign) rfl rfl rfl ?_
  refine kl_nil ?_
  refine x_blk ?_
  exact k_end0 rfl ⟨⟨_, rfl⟩, Fr.refl _ _⟩

set_option maxRecDepth 100000 in
set_option maxHeartbeats 1000000 in
theorem clUsers_pan {b4 b5 e : Nat} {xs4 xs5 : List Value} {w : World} (hb4 : Bx w b4 26 xs4) (hb5 : Bx w b5 28 xs5) (hl4 : xs4.length = 1) (hl5 : xs5.length = 1) (hne : b4 ≠ b5) :
    CallsD Try.prog 98 #[.pointer (some ⟨b4, 0, none⟩), .pointer (some ⟨b5, 0, none⟩)] (.panicking [{ v := .iface 172 (.agg #[.int .u16 (e : Int)]), recovered := false }]) w (fun ek u' w' => u' = (.panicking [{ v := .iface 172 (.agg #[.int .u16 (e : Int)]), recovered := true }]) ∧ ((∃ v, ek = .returned v) ∧ Bx w' b4 26 [.slice none 0 0] ∧ Bx w' b5 28 [.int .u16 (e : Int)] ∧ Fr (fun i => i = b4 ∨ i = b5) w w')) := by
  refine k_recover (n := 15) (.panicking [{ v := .iface 172 (.agg #[.int .u16 (e : Int)]), recovered := false }]) (.panicking [{ v := .iface 172 (.agg #[.int .u16 (e : Int)]), recovered := true }]) (.iface 172 (.agg #[.int .u16 (e : Int)])) Try.func98 rfl Try.ntmps98 rfl rfl (fun c cs h => .inl (rec_panic _ c cs h)) ?_
  rw [args2]
  have hl4' := hb4.lt
  have hl5' := hb5.lt
  refine k_block ?_
  refine k_seq ?_
  refine k_region ?_
  refine kl_val (y_eqlI Try.underlying20 rfl rfl) rfl rfl rfl ?_
  refine kl_nil ?_
  refine x_seq ?_
  refine k_condF rfl ?_
  refine k_seq ?_
  refine k_region ?_
  refine kl_val (y_assertOk Try.underlying172 rfl rfl) rfl rfl rfl ?_
  refine kl_val (y_extract rfl rfl) rfl rfl rfl ?_
  refine kl_val (y_extract rfl rfl) rfl rfl rfl ?_
  refine kl_nil ?_
  refine x_seq ?_
  refine k_condT rfl ?_
  refine k_seq ?_
  refine k_region ?_
  refine kl_ow rfl (ow_alloc I172 Z172 rfl (fun w1 bq hbq hf1 he1 hz1 => ?_))
  refine kl_ow rfl (ow_store (b := bq) (o := 0) I172 S172 rfl (v := .agg #[.int .u16 (e : Int)]) (xs := [.int .u16 (e : Int)]) rfl hbq rfl rfl (Nat.le_refl 1) (One'.single rfl) (fun w2 hbq2 hf2 hz2 => ?_))
  replace hbq := bx_eq hbq2 (splice_all rfl)
  have hE : Ext w w2 := ext_store hf1 hf2 (by omega)
  replace hb4 := hb4.keep hE (fun h => h)
  replace hb5 := hb5.keep hE (fun h => h)
  refine kl_nil ?_
  refine x_seq ?_
  refine k_seq ?_
  refine k_region ?_
  refine kl_val (y_assign) rfl rfl rfl ?_
  refine kl_nil ?_
  refine x_seq ?_
  refine k_regionD (S := fun w' => Bx w' bq 172 [.int .u16 (e : Int)]) [] [(0, true), (1, true), (2, true), (3, false), (4, false)] mixed (fun _ _ _ _ _ h => h) (by kernel_rfl) ?_
  replace hbq : Bx w2.drew bq _ _ := hbq
  replace hb4 : Bx w2.drew b4 _ _ := hb4
  replace hb5 : Bx w2.drew b5 _ _ := hb5
  replace hE : Ext w w2.drew := Fr.drew hE
  have hS8 := hbq
  have hzz : w2.drew.heap.size = w2.heap.size := rfl
  refine kr_val rfl (hS8) (fun w' hS' => y_move) rfl rfl rfl ?_
  refine kr_val rfl (hS8) (fun w' hS' => y_fieldAddr Try.underlying172 rfl I28 S28 rfl rfl) rfl rfl rfl ?_
  refine kr_val rfl (hS8) (fun w' hS' => y_load rfl (ld_one Try.underlying28 rfl (hS'.cs.at (i := 0) rfl))) rfl rfl rfl ?_
  refine kr_ow rfl rfl (ow_store (b := b4) (o := 0) I26 S26 rfl (v := .slice none 0 0) (xs := [.slice none 0 0]) rfl hb4 rfl (by rfl) (by show _ ≤ _; simp; omega) (One'.single rfl) (fun w5 hb4' hf5 hz5 => ?_))
  replace hb4 := bx_eq hb4' (splice_all (by rw [hl4]; rfl))
  replace hb5 := hb5.keep hf5 (by omega)
  replace hbq := hbq.keep hf5 (by omega)
  replace hS8 := hbq
  refine ⟨(fun _ => hS8), ?_⟩
  refine kr_ow rfl rfl (ow_store (b := b5) (o := 0) I28 S28 rfl (v := .int .u16 (e : Int)) (xs := [.int .u16 (e : Int)]) rfl hb5 rfl rfl (by rw [hl5]; exact Nat.le_refl 1) (One'.single rfl) (fun w6 hb5' hf6 hz6 => ?_))
  replace hb5 := bx_eq hb5' (splice_all hl5)
  replace hb4 := hb4.keep hf6 (by omega)
  replace hbq := hbq.keep hf6 (by omega)
  replace hS8 := hbq
  refine ⟨(fun _ => hS8), ?_⟩
  refine kr_nil ?_
  refine x_blk ?_
  exact k_end0 rfl ⟨⟨_, rfl⟩, hb4, hb5, (hE.fr.trans' hf5 (fun i hi e => .inl e)).trans' hf6 (fun i hi e => .inr e)⟩

set_option maxRecDepth 100000 in
set_option maxHeartbeats 2000000 in
theorem wholeUsers_R {v : Value} {bs : List UInt8} {B : Nat → Prop} {w : World} (hb : SlR w B v 1 bs.length (bvs bs)) (hB : ∀ b, B b → b < w.heap.size) :
    Ret Try.prog 49 #[v, .func (.func 50) #[] #[]] w (fun u w' => Ext w w' ∧ WholeR (pWhole pUsers bs) (fun v x => SlX UsrR 3 w' (Nw w w') v x) (.slice none 0 0) u) := by
  refine k_enterD Try.func49 rfl Try.ntmps49 rfl ?_
  rw [args2]
  refine k_seq ?_
  refine k_region ?_
  refine kl_ow rfl (ow_alloc I26 Z26 rfl (fun w1 b4 hb4 hf4 he4 hz4 => ?_))
  replace hb4 := bx_eq hb4 (show _ = [.slice none 0 0] from rfl)
  have hl4 : ([.slice none 0 0] : List Value).length = 1 := rfl
  refine kl_ow rfl (ow_alloc I28 Z28 rfl (fun w2 b5 hb5 hf5 he5 hz5 => ?_))
  replace hb5 : Bx w2 b5 28 [.int .u16 0] := hb5
  have hE : Ext w w2 := hf4.trans hf5
  replace hb4 := hb4.keep hf5 (fun h => h)
  obtain ⟨a, cap, rfl⟩ := hb.form
  replace hb := hb.keep hE (fun _ _ h => h)
  have hw2 : w2.heap.size = w.heap.size + 2 := by omega
  refine kl_nil ?_
  refine x_seq ?_
  refine k_seq ?_
  refine k_seq ?_
  refine k_region ?_
  refine kl_val (y_move) rfl rfl rfl ?_
  refine kl_val (y_lenS Try.underlying22 rfl) rfl rfl rfl ?_
  refine kl_val (y_gtr rfl rfl) rfl rfl rfl ?_
  refine kl_nil ?_
  refine x_seq ?_
  refine k_condp rfl (fun hlong => ?_) (fun hlong => ?_)
  · skip
    refine k_seq ?_
    refine k_region ?_
    refine kl_val (y_load rfl (ld_one Try.underlying26 rfl (hb4.cs.at (i := 0) rfl))) rfl rfl rfl ?_
    refine kl_ow rfl (ow_store (b := b4) (o := 0) I26 S26 rfl (v := .slice none 0 0) (xs := [.slice none 0 0]) rfl hb4 rfl (rfl) (by rw [hl4]; show 0 + ([.slice none 0 0] : List Value).length ≤ _; rw [show ([.slice none 0 0] : List Value).length = 1 from rfl]; omega) (One'.single rfl) (fun w5 hb4' hf5 hz5 => ?_))
    replace hb4 := bx_eq hb4' (splice_all rfl)
    replace hb5 := hb5.keep hf5 (by omega)
    replace hE := hE.trans' hf5 (fun i hi e => absurd e (by omega))
    refine kl_ow rfl (ow_store (b := b5) (o := 0) I28 S28 rfl (v := .int .u16 3) (xs := [.int .u16 3]) rfl hb5 rfl rfl (Nat.le_refl 1) (One'.single rfl) (fun w6 hb5' hf6 hz6 => ?_))
    replace hb5 := bx_eq hb5' (splice_all rfl)
    replace hb4 := hb4.keep hf6 (by omega)
    replace hE := hE.trans' hf6 (fun i hi e => absurd e (by omega))
    refine kl_nil ?_
    refine x_seq ?_
    refine k_ret ?_
    refine x_seqR ?_
    exact kD_nil (res_cells2 rfl (ac_tmp rfl) (ac_tmp rfl) (ld_one Try.underlying26 rfl (hb4.cs.at (i := 0) rfl)) (ld_one Try.underlying28 rfl (hb5.cs.at (i := 0) rfl))) ⟨_, rfl, hE, .inr ⟨3, by unfold pWhole; rw [if_pos (by omega)], rfl⟩⟩
  · skip
    have hP : ∀ (w' : World) (e : Nat) (xs4 xs5 : List Value), Bx w' b4 26 xs4 → Bx w' b5 28 xs5 → xs4.length = 1 → xs5.length = 1 → Ext w w' → pWhole pUsers bs = .error e → ∀ tmps : Array Value, tmps.getD 4 undef = .pointer (some ⟨b4, 0, none⟩) → tmps.getD 5 undef = .pointer (some ⟨b5, 0, none⟩) →
        Leaves Try.prog Try.f49 tmps (fun e w' => ∃ v, e = .returned v ∧ Ext w w' ∧ WholeR (pWhole pUsers bs) (fun v x => SlX UsrR 3 w' (Nw w w') v x) (.slice none 0 0) v) [{ target := .fn (.func 98) #[.pointer (some ⟨b4, 0, none⟩), .pointer (some ⟨b5, 0, none⟩)], args := #[] }] (.panicking (wrong e)) w' := by
      intro w' e xs4 xs5 h4 h5 hl4 hl5 hE' hq tmps ht4 ht5
      refine leaves_cons (by simp) (invoke_closure fn98 _ _) ?_
      refine (clUsers_pan h4 h5 hl4 hl5 (by omega)).mono ?_
      rintro ek u' w2 ⟨rfl, ⟨v, rfl⟩, g4, g5, hf⟩
      exact ⟨_, res_cells2 rfl ht4 ht5 (ld_one Try.underlying26 rfl (g4.cs.at (i := 0) rfl)) (ld_one Try.underlying28 rfl (g5.cs.at (i := 0) rfl)), _, rfl, hE'.trans' hf (fun i hi e => absurd e (by omega)), .inr ⟨e, hq, rfl⟩⟩
    have hQ : ∀ (w' : World) (v : Value) (tmps : Array Value), tmps.getD 4 undef = .pointer (some ⟨b4, 0, none⟩) → tmps.getD 5 undef = .pointer (some ⟨b5, 0, none⟩) → Ext w w' → (∀ w2, Ext w' w2 → Ld Try.prog w2 26 ⟨b4, 0, none⟩ v ∧ (∃ xs, Bx w2 b5 28 [xs] ∧ WholeR (pWhole pUsers bs) (fun v x => SlX UsrR 3 w2 (Nw w w2) v x) (.slice none 0 0) (.tuple #[v, xs]))) →
        Leaves Try.prog Try.f49 tmps (fun e w' => ∃ v, e = .returned v ∧ Ext w w' ∧ WholeR (pWhole pUsers bs) (fun v x => SlX UsrR 3 w' (Nw w w') v x) (.slice none 0 0) v) [{ target := .fn (.func 98) #[.pointer (some ⟨b4, 0, none⟩), .pointer (some ⟨b5, 0, none⟩)], args := #[] }] .returning w' := by
      intro w' v tmps ht4 ht5 hE' hv
      refine leaves_cons (by simp) (invoke_closure fn98 _ _) ?_
      refine clUsers_ret.mono ?_
      rintro ek u' w2 ⟨rfl, ⟨v', rfl⟩, hf⟩
      obtain ⟨hl, xs, hb5', hW⟩ := hv w2 hf
      exact ⟨_, res_cells2 rfl ht4 ht5 hl (ld_one Try.underlying28 rfl (hb5'.cs.at (i := 0) rfl)), _, rfl, hE'.trans hf, hW⟩
    refine k_skip ?_
    refine x_seq ?_
    refine k_seq ?_
    refine k_region ?_
    refine kl_val (y_func2 rfl rfl) rfl rfl rfl ?_
    refine kl_ow rfl (ow_defer0 rfl ?_)
    refine kl_nil ?_
    refine x_seq ?_
    refine k_seq ?_
    refine k_region ?_
    refine kl_val (y_move) rfl rfl rfl ?_
    refine kl_val (y_build (cells := #[.slice a bs.length cap]) rfl (by kernel_rfl)) rfl rfl rfl ?_
    refine kl_ow rfl (ow_box rfl rfl (fun w3 bp hbp hf3 he3 hz3 => ?_))
    replace hbp : Bx w3 bp 173 [.slice a bs.length cap] := hbp
    have hR : Rd w3 B ⟨bp, 0, none⟩ (.slice a bs.length cap) bs := ⟨hbp.cs.at (i := 0) rfl, by unfold Bx at hbp; simp [World.frozen?, hbp], hb.keep hf3 (fun _ _ h => h), fun i hi => (by have h1 := hB i hi; show i < bp; omega), by omega⟩
    replace hb4 := hb4.keep hf3 (fun h => h)
    replace hb5 := hb5.keep hf3 (fun h => h)
    replace hE := hE.trans hf3
    refine kl_val (y_assign) rfl rfl rfl ?_
    refine kl_nil ?_
    refine x_seq ?_
    refine k_seq ?_
    refine k_region ?_
    refine kl_val (y_move) rfl rfl rfl ?_
    refine kl_val (y_move) rfl rfl rfl ?_
    refine kl_ow rfl (ow_call1 fn50 rfl rfl rfl (users_r hR) (kret_retP (fun u w4 ⟨x, rest, v4, hx, hR4, hf, hu⟩ => ?_) (fun c w' ⟨e, he, hc, hf⟩ => (by intro tmps ht; subst hc; exact hP w' e _ _ (hb4.keep hf (by show ¬ b4 = bp; omega)) (hb5.keep hf (by show ¬ b5 = bp; omega)) hl4 rfl (hE.trans' hf (fun i hi e => absurd (show i = bp from e) (by omega))) (by unfold pWhole; rw [if_neg (by omega), he]) tmps (ht 4) (ht 5)))))
    have hX := hu
    have hcl : ([u] : List Value).length = 1 := rfl
    have hone := One'.single hX.one.1
    replace hb4 := hb4.keep hf (by show ¬ b4 = bp; omega)
    replace hb5 := hb5.keep hf (by show ¬ b5 = bp; omega)
    replace hE := hE.trans' hf (fun i hi e => absurd (show i = bp from e) (by omega))
    have hs4 := hf.size
    clear hR hf
    refine kl_ow rfl (ow_store (b := b4) (o := 0) I26 S26 rfl (v := u) (xs := [u]) rfl hb4 hX.one.2 (rfl) (by rw [hl4]; show 0 + ([u] : List Value).length ≤ _; rw [show ([u] : List Value).length = 1 from rfl]; omega) (hone) (fun w5 hb4' hf5 hz5 => ?_))
    replace hb4 := bx_eq hb4' (splice_all (by rw [hl4]; exact (rfl).symm))
    replace hb5 := hb5.keep hf5 (by omega)
    replace hE := hE.trans' hf5 (fun i hi e => absurd e (by omega))
    replace hX := hX.keep hf5 (fun i hi => by have := hi.1; omega) (fun _ _ h => h.keep _ _)
    replace hR4 := hR4.keep hf5 (by show ¬ bp = b4; omega) (fun i hi => by have := hB i hi; omega)
    obtain ⟨ra, rc, rfl⟩ := hR4.sl.form
    refine kl_nil ?_
    refine x_seq ?_
    refine k_seq ?_
    refine k_seq ?_
    refine k_region ?_
    refine kl_val (y_move) rfl rfl rfl ?_
    refine kl_val (y_nil rfl) rfl rfl rfl ?_
    refine kl_val (y_fieldAddr Try.underlying173 rfl I22 S22 rfl rfl) rfl rfl rfl ?_
    refine kl_val (y_load rfl (ld_one Try.underlying22 rfl hR4.cell)) rfl rfl rfl ?_
    refine kl_val (y_lenS Try.underlying22 rfl) rfl rfl rfl ?_
    refine kl_val (y_gtr rfl rfl) rfl rfl rfl ?_
    refine kl_nil ?_
    refine x_seq ?_
    refine k_condp rfl (fun hrest => ?_) (fun hrest => ?_)
    · skip
      refine k_region ?_
      exact kl_ow rfl (ow_call1 fn99 rfl rfl rfl (fail_p 11) (kret_retP (fun _ _ h => h.elim) (fun c w' hc => (by intro tmps ht; rw [hc.1, hc.2]; exact hP _ 11 _ _ hb4 hb5 (rfl) rfl hE (by unfold pWhole; rw [if_neg (by omega), hx]; show (if rest = [] then _ else _) = _; rw [if_neg (by rintro rfl; simp at hrest)]) tmps (ht 4) (ht 5)))))
    · skip
      have hr0 : rest = [] := List.eq_nil_of_length_eq_zero (by omega)
      subst hr0
      refine k_skip ?_
      refine x_seq ?_
      refine k_seq ?_
      refine k_region ?_
      refine kl_val (y_load rfl (ld_one Try.underlying26 rfl (hb4.cs.at (i := 0) rfl))) rfl rfl rfl ?_
      refine kl_ow rfl (ow_store (b := b4) (o := 0) I26 S26 rfl (v := u) (xs := [u]) rfl hb4 hX.one.2 (rfl) (by omega) (hone) (fun w6 hb4' hf6 hz6 => ?_))
      replace hb4 := bx_eq hb4' (splice_all rfl)
      replace hb5 := hb5.keep hf6 (by omega)
      replace hE := hE.trans' hf6 (fun i hi e => absurd e (by omega))
      replace hX := hX.keep hf6 (fun i hi => by have := hi.1; omega) (fun _ _ h => h.keep _ _)
      refine kl_ow rfl (ow_store (b := b5) (o := 0) I28 S28 rfl (v := .int .u16 0) (xs := [.int .u16 0]) rfl hb5 rfl rfl (Nat.le_refl 1) (One'.single rfl) (fun w7 hb5' hf7 hz7 => ?_))
      replace hb5 := bx_eq hb5' (splice_all rfl)
      replace hb4 := hb4.keep hf7 (by omega)
      replace hE := hE.trans' hf7 (fun i hi e => absurd e (by omega))
      replace hX := hX.keep hf7 (fun i hi => by have := hi.1; omega) (fun _ _ h => h.keep _ _)
      refine kl_nil ?_
      refine x_seq ?_
      refine k_ret ?_
      refine kD_R (hQ _ (u) _ (ac_tmp rfl) (ac_tmp rfl) hE (fun w2 hf => ?_))
      have g4 := hb4.keep hf (fun h => h)
      exact ⟨(ld_one Try.underlying26 rfl (g4.cs.at (i := 0) rfl)), _, hb5.keep hf (fun h => h), .inl ⟨x, _, by unfold pWhole; rw [if_neg (by omega), hx]; rfl, rfl, (hX.keep hf (fun _ _ h => h) (fun _ _ h => h.keep _ _)).mono (fun i hi => ⟨by have := hi.1; omega, by have h1 := hi.2; have h2 := hf.size; omega⟩) (fun _ _ h => h.keep _ _)⟩⟩

set_option maxRecDepth 100000 in
set_option maxHeartbeats 1000000 in
theorem ReadUsers_R {v : Value} {bs : List UInt8} {B : Nat → Prop} {w : World} (hb : SlR w B v 1 bs.length (bvs bs)) (hB : ∀ b, B b → b < w.heap.size) :
    Ret Try.prog 10 #[v] w (fun u w' => Ext w w' ∧ WholeR (pWhole pUsers bs) (fun v x => SlX UsrR 3 w' (Nw w w') v x) (.slice none 0 0) u) := by
  refine k_enter1 Try.func10 rfl Try.ntmps10 rfl ?_
  refine k_seq ?_
  refine k_region ?_
  refine kl_val (y_assign) rfl rfl rfl ?_
  refine kl_val (y_assign) rfl rfl rfl ?_
  refine kl_nil ?_
  refine x_seq ?_
  refine k_seq ?_
  refine k_region ?_
  refine kl_val (y_move) rfl rfl rfl ?_
  refine kl_ow rfl (ow_call2 fn49 rfl rfl rfl rfl (wholeUsers_R hb hB) (kret_ret (fun u w' ⟨hE, hW⟩ => ?_)))
  obtain ⟨v0, v1, rfl⟩ : ∃ v0 v1, u = .tuple #[v0, v1] := by
    rcases hW with ⟨x, v, _, h, _⟩ | ⟨e, _, h⟩
    · exact ⟨_, _, h⟩
    · exact ⟨_, _, h⟩
  refine kl_val (y_extract rfl rfl) rfl rfl rfl ?_
  refine kl_val (y_extract rfl rfl) rfl rfl rfl ?_
  refine kl_val (y_assign) rfl rfl rfl ?_
  refine kl_val (y_assign) rfl rfl rfl ?_
  refine kl_nil ?_
  refine x_seq ?_
  refine k_ret ?_
  exact k_ret2 rfl rfl rfl ⟨_, rfl, hE, hW⟩

end Go.Proofs.Ythpocekigliomaa.K
