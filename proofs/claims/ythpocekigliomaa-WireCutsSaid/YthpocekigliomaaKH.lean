/- What was written reads back, and no part of it does. Condition: things in range. -/
import Derived.Test.YthpocekigliomaaKG
namespace Go.Proofs.Ythpocekigliomaa.K
open Go

/-- bs reads as x, whatever follows; a part of bs is too short. -/
structure Gd {X : Type} (get : PR X) (bs : By) (x : X) : Prop where
  rt : ∀ r, get (bs ++ r) = .ok (x, r)
  cut : ∀ n, n < bs.length → get (bs.take n) = .error 10
theorem gd_eq {X : Type} {get : PR X} {bs bs' : By} {x y : X} (h : Gd get bs y) (e : bs = bs') (e' : y = x) : Gd get bs' x := e ▸ e' ▸ h
theorem gd_pure {X : Type} (x : X) : Gd (pPure x) [] x := ⟨fun _ => rfl, fun _ h => absurd h (by simp)⟩
theorem gd_bind {X Z : Type} {a : PR X} {f : X → PR Z} {A C : By} {x : X} {z : Z} (ha : Gd a A x) (hf : Gd (f x) C z) : Gd (pBind a f) (A ++ C) z := by
  refine ⟨fun r => ?_, fun n hn => ?_⟩
  · rw [List.append_assoc, pBind_ok (ha.rt _)]; exact hf.rt r
  · by_cases h : n < A.length
    · rw [List.take_append_of_le_length (by omega)]
      exact pBind_err (ha.cut n h)
    · rw [List.take_append, List.take_of_length_le (by omega), pBind_ok (ha.rt _)]
      exact hf.cut _ (by simp at hn; omega)
theorem gd_take {k : Nat} {l : By} (h : l.length = k) : Gd (pTake k) l l := by
  refine ⟨fun r => pTake_app h, fun n hn => ?_⟩
  unfold pTake
  rw [if_pos (by simp; omega)]
theorem numFrom_cut {most : Nat} : ∀ (k i acc n m : Nat), 0 < k → n < 128 ^ k → m < (num n).length → pNumFrom most k i acc ((num n).take m) = .error 10
  | 0, _, _, _, _, h, _, _ => absurd h (by omega)
  | k + 1, i, acc, n, 0, _, _, _ => by simp [pNumFrom]
  | k + 1, i, acc, n, m + 1, _, hn, hm => by
    by_cases h : n < 128
    · rw [num_lt h] at hm; simp at hm
    · rw [num_ge (by omega), List.length_cons] at hm
      have hb : (UInt8.ofNat (n % 128 + 128)).toNat = n % 128 + 128 := u8_ofNat (by omega)
      have hk : 0 < k := by
        rcases Nat.eq_zero_or_pos k with rfl | hk
        · simp at hn; omega
        · exact hk
      rw [num_ge (by omega), List.take_succ_cons, num_more (by omega)]
      exact numFrom_cut k _ _ (n / 128) m hk (by rw [Nat.pow_succ] at hn; omega) (by omega)
theorem gd_num {most : Nat} {x : Int} (h0 : 0 ≤ x) (h1 : x ≤ most) (hm : most ≤ 1099511627776) : Gd (pNum most) (numI x) x.toNat := by
  refine ⟨fun r => pNum_numI h0 h1 hm, fun n hn => ?_⟩
  have e : numI x = num x.toNat := by unfold numI clamp; congr 1; omega
  rw [e] at hn ⊢
  exact numFrom_cut 6 0 0 _ n (by omega) (by omega) hn
theorem gd_N {x : Int} (h : Nn x) : Gd pN (numI x) x.toNat := gd_num h.1 (by have := h.2; omega) (by omega)
theorem gd_text {l : By} (h : l.length ≤ 60000) : Gd pText (wText l) l :=
  gd_bind (gd_num (x := (l.length : Int)) (by omega) (by omega) (by omega)) (gd_take (by omega))
theorem gd_truth (b : Bool) : Gd pTruth (wTruth b) b := by
  refine ⟨fun r => pTruth_w, fun n hn => ?_⟩
  have hl : (wTruth b).length = 1 := by
    cases b
    · show (numI 0).length = 1; unfold numI; rw [num_lt (by decide)]; rfl
    · show (numI 1).length = 1; unfold numI; rw [num_lt (by decide)]; rfl
  obtain rfl : n = 0 := by omega
  rfl
theorem gd_allN {X : Type} {get : PR X} {put : X → By} : ∀ (xs : List X), (∀ x ∈ xs, Gd get (put x) x) → Gd (pAllN get xs.length) (xs.flatMap put) xs
  | [], _ => gd_pure _
  | x :: xs, h => gd_eq (gd_bind (f := fun x => pBind (pAllN get xs.length) fun xs => pPure (x :: xs)) (h x (by simp)) (gd_bind (gd_allN xs (fun y hy => h y (by simp [hy]))) (gd_pure _))) (by simp) rfl
theorem gd_all {X : Type} {get : PR X} {put : X → By} {xs : List X} (hl : xs.length ≤ 60000) (h : ∀ x ∈ xs, Gd get (put x) x) : Gd (pAll get) (wEach put xs) xs :=
  gd_bind (gd_num (x := (xs.length : Int)) (by omega) (by omega) (by omega)) (by rw [show ((xs.length : Int)).toNat = xs.length by omega]; exact gd_allN xs h)
theorem gd_idk {x : IdKey} (h : x.Ok) : Gd pIdKey (wIdKey x) x :=
  gd_eq (gd_bind (gd_N h.id) (gd_bind (gd_take h.key) (gd_pure _))) (by simp [wIdKey]) (by rw [toNat' h.id])
theorem gd_hdr {x : Hdr} (h : x.Ok) : Gd pHdr (wHdr x) x :=
  gd_eq (gd_bind (gd_take h.ratchet) (gd_bind (gd_N h.prev) (gd_bind (gd_N h.n) (gd_pure _)))) (by simp [wHdr]) (by rw [toNat' h.prev, toNat' h.n])
theorem gd_env {x : Env'} (h : x.Ok) : Gd pEnv (wEnv x) x :=
  gd_eq (gd_bind (gd_N h.src) (gd_bind (gd_N h.device) (gd_bind (gd_truth x.first) (gd_bind (gd_take h.eph) (gd_bind (gd_N h.signed) (gd_bind (gd_N h.one) (gd_bind (gd_hdr h.head) (gd_bind (gd_text h.body) (gd_pure _)))))))))
    (by rw [wEnv, show min x.one 1099511627775 + 1 = x.one + 1 by have := h.one.2; omega]; simp) (by rw [toNat' h.src, toNat' h.device, toNat' h.signed, toNat' h.one, show x.one + 1 - 1 = x.one by omega])
theorem gd_item {x : Item'} (h : x.Ok) : Gd pItem (wItem x) x :=
  gd_eq (gd_bind (gd_N h.device) (gd_bind (gd_env h.env) (gd_pure _))) (by simp [wItem]) (by rw [toNat' h.device])
theorem gd_lst {x : Lst} (h : x.Ok) : Gd pLst (wLst x) x :=
  gd_eq (gd_bind (gd_N h.account) (gd_bind (gd_N h.version) (gd_bind (gd_take h.ident) (gd_bind (gd_all h.dl (fun d hd => gd_idk (h.devices d hd))) (gd_bind (gd_take h.sig) (gd_pure _)))))) (by simp [wLst]) (by rw [toNat' h.account, toNat' h.version])
theorem gd_bdl {x : Bdl} (h : x.Ok) : Gd pBdl (wBdl x) x :=
  gd_eq (gd_bind (gd_N h.account) (gd_bind (gd_N h.device) (gd_bind (gd_take h.ident) (gd_bind (gd_take h.key) (gd_bind (gd_idk h.signed) (gd_bind (gd_take h.sig) (gd_bind (gd_all h.ol (fun d hd => gd_idk (h.one d hd))) (gd_pure _)))))))) (by simp [wBdl])
    (by rw [toNat' h.account, toNat' h.device])
theorem gd_slot {x : Slot'} (h : x.Ok) : Gd pSlot (wSlot x) x :=
  gd_eq (gd_bind (gd_N h.device) (gd_bind (gd_idk h.signed) (gd_bind (gd_take h.sig) (gd_bind (gd_all h.ol (fun d hd => gd_idk (h.ones d hd))) (gd_bind (gd_N h.last) (gd_bind (gd_all h.ml (fun d hd => gd_env (h.mail d hd))) (gd_pure _))))))) (by simp [wSlot])
    (by rw [toNat' h.device, toNat' h.last])
theorem gd_req {x : Req} (h : x.Ok) : Gd pReq (wReq x) x :=
  gd_eq (gd_bind (gd_num (x := (x.kind : Int)) (by omega) (by have := h.kind; omega) (by omega)) (gd_bind (gd_N h.account) (gd_bind (gd_N h.device) (gd_bind (gd_text h.pin) (gd_bind (gd_text h.next) (gd_bind (gd_text h.name) (gd_bind (gd_lst h.list) (gd_bind (gd_take h.token)
    (gd_bind (gd_idk h.signed) (gd_bind (gd_take h.sig) (gd_bind (gd_all h.ol (fun d hd => gd_idk (h.ones d hd))) (gd_bind (gd_N h.version) (gd_bind (gd_all h.il (fun d hd => gd_item (h.items d hd))) (gd_pure _)))))))))))))) (by simp [wReq])
    (by rw [toNat' h.account, toNat' h.device, toNat' h.version, show ((x.kind : Int)).toNat = x.kind by omega]; rfl)
theorem gd_rsp {x : Rsp} (h : x.Ok) : Gd pRsp (wRsp x) x :=
  gd_eq (gd_bind (gd_num (x := (x.err : Int)) (by omega) (by have := h.err; omega) (by omega)) (gd_bind (gd_lst h.list) (gd_bind (gd_bdl h.bundle) (gd_bind (gd_all h.ml (fun d hd => gd_env (h.mail d hd))) (gd_pure _))))) (by simp [wRsp])
    (by rw [show ((x.err : Int)).toNat = x.err by omega])
theorem gd_acct {x : Acct} (h : x.Ok) : Gd pAcct (wAcct x) x :=
  gd_eq (gd_bind (gd_N h.id) (gd_bind (gd_text h.pin) (gd_bind (gd_N h.wrong) (gd_bind (gd_N h.till) (gd_bind (gd_lst h.list) (gd_bind (gd_all h.sl (fun d hd => gd_slot (h.slots d hd))) (gd_bind (gd_all (put := fun k => k) h.tl (fun d hd => gd_take (h.tokens d hd))) (gd_pure _))))))))
    (by simp [wAcct]) (by rw [toNat' h.id, toNat' h.wrong, toNat' h.till]; rfl)
theorem gd_usr {x : Usr} (h : x.Ok) : Gd pUsr (wUsr x) x :=
  gd_eq (gd_bind (gd_text h.name) (gd_bind (gd_N h.account) (gd_bind (gd_truth x.sure) (gd_pure _)))) (by simp [wUsr]) (by rw [toNat' h.account]; rfl)
theorem gd_whole {X : Type} {get : PR X} {bs : By} {x : X} (h : Gd get bs x) (hl : bs.length ≤ 60000) : pWhole get bs = .ok x := pWhole_w hl (h.rt [])
theorem gd_part {X : Type} {get : PR X} {bs : By} {x : X} (h : Gd get bs x) (hl : bs.length ≤ 60000) {n : Nat} (hn : n < bs.length) : pWhole get (bs.take n) = .error 10 := by
  unfold pWhole
  rw [if_neg (by simp; omega), h.cut n hn]
theorem gd_more {X : Type} {get : PR X} {bs : By} {x : X} (h : Gd get bs x) (hl : bs.length ≤ 50000) (b : UInt8) : pWhole get (bs ++ [b]) = .error 11 := by
  unfold pWhole
  rw [if_neg (by simp; omega), h.rt [b]]
  simp
theorem gd_long {X : Type} {get : PR X} {bs : By} (hl : 60000 < bs.length) : pWhole get bs = .error 3 := by
  unfold pWhole
  rw [if_pos hl]
/-! ### How long what is drawn gets -/
theorem wEnv_len2 {x : Env'} (h : x.Ok) : (wEnv x).length ≤ 200 + x.body.length := by
  have h1 := numI_length x.src
  have h2 := numI_length x.device
  have h3 := wTruth_length x.first
  have h4 := h.eph
  have h5 := numI_length x.signed
  have h6 := numI_length (min x.one 1099511627775 + 1)
  have h7 := wText_length x.body
  have h8 := numI_length x.head.prev
  have h9 := numI_length x.head.n
  have ha := h.head.ratchet
  simp only [wEnv, wHdr, List.length_append]
  omega
theorem chEnv_wlen (c : By) {i : Nat} (h : i ≤ 1000) : (wEnv (chEnv c i)).length ≤ 300 := by
  have := wEnv_len2 (chEnv_ok c h)
  have := chEnv_body c i
  omega
theorem chReq_wlen (c : By) : (wReq (chReq c)).length ≤ 3000 := by
  have hk := (chReq_ok c).1
  have h1 := numI_length (chReq c).kind
  have h2 := numI_length (chReq c).account
  have h3 := numI_length (chReq c).device
  have h4 := wText_length (sBytes (chReq c).pin)
  have h5 := wText_length (sBytes (chReq c).next)
  have h6 := wText_length (sBytes (chReq c).name)
  have h7 := wLst_len hk.list (n := 4) (chList_ok c).2
  have h8 := hk.token
  have h9 := idk_wlen hk.signed.key
  have ha := hk.sig
  have hb := each_len wIdKey (chReq c).ones 38 (fun d hd => idk_wlen (hk.ones d hd).key)
  have hc := numI_length (chReq c).version
  have hd := each_len wItem (chReq c).items 310 (fun d hd => by
    simp only [chReq, List.mem_map, List.mem_range] at hd
    obtain ⟨j, hj, rfl⟩ := hd
    have := numI_length (chItem c j).device
    have := chEnv_wlen c (i := 11 + j) (by omega)
    simp only [wItem, List.length_append]
    show _ + (wEnv (chEnv c (11 + j))).length ≤ 310
    omega)
  have he : (chReq c).ones.length ≤ 3 := (chPres_ok c (i := 8) (by omega)).1
  have hf := (chReq_ok c).2
  have hp : (sBytes (chReq c).pin).length ≤ 3 := by show (c.take (min c.length 3)).length ≤ 3; simp only [List.length_take]; omega
  have hq : (sBytes (chReq c).next).length ≤ 0 := Nat.le_refl 0
  have hr : (sBytes (chReq c).name).length ≤ 1 := Nat.le_refl 1
  simp only [wReq, List.length_append]; omega
theorem chSlot_ok (c : By) {j : Nat} (h : j ≤ 900) : (chSlot c j).Ok ∧ (wSlot (chSlot c j)).length ≤ 700 := by
  have ho := chPres_ok c (i := 7 + j) (by omega)
  have hs : (chSlot c j).signed.Ok := ⟨nm_Nn (by omega), z32_len⟩
  refine ⟨⟨nm_Nn (by omega), hs, z64_len, by show (chPres c (7 + j)).length ≤ _; omega, ho.2, nm_Nn (by omega), by show 1 ≤ _; omega, fun d hd => by simp [chSlot] at hd; subst hd; exact chEnv_ok c (by omega)⟩, ?_⟩
  have h1 := numI_length (chSlot c j).device
  have h2 := idk_wlen hs.key
  have h3 : (chSlot c j).sig.length = 64 := z64_len
  have h4 := each_len wIdKey (chSlot c j).ones 38 (fun d hd => idk_wlen (ho.2 d hd).key)
  have h5 := numI_length (chSlot c j).last
  have h6 := each_len wEnv (chSlot c j).mail 300 (fun d hd => by simp [chSlot] at hd; subst hd; exact chEnv_wlen c (by omega))
  have h7 : (chSlot c j).ones.length ≤ 3 := ho.1
  have h8 : (chSlot c j).mail.length = 1 := rfl
  simp only [wSlot, List.length_append]; omega
theorem chAcct_ok (c : By) : (chAcct c).Ok ∧ (wAcct (chAcct c)).length ≤ 4000 ∧ (chAcct c).slots.length ≤ 3 ∧ (chAcct c).tokens.length ≤ 3 := by
  have hsl : (chAcct c).slots.length ≤ 3 := by simp only [chAcct, List.length_map, List.length_range]; omega
  have htl : (chAcct c).tokens.length ≤ 3 := by simp only [chAcct, List.length_map, List.length_range]; omega
  have hs : ∀ d ∈ (chAcct c).slots, d.Ok ∧ (wSlot d).length ≤ 700 := fun d hd => by
    simp only [chAcct, List.mem_map, List.mem_range] at hd
    obtain ⟨j, hj, rfl⟩ := hd
    exact chSlot_ok c (by omega)
  have ht : ∀ d ∈ (chAcct c).tokens, d.length = 32 := fun d hd => by
    simp only [chAcct, List.mem_map, List.mem_range] at hd
    obtain ⟨j, hj, rfl⟩ := hd
    exact keyOf_len _ _
  have hl := (chList_ok c).1
  refine ⟨⟨nm_Nn (by omega), (show ([49, 50] : By).length ≤ 60000 by decide), ⟨by show (0 : Int) ≤ ((nm c 1 % 3 : Nat) : Int); omega, by show ((nm c 1 % 3 : Nat) : Int) ≤ _; omega⟩, nm_Nn (by omega), hl, by omega, fun d hd => (hs d hd).1, by omega, ht⟩, ?_, hsl, htl⟩
  have h1 := numI_length (chAcct c).id
  have h2 := wText_length (sBytes (chAcct c).pin)
  have h3 := numI_length (chAcct c).wrong
  have h4 := numI_length (chAcct c).till
  have h5 : (wLst (chAcct c).list).length ≤ 120 + 4 * 38 := wLst_len hl (chList_ok c).2
  have h6 := each_len wSlot (chAcct c).slots 700 (fun d hd => (hs d hd).2)
  have h7 := each_len (X := List UInt8) (fun (k : List UInt8) => (k : List UInt8)) (chAcct c).tokens 32 (fun d hd => Nat.le_of_eq (ht d hd))
  have h8 : (sBytes (chAcct c).pin).length ≤ 2 := Nat.le_refl 2
  have e : (wAcct (chAcct c)).length = (numI (chAcct c).id).length + ((wText (sBytes (chAcct c).pin)).length + ((numI (chAcct c).wrong).length + ((numI (chAcct c).till).length + ((wLst (chAcct c).list).length + ((wEach wSlot (chAcct c).slots).length + (wEach (fun (k : List UInt8) => (k : List UInt8)) (chAcct c).tokens).length))))) := by
    simp only [wAcct, List.length_append]
  omega
theorem wAcct_pos (x : Acct) : 0 < (wAcct x).length := by
  have h1 : 0 < (numI x.id).length := num_pos _
  simp only [wAcct, List.length_append]; omega
theorem ow_makeB {P : Program} {n : Nat} {ρ : Env} {k : Ks} {ds : List Deferred} {w : World} {ty : TypeId} {pos : String} {af : Array Edge} {g : Option (Nat × Bool)} {next : List Deferred → Env → World → Prop}
    {t : Tmp} {T e : TypeId} {x y : Operand} {ti : TypeInfo} {m : Nat} (ht : P.underlying T = some (.slice e)) (hi : P.info? e = some ti) (hz : ti.zero = some (.int .u8 0)) (hs : ti.size = 1) (hby : ti.bytes = 1)
    (hx : ev n ρ x = .int .i64 (m : Int)) (hy : ev n ρ y = .int .i64 (m : Int)) (hm : m ≤ 1000000) (hdn : Nat.blt t n = true)
    (h : ∀ v' w' (bs : By), bs.length = m → SlR w' (ownB v') v' 1 bs.length (bvs bs) → (∀ q, ownB v' q → q < w'.heap.size) → Ext w w' → next ds (upd ρ t v') w') :
    OW P n k ⟨some t, .makeSlice T x y, ty, pos, af, g⟩ ds ρ w next := by
  obtain ⟨w', hr, ho, hg⟩ := run_makeSlice_full (P := P) (w := w) 0 T e ti (.int .u8 0) 1 ht hi hz hs .i64 .i64 m (by omega) (by rw [hby]; omega) (by unfold maxLen; omega) (Nat.zero_le _)
  have hc : (madeCells (Value.int .u8 0).cells (m * 1)).toList = bvs (List.replicate m 0) := by
    rw [Nat.mul_one]
    show (madeCells #[.int .u8 0] m).toList = _
    rw [toList_madeCells_one]
    simp [bvs, bv]
  rw [hc] at ho
  have hrun : (execOp (ev n ρ) ⟨some t, .makeSlice T x y, ty, pos, af, g⟩).run P w = .ok (.value (.slice (some ⟨w.heap.size, 0, none⟩) m m)) w' := by
    simp only [execOp, hx, hy, Sem.run_bind, hr, Result.andThen_ok, Sem.run_pure]
  have ho' : w'.ownsRow 0 e 1 (.slice (some ⟨w.heap.size, 0, none⟩) m m) (List.replicate m (0 : UInt8)).length (bvs (List.replicate m 0)) := by simpa using ho
  exact ow_value hrun rfl hdn (h _ _ _ (List.length_replicate (n := m) (a := (0 : UInt8))) (SlR.ofOwn ho' (fun _ h => h)) (fun q hq => own_lt ho hq) (Fr.grown hg (fun _ h => by cases h)))
end Go.Proofs.Ythpocekigliomaa.K
