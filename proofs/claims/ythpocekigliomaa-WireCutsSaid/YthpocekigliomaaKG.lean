/- What a reader answers when it fails; what may be done with bytes that were written. No condition. -/
import Derived.Test.YthpocekigliomaaKM
namespace Go.Proofs.Ythpocekigliomaa.K
open Go

def Er {X : Type} (get : PR X) : Prop := ∀ bs e, get bs = .error e → e = 10 ∨ e = 11
theorem er_bind {X Z : Type} {a : PR X} {f : X → PR Z} (ha : Er a) (hf : ∀ x, Er (f x)) : Er (pBind a f) := fun bs e h => by
  unfold pBind at h
  cases hq : a bs with
  | error e' => rw [hq] at h; cases h; exact ha _ _ hq
  | ok q => rw [hq] at h; exact hf _ _ _ h
theorem er_pure {X : Type} (x : X) : Er (pPure x) := fun _ _ h => by cases h
theorem er_take (n : Nat) : Er (pTake n) := fun _ _ h => .inl (pTake_err h).1
theorem er_numFrom (most : Nat) : ∀ (k i n : Nat), Er (pNumFrom most k i n)
  | 0, _, _ => fun _ _ h => by cases h; exact .inr rfl
  | k + 1, i, n => fun bs e h => by
    cases bs with
    | nil => cases h; exact .inl rfl
    | cons b r =>
      by_cases h1 : 128 ≤ b.toNat
      · rw [num_more h1] at h; exact er_numFrom most k _ _ _ _ h
      · by_cases h2 : (b.toNat = 0 ∧ 0 < i) ∨ most < n + b.toNat % 128 * 128 ^ i
        · rw [num_bad h1 h2] at h; cases h; exact .inr rfl
        · rw [num_good h1 h2] at h; cases h
theorem er_num (most : Nat) : Er (pNum most) := er_numFrom _ _ _ _
theorem er_text : Er pText := er_bind (er_num _) fun _ => er_take _
theorem er_truth : Er pTruth := fun bs e h => by
  cases bs with
  | nil => cases h; exact .inl rfl
  | cons q t =>
    by_cases h1 : 1 < q.toNat
    · rw [pTruth_bad h1] at h; cases h; exact .inr rfl
    · rw [pTruth_good h1] at h; cases h
theorem er_allN {X : Type} {get : PR X} (h : Er get) : ∀ n, Er (pAllN get n)
  | 0 => er_pure _
  | n + 1 => er_bind h fun _ => er_bind (er_allN h n) fun _ => er_pure _
theorem er_all {X : Type} {get : PR X} (h : Er get) : Er (pAll get) := er_bind (er_num _) fun _ => er_allN h _
theorem er_idk : Er pIdKey := er_bind (er_num _) fun _ => er_bind (er_take _) fun _ => er_pure _
theorem er_hdr : Er pHdr := er_bind (er_take _) fun _ => er_bind (er_num _) fun _ => er_bind (er_num _) fun _ => er_pure _
theorem er_env : Er pEnv := er_bind (er_num _) fun _ => er_bind (er_num _) fun _ => er_bind er_truth fun _ => er_bind (er_take _) fun _ => er_bind (er_num _) fun _ => er_bind (er_num _) fun _ => er_bind er_hdr fun _ => er_bind er_text fun _ => er_pure _
theorem er_item : Er pItem := er_bind (er_num _) fun _ => er_bind er_env fun _ => er_pure _
theorem er_lst : Er pLst := er_bind (er_num _) fun _ => er_bind (er_num _) fun _ => er_bind (er_take _) fun _ => er_bind (er_all er_idk) fun _ => er_bind (er_take _) fun _ => er_pure _
theorem er_req : Er pReq := er_bind (er_num _) fun _ => er_bind (er_num _) fun _ => er_bind (er_num _) fun _ => er_bind er_text fun _ => er_bind er_text fun _ => er_bind er_text fun _ => er_bind er_lst fun _ => er_bind (er_take _) fun _ => er_bind er_idk fun _ =>
  er_bind (er_take _) fun _ => er_bind (er_all er_idk) fun _ => er_bind (er_num _) fun _ => er_bind (er_all er_item) fun _ => er_pure _
theorem er_usr : Er pUsr := er_bind er_text fun _ => er_bind (er_num _) fun _ => er_bind er_truth fun _ => er_pure _
theorem er_whole {X : Type} {get : PR X} (h : Er get) {bs : By} {e : Nat} (hw : pWhole get bs = .error e) : e ≠ 0 := by
  unfold pWhole at hw
  split at hw
  · cases hw; decide
  · cases hq : get bs with
    | error e' => rw [hq] at hw; cases hw; rcases h _ _ hq with e | e <;> omega
    | ok q =>
      rw [hq] at hw
      simp only at hw
      split at hw
      · cases hw
      · cases hw; decide
theorem WholeR.three {X : Type} {r : Except Nat X} {R : List Value → X → Prop} {zl : List Value} {u : Value} {n : Nat} (h : WholeR r (fun v x => ∃ cs : List Value, v = .agg cs.toArray ∧ R cs x) (.agg zl.toArray) u) (hz : zl.length = n ∧ One' zl)
    (hR : ∀ cs x, R cs x → cs.length = n ∧ One' cs) (he : ∀ e, r = .error e → e ≠ 0) :
    ∃ (ys : List Value) (e : Nat), u = .tuple #[.agg ys.toArray, .int .u16 (e : Int)] ∧ ys.length = n ∧ One' ys ∧ (e = 0 → ∃ x, r = .ok x ∧ R ys x) := by
  rcases h with ⟨x, v, hr, rfl, cs, rfl, h4⟩ | ⟨e, hr, rfl⟩
  · exact ⟨cs, 0, rfl, (hR _ _ h4).1, (hR _ _ h4).2, fun _ => ⟨x, hr, h4⟩⟩
  · exact ⟨zl, e, rfl, hz.1, hz.2, fun h0 => absurd h0 (he e hr)⟩
theorem WholeR.two {X : Type} {r : Except Nat X} {R : Value → X → Prop} {z u : Value} (h : WholeR r R z u) (he : ∀ e, r = .error e → e ≠ 0) :
    ∃ (v : Value) (e : Nat), u = .tuple #[v, .int .u16 (e : Int)] ∧ (e = 0 → ∃ x, r = .ok x ∧ R v x) := by
  rcases h with ⟨x, v, hr, rfl, h4⟩ | ⟨e, hr, rfl⟩
  · exact ⟨v, 0, rfl, fun _ => ⟨x, hr, h4⟩⟩
  · exact ⟨z, e, rfl, fun h0 => absurd h0 (he e hr)⟩
theorem pUsers_b {bs : By} {xs : List Usr} (h : pWhole pUsers bs = .ok xs) : bs = wEach wUsr xs ∧ xs.length ≤ 60000 ∧ bs.length ≤ 60000 := by
  have := pWhole_b (get := pUsers) (put := wEach wUsr) (ok := fun xs => xs.length ≤ 60000) (fun _ _ _ h => ⟨(pAll_b (fun _ _ _ => pUsr_b) h).1, (pAll_b (fun _ _ _ => pUsr_b) h).2.1⟩) h
  exact this
theorem imp_ex {X : Type} {e : Nat} {P Q Q' : X → Prop} (h : e = 0 → ∃ x, P x ∧ Q x) (hq : ∀ x, Q x → Q' x) : e = 0 → ∃ x, P x ∧ Q' x := fun h0 => by
  obtain ⟨x, h1, h2⟩ := h h0
  exact ⟨x, h1, hq x h2⟩
theorem each_len {X : Type} (f : X → By) (xs : List X) (k : Nat) (h : ∀ x ∈ xs, (f x).length ≤ k) : (wEach f xs).length ≤ 6 + xs.length * k := by
  have hf : (xs.flatMap f).length ≤ xs.length * k := by
    induction xs with
    | nil => simp
    | cons x r ih =>
      have := ih (fun y hy => h y (by simp [hy]))
      have := h x (by simp)
      simp only [List.flatMap_cons, List.length_append, List.length_cons, Nat.add_mul]; omega
  have := numI_length (xs.length : Int)
  simp only [wEach, List.length_append]; omega
theorem idk_wlen {x : IdKey} (h : x.key.length = 32) : (wIdKey x).length ≤ 38 := by
  have := numI_length x.id
  simp only [wIdKey, List.length_append]; omega
theorem chPre_ok (c : By) {i j : Nat} (h : i + j ≤ 100000) : (chPre c i j).Ok := ⟨nm_Nn (by omega), keyOf_len _ _⟩
theorem chPres_ok (c : By) {i : Nat} (h : i ≤ 90000) : (chPres c i).length ≤ 3 ∧ ∀ d ∈ chPres c i, d.Ok := by
  refine ⟨by simp only [chPres, List.length_map, List.length_range]; omega, fun d hd => ?_⟩
  simp only [chPres, List.mem_map, List.mem_range] at hd
  obtain ⟨j, hj, rfl⟩ := hd
  exact chPre_ok c (by omega)
theorem chList_ok (c : By) : (chList c).Ok ∧ (chList c).devices.length ≤ 4 := by
  have hl : (chList c).devices.length ≤ 4 := by simp only [chList, List.length_map, List.length_range]; omega
  refine ⟨⟨nm_Nn (by omega), nm_Nn (by omega), keyOf_len _ _, by omega, fun d hd => ?_, sigOf_len _ _⟩, hl⟩
  simp only [chList, List.mem_map, List.mem_range] at hd
  obtain ⟨j, hj, rfl⟩ := hd
  exact ⟨nm_Nn (by omega), keyOf_len _ _⟩
theorem chItem_ok (c : By) {j : Nat} (h : j ≤ 900) : (chItem c j).Ok := ⟨nm_Nn (by omega), chEnv_ok c (by omega)⟩
theorem chReq_ok (c : By) : (chReq c).Ok ∧ (chReq c).items.length ≤ 2 := by
  have hl : (chReq c).items.length ≤ 2 := by simp only [chReq, List.length_map, List.length_range]; omega
  refine ⟨⟨by show nm c 0 % 15 ≤ 255; omega, nm_Nn (by omega), nm_Nn (by omega), ?_, (show ([] : By).length ≤ 60000 by decide), (show ([97] : By).length ≤ 60000 by decide), (chList_ok c).1, keyOf_len _ _, ⟨nm_Nn (by omega), keyOf_len _ _⟩, sigOf_len _ _, by have := (chPres_ok c (i := 8) (by omega)).1; show (chPres c 8).length ≤ _; omega, (chPres_ok c (by omega)).2, nm_Nn (by omega), by omega, fun d hd => ?_⟩, hl⟩
  · show (c.take (min c.length 3)).length ≤ 60000
    simp only [List.length_take]; omega
  · simp only [chReq, List.mem_map, List.mem_range] at hd
    obtain ⟨j, hj, rfl⟩ := hd
    exact chItem_ok c (by omega)
theorem wLst_len {x : Lst} (h : x.Ok) {n : Nat} (hn : x.devices.length ≤ n) : (wLst x).length ≤ 120 + n * 38 := by
  have h1 := numI_length x.account
  have h2 := numI_length x.version
  have h3 := h.ident
  have h4 := h.sig
  have h5 := each_len wIdKey x.devices 38 (fun d hd => idk_wlen (h.devices d hd).key)
  have h6 : x.devices.length * 38 ≤ n * 38 := Nat.mul_le_mul_right _ hn
  simp only [wLst, List.length_append]; omega
theorem wReq_len {x : Req} (h : x.Ok) {n : Nat} (hd : x.list.devices.length ≤ n) (ho : x.ones.length ≤ n) (hi : x.items.length ≤ n) : (wReq x).length ≤ 200000 + n * 70000 := by
  have h1 := numI_length x.kind
  have h2 := numI_length x.account
  have h3 := numI_length x.device
  have h4 := wText_length (sBytes x.pin)
  have h5 := wText_length (sBytes x.next)
  have h6 := wText_length (sBytes x.name)
  have h7 := wLst_len h.list hd
  have h8 := h.token
  have h9 := idk_wlen h.signed.key
  have ha := h.sig
  have hb := each_len wIdKey x.ones 38 (fun d hd => idk_wlen (h.ones d hd).key)
  have hc := numI_length x.version
  have hd' := each_len wItem x.items 61010 (fun d hd => by
    have := numI_length d.device
    have := wEnv_len (h.items d hd).env
    simp only [wItem, List.length_append]; omega)
  have he : x.ones.length * 38 ≤ n * 38 := Nat.mul_le_mul_right _ ho
  have hf : x.items.length * 61010 ≤ n * 61010 := Nat.mul_le_mul_right _ hi
  have hp := h.pin
  have hq := h.next
  have hr := h.name
  simp only [wReq, List.length_append]; omega
theorem wReq_pos (x : Req) : 0 < (wReq x).length := by
  have h1 : 0 < (numI (x.kind : Int)).length := num_pos _
  simp only [wReq, List.length_append]; omega
/-- Bytes that a call wrote: one may be changed. -/
theorem Out.open {w w' : World} {v : Value} {l : By} (h : Out w w' v l) (hl : 0 < l.length) : ∃ b cap, v = .slice (some ⟨b, 0, none⟩) l.length cap ∧ w.heap.size ≤ b ∧ b < w'.heap.size ∧ ∀ w2, Ext w' w2 → SlR w2 (fun q => q = b) v 1 l.length (bvs l) ∧ ∀ i, i < l.length → ∀ kb,
    (∃ u, w2.cell? ⟨b, i, none⟩ = some u) ∧ w2.frozen? ⟨b, i, none⟩ = false ∧ SlR (w2.setCell ⟨b, i, none⟩ (bv kb)) (fun q => q = b) v 1 (l.set i kb).length (bvs (l.set i kb)) := by
  obtain ⟨hlen, hr⟩ := h.own
  rcases hr with ⟨_, h0⟩ | ⟨b, cap, cur, rfl, g1, g2, g3, g4, g5, g6⟩
  · omega
  · refine ⟨b, cap, rfl, h.fresh b rfl, own_lt h.own rfl, fun w2 hE => ?_⟩
    have g2' : w2.heap[b]? = some (.cells cur 5) := (hE.block b (own_lt h.own rfl) (fun h => h)).trans g2
    have hcell : ∀ j v, (bvs l)[j]? = some v → w2.cell? ⟨b, j, none⟩ = some v := fun j v hj => by
      simp only [World.cell?, g2']
      rw [← g6, List.getElem?_take] at hj
      split at hj
      · simpa using hj
      · cases hj
    refine ⟨⟨hlen, .inr ⟨_, cap, rfl, g3, rfl, fun j v hj => by rw [addr0]; exact hcell j v hj⟩⟩, fun i hi kb => ?_⟩
    have hi' : (bvs l)[i]? = some (bv l[i]) := by simp [bvs, hi]
    refine ⟨⟨_, hcell _ _ hi'⟩, by simp [World.frozen?, g2'], by simp [bvs], .inr ⟨⟨b, 0, none⟩, cap, by simp, by simp; omega, rfl, fun j v hj => ?_⟩⟩
    rw [addr0]
    by_cases e : i = j
    · subst e
      have : v = bv kb := by
        simp only [bvs, List.getElem?_map, List.getElem?_set, hi, if_true] at hj
        simpa using hj.symm
      subst this
      exact World.cell?_setCell_same w2 _ _ (hcell _ _ hi')
    · rw [World.cell?_setCell_other w2 _ _ _ (fun h => e (by cases h; rfl))]
      refine hcell j v ?_
      simpa [bvs, List.getElem?_map, List.getElem?_set, e] using hj
/-! ### Accounts, field by field -/
def acctCells (x : Acct) (lv sv tv : Value) : List Value := [i64 x.id] ++ ([.string x.pin] ++ ([i64 x.wrong] ++ ([i64 x.till] ++ (lstCells x.list lv ++ ([sv] ++ [tv])))))
theorem acct_len {x : Acct} {lv sv tv : Value} (h : x.list.ident.length = 32) (h' : x.list.sig.length = 64) : (acctCells x lv sv tv).length = 105 := by simp [acctCells, lst_len h h']
theorem acct_one {x : Acct} {lv sv tv : Value} (h1 : lv.oneCell' = true) (h2 : sv.oneCell' = true) (h3 : tv.oneCell' = true) : One' (acctCells x lv sv tv) :=
  (One'.single rfl).append ((One'.single rfl).append ((One'.single rfl).append ((One'.single rfl).append ((lst_one h1).append ((One'.single h2).append (One'.single h3))))))
theorem acct_slots {x : Acct} {lv sv sv' tv : Value} (h : x.list.ident.length = 32) (h' : x.list.sig.length = 64) : splice (acctCells x lv sv tv) 103 [sv'] = acctCells x lv sv' tv :=
  sp_next (a := 1) (o := 102) rfl (sp_next (a := 1) (o := 101) rfl (sp_next (a := 1) (o := 100) rfl (sp_next (a := 1) (o := 99) rfl (sp_next (a := 99) (o := 0) (lst_len h h') (sp_here rfl)))))
theorem acct_toks {x : Acct} {lv sv tv tv' : Value} (h : x.list.ident.length = 32) (h' : x.list.sig.length = 64) : splice (acctCells x lv sv tv) 104 [tv'] = acctCells x lv sv tv' :=
  sp_next (a := 1) (o := 103) rfl (sp_next (a := 1) (o := 102) rfl (sp_next (a := 1) (o := 101) rfl (sp_next (a := 1) (o := 100) rfl (sp_next (a := 99) (o := 1) (lst_len h h') (sp_next (a := 1) (o := 0) rfl (sp_last rfl))))))
theorem acct_gets {x : Acct} {lv sv tv : Value} (h : x.list.ident.length = 32) (h' : x.list.sig.length = 64) : (acctCells x lv sv tv)[103]? = some sv :=
  pc_get (pc_drop (a := 1) (o := 102) rfl (pc_drop (a := 1) (o := 101) rfl (pc_drop (a := 1) (o := 100) rfl (pc_drop (a := 1) (o := 99) rfl (pc_drop (a := 99) (o := 0) (lst_len h h') (pc_take rfl))))))
theorem acct_gett {x : Acct} {lv sv tv : Value} (h : x.list.ident.length = 32) (h' : x.list.sig.length = 64) : (acctCells x lv sv tv)[104]? = some tv :=
  pc_get (pc_drop (a := 1) (o := 103) rfl (pc_drop (a := 1) (o := 102) rfl (pc_drop (a := 1) (o := 101) rfl (pc_drop (a := 1) (o := 100) rfl (pc_drop (a := 99) (o := 1) (lst_len h h') (pc_drop (a := 1) (o := 0) rfl (pc_last rfl)))))))
def slotCells (x : Slot') (ov mv : Value) : List Value := [i64 x.device] ++ (idkCells x.signed ++ (bvs x.sig ++ ([ov] ++ ([i64 x.last] ++ [mv]))))
def chSlot (c : By) (j : Nat) : Slot' := ⟨nm c (5 + j), ⟨nm c (6 + j), z32⟩, z64, chPres c (7 + j), nm c (8 + j), [chEnv c (9 + j)]⟩
def chAcct (c : By) : Acct := ⟨nm c 0, ⟨#[49, 50]⟩, ((nm c 1 % 3 : Nat) : Int), nm c 2, chList c, (List.range (nm c 4 % 4)).map (chSlot c), (List.range (nm c 4 % 4)).map (keyOf c)⟩
theorem z32_len : z32.length = 32 := by simp [z32]
theorem z64_len : z64.length = 64 := by simp [z64]
theorem slot_len {x : Slot'} {ov mv : Value} (h : x.signed.key.length = 32) (h' : x.sig.length = 64) : (slotCells x ov mv).length = 101 := by simp [slotCells, idk_len h, h']
theorem slot_one {x : Slot'} {ov mv : Value} (h : ov.oneCell' = true) (h' : mv.oneCell' = true) : One' (slotCells x ov mv) :=
  (One'.single rfl).append ((idk_one _ _).append (One'.append (bvs_one _) ((One'.single h).append ((One'.single rfl).append (One'.single h')))))
theorem slotR_mk {w : World} {B : Nat → Prop} {x : Slot'} {ov mv : Value} (h : x.signed.key.length = 32) (h' : x.sig.length = 64) (ho : SlX IdKeyR 33 w B ov x.ones) (hm : SlX EnvR 72 w B mv x.mail) : SlotR w B (slotCells x ov mv) x :=
  ⟨h', ⟨_, ov, mv, ⟨h, rfl⟩, ho, hm, rfl⟩⟩
theorem chAcct_i (c : By) : (chAcct c).list.ident.length = 32 := keyOf_len _ _
theorem chAcct_g (c : By) : (chAcct c).list.sig.length = 64 := sigOf_len _ _
theorem OwnX.cut {X : Type} {R : World → (Nat → Prop) → List Value → X → Prop} {sz : Nat} {e : TypeId} {w : World} {B B' : Nat → Prop} {v : Value} {xs : List X} (h : OwnX R sz e w B v xs) (hB : ∀ b, b < w.heap.size → B b → B' b)
    (hR : ∀ cs x, R w (Bes B w v) cs x → R w (Bes B' w v) cs x) : OwnX R sz e w B' v xs := by
  obtain ⟨css, h1, h2, h3⟩ := h.ex
  exact ⟨⟨css, h1, h2, fun i x cs hx hc => ⟨(h3 i x cs hx hc).1, hR _ _ (h3 i x cs hx hc).2⟩⟩, fun b hb => hB b (own_lt h1 hb) (h.new b hb)⟩
theorem bes_cut {w : World} {B B' : Nat → Prop} {v : Value} (hB : ∀ b, b < w.heap.size → B b → B' b) : ∀ b, Bes B w v b → Bes B' w v b := fun b hb => ⟨hB b hb.2.1 hb.1, hb.2⟩
theorem OwnX.slB {X : Type} {R R2 : World → (Nat → Prop) → List Value → X → Prop} {sz : Nat} {e : TypeId} {w : World} {B B' : Nat → Prop} {v : Value} {xs : List X} (h : OwnX R sz e w B v xs) (hB : ∀ b, b < w.heap.size → B b → B' b)
    (hR : ∀ cs x, R w (Bes B w v) cs x → R2 w B' cs x) : SlX R2 sz w B' v xs := by
  obtain ⟨css, h1, h2, h3⟩ := h.ex
  exact ⟨css, SlR.ofOwn h1 (fun b hb => hB b (own_lt h1 hb) (h.new b hb)), h2, fun i x cs hx hc => ⟨(h3 i x cs hx hc).1, hR _ _ (h3 i x cs hx hc).2⟩⟩
end Go.Proofs.Ythpocekigliomaa.K
