/- What the reader answers tells the bytes, and the other way round. Condition: things in range. -/
import Derived.Test.YthpocekigliomaaKC
namespace Go.Proofs.Ythpocekigliomaa.K
open Go

theorem pBind_inv {X Z : Type} {a : PR X} {f : X → PR Z} {bs : By} {z : Z × By} (h : pBind a f bs = .ok z) : ∃ x r, a bs = .ok (x, r) ∧ f x r = .ok z := by
  unfold pBind at h
  cases ha : a bs with
  | error e => rw [ha] at h; cases h
  | ok q => rw [ha] at h; exact ⟨q.1, q.2, rfl, h⟩
theorem pPure_inv {X : Type} {x y : X} {bs r : By} (h : pPure x bs = .ok (y, r)) : y = x ∧ bs = r := by
  unfold pPure at h; cases h; exact ⟨rfl, rfl⟩
theorem pNumFrom_b {most : Nat} : ∀ (k i acc : Nat) (bs : By) (n : Nat) (r : By), pNumFrom most k i acc bs = .ok (n, r) → ∃ m, n = acc + m * 128 ^ i ∧ bs = num m ++ r ∧ n ≤ most ∧ (i = 0 ∨ m ≠ 0)
  | 0, _, _, _, _, _, h => by cases h
  | k + 1, i, acc, [], n, r, h => by cases h
  | k + 1, i, acc, b :: t, n, r, h => by
    have hb := b.toNat_lt
    by_cases h1 : 128 ≤ b.toNat
    · rw [num_more h1] at h
      obtain ⟨m, hn, ht, hm, h0⟩ := pNumFrom_b k (i + 1) _ t n r h
      have hm0 : m ≠ 0 := by rcases h0 with h0 | h0 <;> omega
      refine ⟨b.toNat % 128 + m * 128, ?_, ?_, hm, .inr (by omega)⟩
      · rw [hn, Nat.add_mul, Nat.add_assoc, Nat.pow_succ, Nat.mul_assoc, Nat.mul_comm 128]
      · rw [num_ge (by omega), ht, show (b.toNat % 128 + m * 128) / 128 = m by omega, show (b.toNat % 128 + m * 128) % 128 + 128 = b.toNat by omega]
        simp
    · by_cases h2 : (b.toNat = 0 ∧ 0 < i) ∨ most < acc + b.toNat % 128 * 128 ^ i
      · rw [num_bad h1 h2] at h; cases h
      · rw [num_good h1 h2] at h
        have hq : b.toNat % 128 = b.toNat := Nat.mod_eq_of_lt (by omega)
        rw [hq] at h h2
        cases h
        refine ⟨b.toNat, rfl, by rw [num_lt (by omega)]; simp, by omega, ?_⟩
        by_cases h3 : b.toNat = 0 <;> omega
theorem numI_nat {n : Nat} (h : n ≤ 1099511627776) : numI (n : Int) = num n := by unfold numI clamp; congr 1; omega
theorem pNum_b {most n : Nat} {bs r : By} (hm : most ≤ 1099511627776) (h : pNum most bs = .ok (n, r)) : bs = numI (n : Int) ++ r ∧ n ≤ most := by
  obtain ⟨m, h1, h2, h3, _⟩ := pNumFrom_b 6 0 0 bs n r h
  have : n = m := by simpa using h1
  subst this
  exact ⟨by rw [numI_nat (by omega)]; exact h2, h3⟩
theorem pN_b {n : Nat} {bs r : By} (h : pN bs = .ok (n, r)) : bs = numI (n : Int) ++ r ∧ Nn (n : Int) := by
  obtain ⟨h1, h2⟩ := pNum_b (Nat.le_refl _) h
  exact ⟨h1, ⟨by omega, by omega⟩⟩
theorem pTake_b {n : Nat} {bs l r : By} (h : pTake n bs = .ok (l, r)) : bs = l ++ r ∧ l.length = n := by
  obtain ⟨h1, rfl, rfl⟩ := pTake_ok h
  exact ⟨(List.take_append_drop _ _).symm, by simp; omega⟩
theorem pText_b {bs l r : By} (h : pText bs = .ok (l, r)) : bs = wText l ++ r ∧ l.length ≤ 60000 := by
  obtain ⟨n, r1, h1, h2⟩ := pBind_inv h
  obtain ⟨rfl, hn⟩ := pNum_b (by omega) h1
  obtain ⟨rfl, rfl⟩ := pTake_b h2
  exact ⟨by simp [wText], hn⟩
theorem pTruth_b {bs r : By} {b : Bool} (h : pTruth bs = .ok (b, r)) : bs = wTruth b ++ r := by
  cases bs with
  | nil => cases h
  | cons q t =>
    by_cases h1 : 1 < q.toNat
    · rw [pTruth_bad h1] at h; cases h
    · rw [pTruth_good h1] at h
      cases h
      rcases (by omega : q.toNat = 0 ∨ q.toNat = 1) with e | e
      · obtain rfl : q = 0 := UInt8.toNat_inj.1 e
        have : wTruth ((0 : UInt8) == 1) = [0] := by show numI 0 = _; unfold numI; rw [num_lt (by decide)]; rfl
        rw [this]; rfl
      · obtain rfl : q = 1 := UInt8.toNat_inj.1 e
        have : wTruth ((1 : UInt8) == 1) = [1] := by show numI 1 = _; unfold numI; rw [num_lt (by decide)]; rfl
        rw [this]; rfl
theorem pAllN_b {X : Type} {get : PR X} {put : X → By} {ok : X → Prop} (hg : ∀ bs x r, get bs = .ok (x, r) → bs = put x ++ r ∧ ok x) : ∀ (n : Nat) (bs : By) (xs : List X) (r : By), pAllN get n bs = .ok (xs, r) → bs = xs.flatMap put ++ r ∧ xs.length = n ∧ ∀ x ∈ xs, ok x
  | 0, bs, xs, r, h => by obtain ⟨rfl, rfl⟩ := pPure_inv h; simp
  | n + 1, bs, xs, r, h => by
    obtain ⟨x, r1, h1, h⟩ := pBind_inv h
    obtain ⟨ys, r2, h2, h⟩ := pBind_inv h
    obtain ⟨rfl, rfl⟩ := pPure_inv h
    obtain ⟨rfl, hx⟩ := hg _ _ _ h1
    obtain ⟨rfl, rfl, hy⟩ := pAllN_b hg n _ _ _ h2
    exact ⟨by simp, by simp, fun z hz => (List.mem_cons.1 hz).elim (fun e => e ▸ hx) (hy z)⟩
theorem pAll_b {X : Type} {get : PR X} {put : X → By} {ok : X → Prop} (hg : ∀ bs x r, get bs = .ok (x, r) → bs = put x ++ r ∧ ok x) {bs r : By} {xs : List X} (h : pAll get bs = .ok (xs, r)) : bs = wEach put xs ++ r ∧ xs.length ≤ 60000 ∧ ∀ x ∈ xs, ok x := by
  obtain ⟨n, r1, h1, h2⟩ := pBind_inv h
  obtain ⟨rfl, hn⟩ := pNum_b (by omega) h1
  obtain ⟨rfl, rfl, hy⟩ := pAllN_b hg n _ _ _ h2
  exact ⟨by simp [wEach], hn, hy⟩
theorem sBytes_bytesOf (l : By) : sBytes (bytesOf l) = l := by simp [sBytes, bytesOf]

structure Bdl.Ok (x : Bdl) : Prop where
  account : Nn x.account
  device : Nn x.device
  ident : x.ident.length = 32
  key : x.key.length = 32
  signed : x.signed.Ok
  sig : x.sig.length = 64
  ol : x.one.length ≤ 60000
  one : ∀ d ∈ x.one, d.Ok
structure Slot'.Ok (x : Slot') : Prop where
  device : Nn x.device
  signed : x.signed.Ok
  sig : x.sig.length = 64
  ol : x.ones.length ≤ 60000
  ones : ∀ d ∈ x.ones, d.Ok
  last : Nn x.last
  ml : x.mail.length ≤ 60000
  mail : ∀ d ∈ x.mail, d.Ok
structure Req.Ok (x : Req) : Prop where
  kind : x.kind ≤ 255
  account : Nn x.account
  device : Nn x.device
  pin : (sBytes x.pin).length ≤ 60000
  next : (sBytes x.next).length ≤ 60000
  name : (sBytes x.name).length ≤ 60000
  list : x.list.Ok
  token : x.token.length = 32
  signed : x.signed.Ok
  sig : x.sig.length = 64
  ol : x.ones.length ≤ 60000
  ones : ∀ d ∈ x.ones, d.Ok
  version : Nn x.version
  il : x.items.length ≤ 60000
  items : ∀ d ∈ x.items, d.Ok
structure Rsp.Ok (x : Rsp) : Prop where
  err : x.err ≤ 255
  list : x.list.Ok
  bundle : x.bundle.Ok
  ml : x.mail.length ≤ 60000
  mail : ∀ d ∈ x.mail, d.Ok
structure Acct.Ok (x : Acct) : Prop where
  id : Nn x.id
  pin : (sBytes x.pin).length ≤ 60000
  wrong : Nn x.wrong
  till : Nn x.till
  list : x.list.Ok
  sl : x.slots.length ≤ 60000
  slots : ∀ d ∈ x.slots, d.Ok
  tl : x.tokens.length ≤ 60000
  tokens : ∀ d ∈ x.tokens, d.length = 32

theorem pIdKey_b {bs r : By} {x : IdKey} (h : pIdKey bs = .ok (x, r)) : bs = wIdKey x ++ r ∧ x.Ok := by
  obtain ⟨i, r1, h1, h⟩ := pBind_inv h
  obtain ⟨k, r2, h2, h⟩ := pBind_inv h
  obtain ⟨rfl, rfl⟩ := pPure_inv h
  obtain ⟨rfl, hi⟩ := pN_b h1
  obtain ⟨rfl, hk⟩ := pTake_b h2
  exact ⟨by simp [wIdKey], ⟨hi, hk⟩⟩
theorem pHdr_b {bs r : By} {x : Hdr} (h : pHdr bs = .ok (x, r)) : bs = wHdr x ++ r ∧ x.Ok := by
  obtain ⟨k, r1, h1, h⟩ := pBind_inv h
  obtain ⟨p, r2, h2, h⟩ := pBind_inv h
  obtain ⟨n, r3, h3, h⟩ := pBind_inv h
  obtain ⟨rfl, rfl⟩ := pPure_inv h
  obtain ⟨rfl, g1⟩ := pTake_b h1
  obtain ⟨rfl, g2⟩ := pN_b h2
  obtain ⟨rfl, g3⟩ := pN_b h3
  exact ⟨by simp [wHdr], ⟨g1, g2, g3⟩⟩
theorem pEnv_b {bs r : By} {x : Env'} (h : pEnv bs = .ok (x, r)) : bs = wEnv x ++ r ∧ x.Ok := by
  obtain ⟨f, r1, h1, h⟩ := pBind_inv h
  obtain ⟨d, r2, h2, h⟩ := pBind_inv h
  obtain ⟨t, r3, h3, h⟩ := pBind_inv h
  obtain ⟨e, r4, h4, h⟩ := pBind_inv h
  obtain ⟨s, r5, h5, h⟩ := pBind_inv h
  obtain ⟨o, r6, h6, h⟩ := pBind_inv h
  obtain ⟨hh, r7, h7, h⟩ := pBind_inv h
  obtain ⟨b, r8, h8, h⟩ := pBind_inv h
  obtain ⟨rfl, rfl⟩ := pPure_inv h
  obtain ⟨rfl, g1⟩ := pN_b h1
  obtain ⟨rfl, g2⟩ := pN_b h2
  obtain rfl := pTruth_b h3
  obtain ⟨rfl, g4⟩ := pTake_b h4
  obtain ⟨rfl, g5⟩ := pN_b h5
  obtain ⟨rfl, g6⟩ := pN_b h6
  obtain ⟨rfl, g7⟩ := pHdr_b h7
  obtain ⟨rfl, g8⟩ := pText_b h8
  have e : min ((o : Int) - 1) 1099511627775 + 1 = (o : Int) := by have := g6.2; omega
  refine ⟨?_, ⟨g1, g2, g4, g5, ?_, g7, g8⟩⟩
  · unfold wEnv; rw [e]; simp
  · show Nn ((o : Int) - 1 + 1); rw [show (o : Int) - 1 + 1 = (o : Int) by omega]; exact g6
theorem pItem_b {bs r : By} {x : Item'} (h : pItem bs = .ok (x, r)) : bs = wItem x ++ r ∧ x.Ok := by
  obtain ⟨d, r1, h1, h⟩ := pBind_inv h
  obtain ⟨e, r2, h2, h⟩ := pBind_inv h
  obtain ⟨rfl, rfl⟩ := pPure_inv h
  obtain ⟨rfl, g1⟩ := pN_b h1
  obtain ⟨rfl, g2⟩ := pEnv_b h2
  exact ⟨by simp [wItem], ⟨g1, g2⟩⟩
theorem pLst_b {bs r : By} {x : Lst} (h : pLst bs = .ok (x, r)) : bs = wLst x ++ r ∧ x.Ok := by
  obtain ⟨a, r1, h1, h⟩ := pBind_inv h
  obtain ⟨v, r2, h2, h⟩ := pBind_inv h
  obtain ⟨i, r3, h3, h⟩ := pBind_inv h
  obtain ⟨d, r4, h4, h⟩ := pBind_inv h
  obtain ⟨s, r5, h5, h⟩ := pBind_inv h
  obtain ⟨rfl, rfl⟩ := pPure_inv h
  obtain ⟨rfl, g1⟩ := pN_b h1
  obtain ⟨rfl, g2⟩ := pN_b h2
  obtain ⟨rfl, g3⟩ := pTake_b h3
  obtain ⟨rfl, g4, g4'⟩ := pAll_b (fun _ _ _ => pIdKey_b) h4
  obtain ⟨rfl, g5⟩ := pTake_b h5
  exact ⟨by simp [wLst], ⟨g1, g2, g3, g4, g4', g5⟩⟩
theorem pBdl_b {bs r : By} {x : Bdl} (h : pBdl bs = .ok (x, r)) : bs = wBdl x ++ r ∧ x.Ok := by
  obtain ⟨a, r1, h1, h⟩ := pBind_inv h
  obtain ⟨d, r2, h2, h⟩ := pBind_inv h
  obtain ⟨i, r3, h3, h⟩ := pBind_inv h
  obtain ⟨k, r4, h4, h⟩ := pBind_inv h
  obtain ⟨s, r5, h5, h⟩ := pBind_inv h
  obtain ⟨g, r6, h6, h⟩ := pBind_inv h
  obtain ⟨o, r7, h7, h⟩ := pBind_inv h
  obtain ⟨rfl, rfl⟩ := pPure_inv h
  obtain ⟨rfl, g1⟩ := pN_b h1
  obtain ⟨rfl, g2⟩ := pN_b h2
  obtain ⟨rfl, g3⟩ := pTake_b h3
  obtain ⟨rfl, g4⟩ := pTake_b h4
  obtain ⟨rfl, g5⟩ := pIdKey_b h5
  obtain ⟨rfl, g6⟩ := pTake_b h6
  obtain ⟨rfl, g7, g7'⟩ := pAll_b (fun _ _ _ => pIdKey_b) h7
  exact ⟨by simp [wBdl], ⟨g1, g2, g3, g4, g5, g6, g7, g7'⟩⟩
theorem pSlot_b {bs r : By} {x : Slot'} (h : pSlot bs = .ok (x, r)) : bs = wSlot x ++ r ∧ x.Ok := by
  obtain ⟨d, r1, h1, h⟩ := pBind_inv h
  obtain ⟨s, r2, h2, h⟩ := pBind_inv h
  obtain ⟨g, r3, h3, h⟩ := pBind_inv h
  obtain ⟨o, r4, h4, h⟩ := pBind_inv h
  obtain ⟨l, r5, h5, h⟩ := pBind_inv h
  obtain ⟨m, r6, h6, h⟩ := pBind_inv h
  obtain ⟨rfl, rfl⟩ := pPure_inv h
  obtain ⟨rfl, g1⟩ := pN_b h1
  obtain ⟨rfl, g2⟩ := pIdKey_b h2
  obtain ⟨rfl, g3⟩ := pTake_b h3
  obtain ⟨rfl, g4, g4'⟩ := pAll_b (fun _ _ _ => pIdKey_b) h4
  obtain ⟨rfl, g5⟩ := pN_b h5
  obtain ⟨rfl, g6, g6'⟩ := pAll_b (fun _ _ _ => pEnv_b) h6
  exact ⟨by simp [wSlot], ⟨g1, g2, g3, g4, g4', g5, g6, g6'⟩⟩
theorem pReq_b {bs r : By} {x : Req} (h : pReq bs = .ok (x, r)) : bs = wReq x ++ r ∧ x.Ok := by
  obtain ⟨k, r1, h1, h⟩ := pBind_inv h
  obtain ⟨a, r2, h2, h⟩ := pBind_inv h
  obtain ⟨d, r3, h3, h⟩ := pBind_inv h
  obtain ⟨p, r4, h4, h⟩ := pBind_inv h
  obtain ⟨n, r5, h5, h⟩ := pBind_inv h
  obtain ⟨m, r6, h6, h⟩ := pBind_inv h
  obtain ⟨l, r7, h7, h⟩ := pBind_inv h
  obtain ⟨t, r8, h8, h⟩ := pBind_inv h
  obtain ⟨s, r9, h9, h⟩ := pBind_inv h
  obtain ⟨g, ra, ha, h⟩ := pBind_inv h
  obtain ⟨o, rb, hb, h⟩ := pBind_inv h
  obtain ⟨v, rc, hc, h⟩ := pBind_inv h
  obtain ⟨i, rd, hd, h⟩ := pBind_inv h
  obtain ⟨rfl, rfl⟩ := pPure_inv h
  obtain ⟨rfl, g1⟩ := pNum_b (by omega) h1
  obtain ⟨rfl, g2⟩ := pN_b h2
  obtain ⟨rfl, g3⟩ := pN_b h3
  obtain ⟨rfl, g4⟩ := pText_b h4
  obtain ⟨rfl, g5⟩ := pText_b h5
  obtain ⟨rfl, g6⟩ := pText_b h6
  obtain ⟨rfl, g7⟩ := pLst_b h7
  obtain ⟨rfl, g8⟩ := pTake_b h8
  obtain ⟨rfl, g9⟩ := pIdKey_b h9
  obtain ⟨rfl, ga⟩ := pTake_b ha
  obtain ⟨rfl, gb, gb'⟩ := pAll_b (fun _ _ _ => pIdKey_b) hb
  obtain ⟨rfl, gc⟩ := pN_b hc
  obtain ⟨rfl, gd, gd'⟩ := pAll_b (fun _ _ _ => pItem_b) hd
  exact ⟨by simp [wReq, sBytes_bytesOf], ⟨g1, g2, g3, by rw [sBytes_bytesOf]; exact g4, by rw [sBytes_bytesOf]; exact g5, by rw [sBytes_bytesOf]; exact g6, g7, g8, g9, ga, gb, gb', gc, gd, gd'⟩⟩
theorem pUsr_b {bs r : By} {x : Usr} (h : pUsr bs = .ok (x, r)) : bs = wUsr x ++ r ∧ x.Ok := by
  obtain ⟨n, r1, h1, h⟩ := pBind_inv h
  obtain ⟨a, r2, h2, h⟩ := pBind_inv h
  obtain ⟨s, r3, h3, h⟩ := pBind_inv h
  obtain ⟨rfl, rfl⟩ := pPure_inv h
  obtain ⟨rfl, g1⟩ := pText_b h1
  obtain ⟨rfl, g2⟩ := pN_b h2
  obtain rfl := pTruth_b h3
  exact ⟨by simp [wUsr, sBytes_bytesOf], ⟨by rw [sBytes_bytesOf]; exact g1, g2⟩⟩
theorem pWhole_b {X : Type} {get : PR X} {put : X → By} {ok : X → Prop} (hg : ∀ bs x r, get bs = .ok (x, r) → bs = put x ++ r ∧ ok x) {bs : By} {x : X} (h : pWhole get bs = .ok x) : bs = put x ∧ ok x ∧ bs.length ≤ 60000 := by
  unfold pWhole at h
  split at h
  · cases h
  · cases hq : get bs with
    | error e => rw [hq] at h; cases h
    | ok q =>
      obtain ⟨y, r⟩ := q
      rw [hq] at h
      simp only at h
      split at h
      · rename_i hr
        cases h
        subst hr
        obtain ⟨h1, h2⟩ := hg _ _ _ hq
        exact ⟨by simpa using h1, h2, by omega⟩
      · cases h
end Go.Proofs.Ythpocekigliomaa.K
