/- What the reader answers to what the writer wrote: plain lists of bytes. Condition: numbers in range. -/
import Derived.Test.YthpocekigliomaaKQ
namespace Go.Proofs.Ythpocekigliomaa.K
open Go

theorem u8_ofNat {n : Nat} (h : n < 256) : (UInt8.ofNat n).toNat = n := by simp [UInt8.toNat_ofNat', Nat.mod_eq_of_lt h]
theorem pNumFrom_num {most : Nat} : ∀ (k i acc n : Nat) (r : List UInt8), (n ≠ 0 ∨ i = 0) → n < 128 ^ k → 0 < k → acc + n * 128 ^ i ≤ most → pNumFrom most k i acc (num n ++ r) = .ok (acc + n * 128 ^ i, r)
  | 0, _, _, _, _, _, _, h, _ => absurd h (by omega)
  | k + 1, i, acc, n, r, h0, hn, _, hm => by
    by_cases h : n < 128
    · have hb : (UInt8.ofNat n).toNat = n := u8_ofNat (by omega)
      have hq : n % 128 = n := Nat.mod_eq_of_lt h
      rw [num_lt h, List.singleton_append, num_good (by omega) (by rw [hb, hq]; omega), hb, hq]
    · have hb : (UInt8.ofNat (n % 128 + 128)).toNat = n % 128 + 128 := u8_ofNat (by omega)
      have hq : (n % 128 + 128) % 128 = n % 128 := by omega
      have he : acc + n % 128 * 128 ^ i + n / 128 * 128 ^ (i + 1) = acc + n * 128 ^ i := by
        rw [Nat.add_assoc, Nat.pow_succ, Nat.mul_comm (128 ^ i) 128, ← Nat.mul_assoc, ← Nat.add_mul]
        congr 2
        omega
      have hk : 0 < k := by
        rcases Nat.eq_zero_or_pos k with rfl | hk
        · simp at hn; omega
        · exact hk
      rw [num_ge (by omega), List.cons_append, num_more (by omega), hb, hq, pNumFrom_num k (i + 1) _ (n / 128) r (.inl (by omega)) (by rw [Nat.pow_succ] at hn; omega) hk (by rw [he]; exact hm), he]
theorem pNum_num {most n : Nat} {r : List UInt8} (h : n ≤ most) (hm : most < 128 ^ 6) : pNum most (num n ++ r) = .ok (n, r) := by
  have := pNumFrom_num (most := most) 6 0 0 n r (.inr rfl) (by omega) (by omega) (by simpa using h)
  simpa [pNum] using this
theorem pNum_numI {most : Nat} {x : Int} {r : List UInt8} (h0 : 0 ≤ x) (h1 : x ≤ most) (hm : most ≤ 1099511627776) : pNum most (numI x ++ r) = .ok (x.toNat, r) := by
  have hc : clamp x = x.toNat := by unfold clamp; omega
  unfold numI
  rw [hc]
  exact pNum_num (by omega) (by omega)
theorem pN_numI {x : Int} {r : List UInt8} (h0 : 0 ≤ x) (h1 : x ≤ 1099511627776) : pN (numI x ++ r) = .ok (x.toNat, r) := pNum_numI h0 h1 (by omega)
theorem pTake_app {l r : List UInt8} {n : Nat} (h : l.length = n) : pTake n (l ++ r) = .ok (l, r) := by
  subst h
  unfold pTake
  rw [if_neg (by simp)]
  simp
theorem pText_w {l r : List UInt8} (h : l.length ≤ 60000) : pText (wText l ++ r) = .ok (l, r) := by
  unfold pText wText
  rw [List.append_assoc, pBind_ok (pNum_numI (x := (l.length : Int)) (by omega) (by omega) (by omega))]
  exact pTake_app (by simp)
theorem pTruth_w {b : Bool} {r : List UInt8} : pTruth (wTruth b ++ r) = .ok (b, r) := by
  cases b
  · have : wTruth false = [0] := by show numI 0 = _; unfold numI; rw [num_lt (by decide)]; rfl
    rw [this]; rfl
  · have : wTruth true = [1] := by show numI 1 = _; unfold numI; rw [num_lt (by decide)]; rfl
    rw [this]; rfl
theorem bytesOf_sBytes (s : ByteArray) : bytesOf (sBytes s) = s := rfl
theorem pAllN_w {X : Type} {get : PR X} {put : X → List UInt8} : ∀ {xs : List X} {r : List UInt8}, (∀ x ∈ xs, ∀ r, get (put x ++ r) = .ok (x, r)) → pAllN get xs.length (xs.flatMap put ++ r) = .ok (xs, r)
  | [], r, _ => rfl
  | x :: xs, r, h => by
    show pBind get _ ((x :: xs).flatMap put ++ r) = _
    rw [List.flatMap_cons, List.append_assoc, pBind_ok (h x (by simp) _), pBind_ok (pAllN_w (fun y hy => h y (by simp [hy])))]
    rfl
theorem pAll_w {X : Type} {get : PR X} {put : X → List UInt8} {xs : List X} {r : List UInt8} (hl : xs.length ≤ 60000) (h : ∀ x ∈ xs, ∀ r, get (put x ++ r) = .ok (x, r)) : pAll get (wEach put xs ++ r) = .ok (xs, r) := by
  unfold pAll wEach
  rw [List.append_assoc, pBind_ok (pNum_numI (x := (xs.length : Int)) (by omega) (by omega) (by omega))]
  rw [show ((xs.length : Int)).toNat = xs.length by omega]
  exact pAllN_w h
/-! ### Things in range -/
def Nn (x : Int) : Prop := 0 ≤ x ∧ x ≤ 1099511627776
structure IdKey.Ok (x : IdKey) : Prop where
  id : Nn x.id
  key : x.key.length = 32
structure Hdr.Ok (x : Hdr) : Prop where
  ratchet : x.ratchet.length = 32
  prev : Nn x.prev
  n : Nn x.n
structure Env'.Ok (x : Env') : Prop where
  src : Nn x.src
  device : Nn x.device
  eph : x.eph.length = 32
  signed : Nn x.signed
  one : Nn (x.one + 1)
  head : x.head.Ok
  body : x.body.length ≤ 60000
structure Item'.Ok (x : Item') : Prop where
  device : Nn x.device
  env : x.env.Ok
structure Lst.Ok (x : Lst) : Prop where
  account : Nn x.account
  version : Nn x.version
  ident : x.ident.length = 32
  dl : x.devices.length ≤ 60000
  devices : ∀ d ∈ x.devices, d.Ok
  sig : x.sig.length = 64
structure Usr.Ok (x : Usr) : Prop where
  name : (sBytes x.name).length ≤ 60000
  account : Nn x.account
theorem toNat' {x : Int} (h : Nn x) : (x.toNat : Int) = x := by have := h.1; omega
theorem pUsr_w {x : Usr} (h : x.Ok) (r : List UInt8) : pUsr (wUsr x ++ r) = .ok (x, r) := by
  unfold pUsr wUsr
  simp only [List.append_assoc]
  rw [pBind_ok (pText_w h.name), pBind_ok (pN_numI h.account.1 h.account.2), pBind_ok pTruth_w, bytesOf_sBytes, toNat' h.account]
  rfl
theorem pWhole_w {X : Type} {get : PR X} {bs : List UInt8} {x : X} (hl : bs.length ≤ 60000) (h : get (bs ++ []) = .ok (x, [])) : pWhole get bs = .ok x := by
  rw [List.append_nil] at h
  unfold pWhole
  rw [if_neg (by omega), h]
  rfl
/-! ### Steps of the laws -/
theorem yb {P : Program} {n : Nat} {ρ : Env} {w : World} {o : Oper} {a b : Bool} (h : Y P n ρ o w (.bool a)) (e : a = b) : Y P n ρ o w (.bool b) := e ▸ h
theorem slx_one {X : Type} {R : World → (Nat → Prop) → List Value → X → Prop} {sz : Nat} {w : World} {B : Nat → Prop} {b : Nat} {cs : List Value} {x : X} (h : Cs w ⟨b, 0, none⟩ cs) (hl : cs.length = sz) (hB : B b) (hx : R w B cs x) :
    SlX R sz w B (.slice (some ⟨b, 0, none⟩) 1 1) [x] :=
  ⟨[cs], ⟨by simpa using hl, .inr ⟨_, _, rfl, Nat.le_refl _, hB, by simpa using h⟩⟩, rfl, fun i y c hy hc => by
    cases i with
    | zero => simp at hy hc; subst hy; subst hc; exact ⟨hl, hx⟩
    | succ i => simp at hy⟩
theorem WholeR.ok {X : Type} {r : Except Nat X} {R : Value → X → Prop} {z u : Value} {x : X} (h : WholeR r R z u) (hr : r = .ok x) : ∃ v, u = .tuple #[v, .int .u16 0] ∧ R v x := by
  rcases h with ⟨y, v, h1, h2, h3⟩ | ⟨e, h1, _⟩
  · rw [hr] at h1; cases h1; exact ⟨v, h2, h3⟩
  · rw [hr] at h1; cases h1
theorem WholeR.err {X : Type} {r : Except Nat X} {R : Value → X → Prop} {z u : Value} {e : Nat} (h : WholeR r R z u) (hr : r = .error e) : u = .tuple #[z, .int .u16 (e : Int)] := by
  rcases h with ⟨y, v, h1, _⟩ | ⟨e', h1, h2⟩
  · rw [hr] at h1; cases h1
  · rw [hr] at h1; cases h1; exact h2
theorem cs_lt {w : World} {a : Addr} {cs : List Value} (h : Cs w a cs) (hl : 0 < cs.length) : a.block < w.heap.size := by
  have := h.at (i := 0) (List.getElem?_eq_getElem hl)
  exact World.block_lt_of_cell? w _ this
theorem num_length {n : Nat} : (num n).length ≤ 6 ∨ 1099511627776 < n := by
  by_cases h : 1099511627776 < n
  · exact .inr h
  · refine .inl ?_
    have hl : ∀ (k n : Nat), n < 128 ^ k → 0 < k → (num n).length ≤ k := by
      intro k
      induction k with
      | zero => intro n _ h; omega
      | succ k ih =>
        intro n hn _
        by_cases h : n < 128
        · rw [num_lt h]; simp
        · rw [num_ge (by omega), List.length_cons]
          have hk : 0 < k := by
            rcases Nat.eq_zero_or_pos k with rfl | hk
            · simp at hn; omega
            · exact hk
          have := ih (n / 128) (by rw [Nat.pow_succ] at hn; omega) hk
          omega
    exact hl 6 n (by omega) (by omega)
theorem wText_length (l : List UInt8) : (wText l).length ≤ 6 + l.length := by
  have := numI_length l.length
  simp only [wText, List.length_append]; omega
theorem wTruth_length (b : Bool) : (wTruth b).length ≤ 6 := numI_length _
theorem usr1_len {x : Usr} (h : (sBytes x.name).length ≤ 1000) : (wEach wUsr [x]).length ≤ 1024 := by
  have := numI_length ((1 : Nat) : Int)
  have := wText_length (sBytes x.name)
  have := numI_length x.account
  have := wTruth_length x.sure
  simp only [wEach, wUsr, List.length_append, List.flatMap_cons, List.flatMap_nil, List.length_nil, List.length_cons, Nat.zero_add]
  omega
def knownUsr : Usr := ⟨⟨#[97]⟩, 300, true⟩
theorem knownBytes : wEach wUsr [knownUsr] = [1, 1, 97, 172, 2, 1] := by
  have h1 : numI 1 = [1] := by unfold numI; rw [num_lt (by decide)]; rfl
  have h300 : numI 300 = [172, 2] := by unfold numI; rw [num_ge (by decide), num_lt (by decide)]; rfl
  show numI 1 ++ ((numI 1 ++ [97]) ++ (numI 300 ++ numI 1) ++ []) = _
  rw [h1, h300]; rfl
theorem hok : (sBytes knownUsr.name).length ≤ 1000 := by decide
theorem pUsers_one {x : Usr} (h : x.Ok) (hl : (wEach wUsr [x]).length ≤ 60000) : pWhole pUsers (wEach wUsr [x]) = .ok [x] :=
  pWhole_w hl (pAll_w (by simp) (fun y hy r => by simp at hy; subst hy; exact pUsr_w h r))
theorem knownRead : pWhole pUsers (wEach wUsr [knownUsr]) = .ok [knownUsr] :=
  pUsers_one ⟨by decide, ⟨by decide, by decide⟩⟩ (by have := usr1_len hok; omega)
/-! ### WireNumbers -/
theorem tmod_bound (x : Int) : -1099511627777 < x.tmod 1099511627777 ∧ x.tmod 1099511627777 < 1099511627777 := by
  rcases (by omega : x < 0 ∨ 0 ≤ x) with h | h
  · have e : x.tmod 1099511627777 = -((-x).tmod 1099511627777) := by rw [Int.neg_tmod, Int.neg_neg]
    rw [e, Int.tmod_eq_emod_of_nonneg (by omega)]; omega
  · rw [Int.tmod_eq_emod_of_nonneg h]; omega
theorem shr_le {a : Int} (m : Nat) (h0 : 0 ≤ a) (h1 : a ≤ 1099511627776) : ∃ q : Nat, (q : Int) = a.fdiv (2 ^ m) ∧ q ≤ 1099511627776 := by
  obtain ⟨n, rfl⟩ : ∃ n : Nat, a = (n : Int) := ⟨a.toNat, by omega⟩
  refine ⟨n / 2 ^ m, ?_, Nat.le_trans (Nat.div_le_self _ _) (by omega)⟩
  rw [Int.fdiv_eq_ediv_of_nonneg _ (Int.le_of_lt (Int.pow_pos (by decide)))]
  simp
theorem quo128 {r : Nat} (h : r ≤ 1099511627776) : IntKind.i64.wrap ((r : Int).tdiv 128) = ((r / 128 : Nat) : Int) := by
  have e : (r : Int).tdiv 128 = ((r / 128 : Nat) : Int) := rfl
  rw [e, wrap64_eq (by omega) (by omega)]
theorem num_pos (n : Nat) : 0 < (num n).length := by
  by_cases h : n < 128
  · rw [num_lt h]; simp
  · rw [num_ge (by omega)]; simp
def numUsr (q : Nat) : Usr := ⟨ByteArray.empty, (q : Int), false⟩
theorem hokN (q : Nat) : (sBytes (numUsr q).name).length ≤ 1000 := by show ([] : List UInt8).length ≤ 1000; simp
theorem numLen {q : Nat} (h : q ≤ 1099511627776) : (wEach wUsr [numUsr q]).length = 3 + (num q).length := by
  have h1 : numI ((1 : Nat) : Int) = [1] := by unfold numI; rw [num_lt (by decide)]; rfl
  have h0 : numI ((0 : Nat) : Int) = [0] := by unfold numI; rw [num_lt (by decide)]; rfl
  have hq : numI (q : Int) = num q := by unfold numI clamp; congr 1; omega
  show (numI ((1 : Nat) : Int) ++ ((numI ((0 : Nat) : Int) ++ []) ++ (numI (q : Int) ++ numI ((0 : Nat) : Int)) ++ [])).length = _
  rw [h1, h0, hq]; simp; omega
theorem numRead {q : Nat} (h : q ≤ 1099511627776) : pWhole pUsers (wEach wUsr [numUsr q]) = .ok [numUsr q] :=
  pUsers_one ⟨by have := hokN q; omega, ⟨by show (0 : Int) ≤ (q : Int); omega, by show (q : Int) ≤ _; omega⟩⟩ (by have := usr1_len (hokN q); omega)
end Go.Proofs.Ythpocekigliomaa.K
