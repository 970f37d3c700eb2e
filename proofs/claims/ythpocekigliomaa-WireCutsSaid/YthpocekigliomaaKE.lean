/- Equality of keys, and of structs of keys and numbers. No condition. -/
import Derived.Test.YthpocekigliomaaKQ
namespace Go.Proofs.Ythpocekigliomaa.K
open Go

section
variable {P : Program} {w : World}
theorem run_part_one {t : TypeId} {u : TypeDesc} {cs : List Value} {o : Nat} {v : Value} (hu : P.underlying t = some u) (hn : aggU u = false) (h : cs[o]? = some v) : (part t cs.toArray o).run P w = .ok v w := by
  simp only [part, Sem.run_bind, run_isAgg hu, Result.andThen_ok, hn]
  simp [h]
theorem run_part_agg {t : TypeId} {u : TypeDesc} {cs xs : List Value} {o : Nat} {ti : TypeInfo} {m : Nat} (hu : P.underlying t = some u) (hn : aggU u = true) (hi : P.info? t = some ti) (hs : ti.size = m) (h : (cs.drop o).take m = xs) :
    (part t cs.toArray o).run P w = .ok (.agg xs.toArray) w := by
  simp only [part, Sem.run_bind, run_isAgg hu, Result.andThen_ok, hn, if_true, sizeOf, typeInfo, run_program, hi, Sem.run_pure, hs]
  have : cs.toArray.extract o (o + m) = xs.toArray := by
    apply Array.ext'
    simp [← h]
  rw [this]

theorem bv_inj {a b : UInt8} : bv a = bv b ↔ a = b := by
  constructor
  · intro h
    simp only [bv, Value.int.injEq, true_and] at h
    exact UInt8.toNat_inj.1 (by omega)
  · rintro rfl; rfl

theorem run_eqArr {t e : TypeId} {n d : Nat} {ti : TypeInfo} {a b : List UInt8} (hu : P.underlying t = some (.array n e)) (he : P.underlying e = some (.int .u8)) (hi : P.info? e = some ti) (hs : ti.size = 1) (ha : a.length = n) (hb : b.length = n) :
    (Op.equalIn (d + 2) t (.agg (bvs a).toArray) (.agg (bvs b).toArray)).run P w = .ok (decide (a = b)) w := by
  have hpart : ∀ (l : List UInt8) (i : Nat) (hl : i < l.length), (part e (bvs l).toArray (i * 1)).run P w = .ok (bv l[i]) w := fun l i hl =>
    run_part_one he rfl (by simp [bvs, hl])
  have heq : ∀ (i : Nat) (h1 : i < a.length) (h2 : i < b.length), (Op.equalIn (d + 1) e (bv a[i]) (bv b[i])).run P w = .ok (decide (a[i] = b[i])) w := fun i h1 h2 => by
    have := run_equalIn_int (P := P) w d e .u8 .u8 (a[i].toNat : Int) (b[i].toNat : Int) he
    unfold bv
    rw [this]
    congr 1
    by_cases h : a[i] = b[i]
    · simp [h]
    · have : ¬ a[i].toNat = b[i].toNat := fun h' => h (UInt8.toNat_inj.1 h')
      simp [h]; omega
  unfold Op.equalIn
  simp only [underlying, Sem.run_bind, run_program, Result.andThen_ok, hu, Sem.run_pure, sizeOf, typeInfo, hi, hs]
  have hloop : ∀ l : List Nat, (∀ i ∈ l, i < n) → (forIn l (none, ()) (fun (i : Nat) (_ : Option Bool × Unit) => (do
      let x ← part e (bvs a).toArray (i * 1)
      let y ← part e (bvs b).toArray (i * 1)
      let r ← Op.equalIn (d + 1) e x y
      if (!r) = true then pure (ForInStep.done (some false, ())) else pure (ForInStep.yield (none, ())) : Sem (ForInStep (Option Bool × Unit))))).run P w =
      .ok (if l.all (fun i => a[i]? == b[i]?) then (none, ()) else (some false, ())) w := by
    intro l
    induction l with
    | nil => intro _; simp [Sem.run_pure]
    | cons i l ih =>
      intro hl
      have h1 : i < a.length := by rw [ha]; exact hl i (by simp)
      have h2 : i < b.length := by rw [hb]; exact hl i (by simp)
      simp only [List.forIn_cons, Sem.run_bind, hpart a i h1, hpart b i h2, Result.andThen_ok, heq i h1 h2]
      by_cases hab : a[i] = b[i]
      · simp only [hab, decide_true, Bool.not_true, Bool.false_eq_true, if_false, Sem.run_pure, Result.andThen_ok]
        rw [ih (fun j hj => hl j (by simp [hj]))]
        simp [h1, h2, hab]
      · simp only [hab, decide_false, Bool.not_false, if_true, Sem.run_pure, Result.andThen_ok]
        simp [h1, h2, hab]
  rw [Std.Legacy.Range.forIn_eq_forIn_range']
  rw [hloop _ (fun i hi => by simp [List.mem_range'] at hi; omega)]
  simp only [Result.andThen_ok]
  by_cases hab : a = b
  · subst hab
    simp [Sem.run_pure]
  · have hne : ¬ (List.range' 0 n 1).all (fun i => a[i]? == b[i]?) = true := by
      intro hall
      apply hab
      apply List.ext_getElem?
      intro i
      by_cases hi : i < n
      · have := List.all_eq_true.1 hall i (by simp [List.mem_range']; omega)
        simpa using this
      · rw [List.getElem?_eq_none (by omega), List.getElem?_eq_none (by omega)]
    have hs' : ([:n] : Std.Legacy.Range).size = n := by simp [Std.Legacy.Range.size]
    simp only [hs']
    rw [if_neg hne]
    simp [hab, Sem.run_pure]

theorem eqFields_cons {d : Nat} {xs ys : Array Value} {f : Field} {fs : List Field} {va vb : Value} {r q : Bool} (hn : (f.name == "_") = false) (h1 : (part f.type xs f.offset).run P w = .ok va w) (h2 : (part f.type ys f.offset).run P w = .ok vb w)
    (h3 : (Op.equalIn d f.type va vb).run P w = .ok r w) (h4 : (Op.eqFields d xs ys fs).run P w = .ok q w) : (Op.eqFields d xs ys (f :: fs)).run P w = .ok (r && q) w := by
  have hn' : f.name ≠ "_" := by simpa using hn
  simp only [Op.eqFields, hn', ne_eq, not_false_eq_true, if_true, Sem.run_bind, h1, h2, Result.andThen_ok, h3]
  cases r
  · simp [Sem.run_pure]
  · simp [h4]
theorem eqFields_nil {d : Nat} {xs ys : Array Value} : (Op.eqFields d xs ys []).run P w = .ok true w := by simp [Op.eqFields, Sem.run_pure]
theorem run_eqStruct {t : TypeId} {fs : List Field} {d : Nat} {xs ys : Array Value} {r : Bool} (hu : P.underlying t = some (.struct fs.toArray)) (hp : P.stoodInHeld t = false) (h : (Op.eqFields d xs ys fs).run P w = .ok r w) :
    (Op.equalIn (d + 1) t (.agg xs) (.agg ys)).run P w = .ok r w := by
  have hf : P.fieldsOf t = fs.toArray := by simp [Program.fieldsOf, hu]
  have := run_equalIn_agg (P := P) w d t xs ys (by rw [hf]; exact hu) hp
  rw [this, hf]
  simpa using h
theorem run_eqInt {t : TypeId} {k k' : IntKind} {d : Nat} {a b : Int} (hu : P.underlying t = some (.int k')) : (Op.equalIn (d + 1) t (.int k a) (.int k b)).run P w = .ok (decide (a = b)) w := by
  rw [run_equalIn_int w d t k k' a b hu]
  congr 1
theorem run_eqBool {t : TypeId} {d : Nat} {a b : Bool} (hu : P.underlying t = some .bool) : (Op.equalIn (d + 1) t (.bool a) (.bool b)).run P w = .ok (a == b) w := run_equalIn_bool' w d t a b hu
theorem run_eqStr {t : TypeId} {d : Nat} {a b : ByteArray} (hu : P.underlying t = some .string) : (Op.equalIn (d + 1) t (.string a) (.string b)).run P w = .ok (decide (a = b)) w := by
  rw [run_equalIn_string w d t a b hu, toList_beq]
end
section
variable {P : Program} {n : Nat} {ρ : Env} {w : World} {d : Option Tmp} {ty : TypeId} {pos : String} {af : Array Edge} {g : Option (Nat × Bool)} {x y : Operand} {t t' : TypeId} {xs ys : Array Value} {r : Bool}
theorem y_eqlA (hm : P.eqGuardType P.depth t = false) (hx : ev n ρ x = .agg xs) (hy : ev n ρ y = .agg ys) (h : (Op.equalIn 10000 t (.agg xs) (.agg ys)).run P w = .ok r w) : Y P n ρ ⟨d, .binOp .eql t x y t', ty, pos, af, g⟩ w (.bool r) := by
  refine ⟨?_⟩
  simp only [execOp, hx, hy, Sem.run_bind, run_eqGuard_agg w .eql t x y xs ys hm, Result.andThen_ok, run_eql_struct, h, Sem.run_pure]
theorem y_neqA (hm : P.eqGuardType P.depth t = false) (hx : ev n ρ x = .agg xs) (hy : ev n ρ y = .agg ys) (h : (Op.equalIn 10000 t (.agg xs) (.agg ys)).run P w = .ok r w) : Y P n ρ ⟨d, .binOp .neq t x y t', ty, pos, af, g⟩ w (.bool (!r)) := by
  refine ⟨?_⟩
  simp only [execOp, hx, hy, Sem.run_bind, run_eqGuard_agg w .neq t x y xs ys hm, Result.andThen_ok, run_neq_struct, h, Sem.run_pure]
end

/-! ### At the types of the wire -/
section
variable {w : World}
theorem eg_key : Try.prog.eqGuardType Try.prog.depth 34 = false := by kernel_rfl
theorem eg_sig : Try.prog.eqGuardType Try.prog.depth 45 = false := by kernel_rfl
theorem eg_pre : Try.prog.eqGuardType Try.prog.depth 49 = false := by kernel_rfl
theorem eg_ent : Try.prog.eqGuardType Try.prog.depth 122 = false := by kernel_rfl
theorem eg_hdr : Try.prog.eqGuardType Try.prog.depth 36 = false := by kernel_rfl
theorem eg_usr : Try.prog.eqGuardType Try.prog.depth 25 = false := by kernel_rfl
theorem eq_key {a b : List UInt8} {d : Nat} (ha : a.length = 32) (hb : b.length = 32) : (Op.equalIn (d + 2) 34 (.agg (bvs a).toArray) (.agg (bvs b).toArray)).run Try.prog w = .ok (decide (a = b)) w :=
  run_eqArr Try.underlying34 Try.underlying5 I5 S5 ha hb
theorem eq_sig {a b : List UInt8} {d : Nat} (ha : a.length = 64) (hb : b.length = 64) : (Op.equalIn (d + 2) 45 (.agg (bvs a).toArray) (.agg (bvs b).toArray)).run Try.prog w = .ok (decide (a = b)) w :=
  run_eqArr Try.underlying45 Try.underlying5 I5 S5 ha hb
theorem bk {a : List UInt8} (h : a.length = 32) : (bvs a).length = 32 := by simp [h]
theorem eq_pre {a b : IdKey} {d : Nat} (ha : a.key.length = 32) (hb : b.key.length = 32) :
    (Op.equalIn (d + 3) 49 (.agg ([i64 a.id] ++ bvs a.key).toArray) (.agg ([i64 b.id] ++ bvs b.key).toArray)).run Try.prog w = .ok (decide (a.id = b.id) && (decide (a.key = b.key) && true)) w :=
  run_eqStruct Try.underlying49 (by kernel_rfl)
    (eqFields_cons rfl (run_part_one Try.underlying3 rfl rfl) (run_part_one Try.underlying3 rfl rfl) (run_eqInt Try.underlying3)
    (eqFields_cons rfl (run_part_agg Try.underlying34 rfl I34 S34 (pc_drop (a := 1) (o := 0) rfl (pc_last (bk ha)))) (run_part_agg Try.underlying34 rfl I34 S34 (pc_drop (a := 1) (o := 0) rfl (pc_last (bk hb)))) (eq_key ha hb) eqFields_nil))
theorem eq_ent {a b : IdKey} {d : Nat} (ha : a.key.length = 32) (hb : b.key.length = 32) :
    (Op.equalIn (d + 3) 122 (.agg ([i64 a.id] ++ bvs a.key).toArray) (.agg ([i64 b.id] ++ bvs b.key).toArray)).run Try.prog w = .ok (decide (a.id = b.id) && (decide (a.key = b.key) && true)) w :=
  run_eqStruct Try.underlying122 (by kernel_rfl)
    (eqFields_cons rfl (run_part_one Try.underlying3 rfl rfl) (run_part_one Try.underlying3 rfl rfl) (run_eqInt Try.underlying3)
    (eqFields_cons rfl (run_part_agg Try.underlying34 rfl I34 S34 (pc_drop (a := 1) (o := 0) rfl (pc_last (bk ha)))) (run_part_agg Try.underlying34 rfl I34 S34 (pc_drop (a := 1) (o := 0) rfl (pc_last (bk hb)))) (eq_key ha hb) eqFields_nil))
set_option maxRecDepth 100000 in
theorem eq_hdr {a b : Hdr} {d : Nat} (ha : a.ratchet.length = 32) (hb : b.ratchet.length = 32) :
    (Op.equalIn (d + 3) 36 (.agg (bvs a.ratchet ++ ([i64 a.prev] ++ [i64 a.n])).toArray) (.agg (bvs b.ratchet ++ ([i64 b.prev] ++ [i64 b.n])).toArray)).run Try.prog w =
      .ok (decide (a.ratchet = b.ratchet) && (decide (a.prev = b.prev) && (decide (a.n = b.n) && true))) w :=
  run_eqStruct Try.underlying36 (by kernel_rfl)
    (eqFields_cons rfl (run_part_agg Try.underlying34 rfl I34 S34 (pc_take (bk ha))) (run_part_agg Try.underlying34 rfl I34 S34 (pc_take (bk hb))) (eq_key ha hb)
    (eqFields_cons rfl (run_part_one Try.underlying3 rfl (pc_get (pc_drop (a := 32) (o := 0) (bk ha) (pc_take rfl)))) (run_part_one Try.underlying3 rfl (pc_get (pc_drop (a := 32) (o := 0) (bk hb) (pc_take rfl)))) (run_eqInt Try.underlying3)
    (eqFields_cons rfl (run_part_one Try.underlying3 rfl (pc_get (pc_drop (a := 32) (o := 1) (bk ha) (pc_drop (a := 1) (o := 0) rfl (pc_last rfl))))) (run_part_one Try.underlying3 rfl (pc_get (pc_drop (a := 32) (o := 1) (bk hb) (pc_drop (a := 1) (o := 0) rfl (pc_last rfl))))) (run_eqInt Try.underlying3) eqFields_nil)))
set_option maxRecDepth 100000 in
theorem eq_usr {a b : Usr} {d : Nat} :
    (Op.equalIn (d + 2) 25 (.agg ([Value.string a.name] ++ ([i64 a.account] ++ [Value.bool a.sure])).toArray) (.agg ([Value.string b.name] ++ ([i64 b.account] ++ [Value.bool b.sure])).toArray)).run Try.prog w =
      .ok (decide (a.name = b.name) && (decide (a.account = b.account) && ((a.sure == b.sure) && true))) w :=
  run_eqStruct Try.underlying25 (by kernel_rfl)
    (eqFields_cons rfl (run_part_one Try.underlying9 rfl rfl) (run_part_one Try.underlying9 rfl rfl) (run_eqStr Try.underlying9)
    (eqFields_cons rfl (run_part_one Try.underlying3 rfl rfl) (run_part_one Try.underlying3 rfl rfl) (run_eqInt Try.underlying3)
    (eqFields_cons rfl (run_part_one Try.underlying4 rfl rfl) (run_part_one Try.underlying4 rfl rfl) (run_eqBool Try.underlying4) eqFields_nil)))
end
end Go.Proofs.Ythpocekigliomaa.K
