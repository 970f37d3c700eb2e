/- A record is put into a row of records. Conditions: the row is one's own and not too long. -/
import Derived.Test.YtlklapledogdcaaSI
namespace Go.Proofs.Ytlklapledogdcaa.K
open Go

theorem Y.cast {P : Program} {n : Nat} {ρ : Env} {o : Oper} {w : World} {v v' : Value} (h : Y P n ρ o w v) (e : v = v') : Y P n ρ o w v' := e ▸ h
theorem row_part {w : World} {b n i : Nat} {cur : Array Value} {T : TypeId} {cs : List Value} (hh : w.heap[b]? = some (.cells cur T (0, 0))) (htk : cur.toList.take (n * 3) = cs) (hi : i ≤ n) : Cs w ⟨b, i * 3, none⟩ (cs.drop (i * 3)) := by
  have hb : Bx w b T cur.toList := by unfold Bx; simpa using hh
  have := hb.part (i * 3) ((n - i) * 3) (xs := cs.drop (i * 3)) (by rw [← htk, List.drop_take]; congr 1; omega)
  rwa [add_mk, Nat.zero_add] at this
theorem hown_one {w : World} {b n i : Nat} {cur : Array Value} {T : TypeId} {cs : List Value} (_ : w.heap[b]? = some (.cells cur T (0, 0))) (_ : cur.toList.take (n * 3) = cs) (h : ∀ u ∈ cs, u.oneCell' = true) : ∀ u ∈ cs.drop (i * 3), u.oneCell' = true := fun u hu => h u (List.mem_of_mem_drop hu)
theorem row_rest {cur : Array Value} {n cap : Nat} {cs : List Value} (hcur : cur.size = cap * 3) (htk : cur.toList.take (n * 3) = cs) (_hcl : cs.length = n * 3) (_hcap : n ≤ cap) : ∃ rest, cur.toList = cs ++ rest ∧ rest.length = (cap - n) * 3 :=
  ⟨cur.toList.drop (n * 3), by rw [← htk, List.take_append_drop], by simp [hcur]; omega⟩
theorem grow_zeros {w : World} {b n cap i : Nat} {cur : Array Value} {cs : List Value} {ty : TypeId} (hh : w.heap[b]? = some (.cells cur 41 (0, 0))) (hcur : cur.size = cap * 3) (htk : cur.toList.take (n * 3) = cs) (hcap : n ≤ cap) (hn : n ≤ 1000000) (hi : i < n) (hroom : cap < n + 1) :
    ∃ w1 G R, w1.heap.size = w.heap.size + 1 ∧ (Builtin.append_ #[38, 3] ty #[.slice (some ⟨b, 0, none⟩) i cap, .int .i64 ((n + 1 - i : Nat) : Int)]).run Try.prog w = .ok (.slice (some ⟨w.heap.size, 0, none⟩) (n + 1) G) w1 ∧ Bx w1 w.heap.size 41 (cs.take (i * 3) ++ R) ∧ Ext w w1 ∧ n + 1 ≤ G ∧ G ≤ maxLen ∧ R.length = (G - i) * 3 := by
  have hbx : Bx w b 41 cur.toList := by unfold Bx; simpa using hh
  have hc0 : Cs w.drew ⟨b, 0, none⟩ (cs.take (i * 3)) := by
    have h0 : Cs w ⟨b, 0, none⟩ (cs.take (i * 3)) := by
      have := hbx.part 0 (i * 3) (xs := cs.take (i * 3)) (by rw [← htk, List.take_take, List.drop_zero]; congr 1; omega)
      simpa [add_mk] using this
    exact h0
  have hlen : (cs.take (i * 3)).length = i * 3 := by
    have : cs.length = n * 3 := by rw [← htk]; simp [hcur]; omega
    simp [this]; omega
  have hl := run_loadCells (P := Try.prog) hc0
  rw [hlen] at hl
  have hold : (Builtin.firstCells (ti 41).size i (.slice (some ⟨b, 0, none⟩) i cap)).run Try.prog w.drew = .ok (cs.take (i * 3)).toArray w.drew := by rw [S41]; simpa [Builtin.firstCells] using hl
  have hr := Go.Lib.run_append_grow_zeros (P := Try.prog) w 38 3 ty 41 (ti 41) _ .i64 .i64 Try.underlying38 Try.underlying3 I41 Z41 (some ⟨b, 0, none⟩) i cap (cs.take (i * 3)) hold (n + 1 - i) (by omega) (by rw [S41]; decide) (by omega) (by omega) (by rw [B41]; omega) (by
    rw [B41]; have := growslice_fits (need := i + (n + 1 - i)) (old := cap) (bytes := 48) (by omega) (by omega); exact this)
  have e : i + (n + 1 - i) = n + 1 := by omega
  rw [e] at hr
  have hG := grownCap_ge w (n + 1) cap 41
  have hGm := grownCap_le_maxLen w (n + 1) cap 41 (by unfold maxLen; omega)
  generalize grownCap w (n + 1) cap 41 = G at hr hG hGm
  obtain ⟨Z, hZ⟩ : ∃ Z, Z = (Value.agg #[Value.string ByteArray.empty, Value.int .i64 0, Value.slice none 0 0]).cells := ⟨_, rfl⟩
  have hZl : Z.size = 3 := by rw [hZ]; rfl
  have hr2 := hr
  change _ = Result.ok _ (w.drew.alloc (.cells ((cs.take (i * 3)).toArray ++ Builtin.zeroCells (Value.agg #[Value.string ByteArray.empty, Value.int .i64 0, Value.slice none 0 0]).cells (n + 1 - i) ++ Builtin.zeroCells (Value.agg #[Value.string ByteArray.empty, Value.int .i64 0, Value.slice none 0 0]).cells (G - (n + 1))) 41)) at hr2
  rw [← hZ] at hr2
  refine ⟨w.drew.alloc (.cells ((cs.take (i * 3)).toArray ++ Builtin.zeroCells Z (n + 1 - i) ++ Builtin.zeroCells Z (G - (n + 1))) 41), G, (Builtin.zeroCells Z (n + 1 - i)).toList ++ (Builtin.zeroCells Z (G - (n + 1))).toList, ?_, hr2, ?_, (Fr.drew1 _ w).alloc _, hG, hGm, ?_⟩
  · simp
  · have := Bx.new w.drew ((cs.take (i * 3)).toArray ++ Builtin.zeroCells Z (n + 1 - i) ++ Builtin.zeroCells Z (G - (n + 1))) 41
    simpa using this
  · simp [Builtin.zeroCells, hZl]; omega
theorem ow_appRun {n : Nat} {ρ : Env} {k : Ks} {ds : List Deferred} {w w' : World} {ty : TypeId} {pos : String} {af : Array Edge} {g : Option (Nat × Bool)} {next : List Deferred → Env → World → Prop} {P : Program} {t : Tmp} {x y : Operand} {T U : TypeId} {vx vy v : Value} (hx : ev n ρ x = vx) (hy : ev n ρ y = vy)
    (hr : (Builtin.append_ #[T, U] ty #[vx, vy]).run P w = .ok v w') (hdn : Nat.blt t n = true) (h : next ds (upd ρ t v) w') : OW P n k ⟨some t, .call { callee := .builtin .append, args := #[x, y], argTypes := #[T, U] }, ty, pos, af, g⟩ ds ρ w next :=
  ow_value (by simp only [execOp, resolve, invoke, builtin, Sem.run_bind, Sem.run_pure, Result.andThen_ok, List.map_toArray, List.map_cons, List.map_nil, hx, hy, hr]) rfl hdn h
theorem gz1 {cs xs R : List Value} {n i : Nat} (hcl : cs.length = n * 3) (hxl : xs.length = 1 * 3) (hi : i < n) : splice (cs.take (i * 3) ++ R) (i * 3) xs = cs.take (i * 3) ++ (xs ++ R.drop 3) := by
  have hl : (cs.take (i * 3)).length = i * 3 := by simp [hcl]; omega
  unfold splice
  rw [List.take_append_of_le_length (by omega), List.take_of_length_le (by omega), List.append_assoc, List.drop_append, List.drop_of_length_le (by omega)]
  rw [hl, hxl]; simp
theorem gz2 {cs xs R : List Value} {n i : Nat} (hcl : cs.length = n * 3) (hxl : xs.length = 1 * 3) (hi : i < n) (hR : (n - i) * 3 ≤ R.length) : splice (cs.take (i * 3) ++ (xs ++ R)) ((i + 1) * 3) (cs.drop (i * 3)) = cs.take (i * 3) ++ (xs ++ (cs.drop (i * 3) ++ R.drop ((n - i) * 3))) := by
  have hl : (cs.take (i * 3)).length = i * 3 := by simp [hcl]; omega
  have hl2 : (cs.take (i * 3) ++ xs).length = (i + 1) * 3 := by rw [List.length_append, hl, hxl]; omega
  have hd : (cs.drop (i * 3)).length = (n - i) * 3 := by rw [List.length_drop, hcl]; omega
  have := splice_mid (cs.take (i * 3) ++ xs) (R.take ((n - i) * 3)) (R.drop ((n - i) * 3)) (cs.drop (i * 3)) (by rw [hd, List.length_take]; omega)
  rw [hl2, List.take_append_drop] at this
  simpa using this
theorem gz3 {cs xs R : List Value} {n i : Nat} (hcl : cs.length = n * 3) (hxl : xs.length = 1 * 3) (hi : i < n) : (cs.take (i * 3) ++ (xs ++ (cs.drop (i * 3) ++ R))).toArray.toList.take ((n + 1) * 3) = cs.take (i * 3) ++ xs ++ cs.drop (i * 3) := by
  have hl : (cs.take (i * 3)).length = i * 3 := by simp [hcl]; omega
  have hd : (cs.drop (i * 3)).length = (n - i) * 3 := by rw [List.length_drop, hcl]; omega
  have e : (cs.take (i * 3) ++ (xs ++ (cs.drop (i * 3) ++ R))) = (cs.take (i * 3) ++ xs ++ cs.drop (i * 3)) ++ R := by simp
  have e2 : (n + 1) * 3 = (cs.take (i * 3) ++ xs ++ cs.drop (i * 3)).length := by simp only [List.length_append, hl, hxl, hd]; omega
  show List.take _ _ = _
  rw [e, e2]; exact List.take_left
theorem sp1 {cs rest : List Value} {n i cap : Nat} (hcl : cs.length = n * 3) (_hrl : rest.length = (cap - n) * 3) (hi : i < n) (_hroom : n + 1 ≤ cap) : splice (cs ++ rest) ((i + 1) * 3) (cs.drop (i * 3)) = cs.take (i * 3) ++ ((cs ++ rest).drop (i * 3) |>.take 3) ++ (cs.drop (i * 3) ++ rest.drop 3) := by
  have hd : (cs.drop (i * 3)).length = (n - i) * 3 := by rw [List.length_drop, hcl]; omega
  unfold splice
  rw [hd]
  have e1 : (cs ++ rest).take ((i + 1) * 3) = cs.take (i * 3) ++ ((cs ++ rest).drop (i * 3) |>.take 3) := by
    rw [show (i + 1) * 3 = i * 3 + 3 by omega, List.take_add, List.take_append_of_le_length (by omega)]
  have e2 : (cs ++ rest).drop ((i + 1) * 3 + (n - i) * 3) = rest.drop 3 := by
    rw [List.drop_append, List.drop_of_length_le (by omega)]; simp; congr 1; omega
  rw [e1, e2]; simp
theorem sp2 {cs xs M R : List Value} {n i : Nat} (hcl : cs.length = n * 3) (hxl : xs.length = 1 * 3) (hi : i < n) (hM : M.length = 3) : splice (cs.take (i * 3) ++ M ++ (cs.drop (i * 3) ++ R)) (i * 3) xs = cs.take (i * 3) ++ (xs ++ (cs.drop (i * 3) ++ R)) := by
  have hl : (cs.take (i * 3)).length = i * 3 := by simp [hcl]; omega
  have := splice_mid (cs.take (i * 3)) M (cs.drop (i * 3) ++ R) xs (by omega)
  rw [hl] at this
  simpa using this
theorem sp3 {cs xs R : List Value} {n i : Nat} (hcl : cs.length = n * 3) (hxl : xs.length = 1 * 3) (hi : i < n) : (cs.take (i * 3) ++ (xs ++ (cs.drop (i * 3) ++ R))).toArray.toList.take ((n + 1) * 3) = cs.take (i * 3) ++ xs ++ cs.drop (i * 3) := gz3 hcl hxl hi
theorem del_app {w : World} {b n cap i : Nat} {cur : Array Value} {cs rest : List Value} {ty : TypeId} (hh : w.heap[b]? = some (.cells cur 41 (0, 0))) (_hcur : cur.size = cap * 3) (_htk : cur.toList.take (n * 3) = cs) (hcl : cs.length = n * 3) (hcs : Cs w ⟨b, (i + 1) * 3, none⟩ (cs.drop ((i + 1) * 3))) (hcap : n ≤ cap)
    (h1 : ∀ u ∈ cs, u.oneCell' = true) (hi : i < n) (hrest : cur.toList = cs ++ rest) (_hrl : rest.length = (cap - n) * 3) :
    ∃ w1, (Builtin.append_ #[38, 38] ty #[.slice (some ⟨b, 0, none⟩) i cap, .slice (if cap = i + 1 then some ⟨b, 0, none⟩ else some ⟨b, (i + 1) * 3, none⟩) (n - (i + 1)) (cap - (i + 1))]).run Try.prog w = .ok (.slice (some ⟨b, 0, none⟩) (n - 1) cap) w1 ∧ Bx w1 b 41 (cs.take (i * 3) ++ cs.drop ((i + 1) * 3) ++ (cs.drop ((n - 1) * 3) ++ rest)) ∧ Fr (· = b) w w1 := by
  have hd : (cs.drop ((i + 1) * 3)).length = (n - (i + 1)) * 3 := by rw [List.length_drop, hcl]; omega
  obtain ⟨a, ha, hca⟩ : ∃ a : Addr, (if cap = i + 1 then some (⟨b, 0, none⟩ : Addr) else some ⟨b, (i + 1) * 3, none⟩) = some a ∧ Cs w a (cs.drop ((i + 1) * 3)) := by
    by_cases h : cap = i + 1
    · refine ⟨_, if_pos h, ?_⟩
      have : cs.drop ((i + 1) * 3) = [] := List.drop_eq_nil_of_le (by omega)
      rw [this]; exact Cs.nil _ _
    · exact ⟨_, if_neg h, hcs⟩
  have hr := run_append_room (P := Try.prog) w 38 ty 41 (ti 41) Try.underlying38 I41 b i cap cur hh a (n - (i + 1)) (cap - (i + 1)) (cs.drop ((i + 1) * 3)) (by rw [hd, S41]) hca (fun u hu => h1 u (List.mem_of_mem_drop hu)) (by omega) (by rw [hd, S41]; omega)
  rw [← ha, S41, show i + (n - (i + 1)) = n - 1 by omega, hd] at hr
  have e : cur.toList.take (i * 3) ++ cs.drop ((i + 1) * 3) ++ cur.toList.drop (i * 3 + (n - (i + 1)) * 3) = cs.take (i * 3) ++ cs.drop ((i + 1) * 3) ++ (cs.drop ((n - 1) * 3) ++ rest) := by
    rw [hrest, List.take_append_of_le_length (by omega), List.drop_append_of_le_length (by omega), show i * 3 + (n - (i + 1)) * 3 = (n - 1) * 3 by omega]
  rw [e] at hr
  refine ⟨_, hr, ?_, setRow_fr w b _⟩
  unfold Bx
  rw [setRow_heap w b _ _ 41 _ hh]
theorem del_take {cs R Z : List Value} {n i : Nat} (hcl : cs.length = n * 3) (hi : i < n) : (splice (cs.take (i * 3) ++ cs.drop ((i + 1) * 3) ++ R) ((n - 1) * 3) Z).toArray.toList.take ((n - 1) * 3) = cs.take (i * 3) ++ cs.drop ((i + 1) * 3) := by
  have hl : (cs.take (i * 3) ++ cs.drop ((i + 1) * 3)).length = (n - 1) * 3 := by simp [hcl]; omega
  show List.take _ _ = _
  unfold splice
  rw [List.append_assoc, List.take_append_of_le_length (by simp [hcl]; omega), List.take_take, Nat.min_self, List.take_append_of_le_length (by omega), List.take_of_length_le (by omega)]
theorem rowCells {w : World} {e sz n : Nat} {v : Value} {xs : List Value} (h : w.ownsRow 0 e sz v n xs) {b : Nat} (hb : ownB v b) : Cs w ⟨b, 0, none⟩ xs := h.cells hb
set_option maxRecDepth 100000 in
set_option maxHeartbeats 2000000 in
theorem insert_end {n : Nat} {ao : Option Addr} {cap c2 b2 : Nat} {cs xs : List Value} {w : World} (hown : w.ownsRow 0 41 3 (.slice ao n cap) n cs) (hx0 : w.ownsRow 0 41 3 (.slice (some ⟨b2, 0, none⟩) 1 c2) 1 xs) (hx1 : ∀ u ∈ xs, u.oneCell' = true) (hn : n ≤ 1000000) :
    Ret Try.prog 28 #[.slice ao n cap, .int .i64 (n : Int), .slice (some ⟨b2, 0, none⟩) 1 c2] w (fun u w' => w'.ownsRow 0 41 3 u (n + 1) (cs.take (n * 3) ++ xs ++ cs.drop (n * 3)) ∧ Fr (ownB (Value.slice ao n cap)) w w' ∧ (u.ownBlock = (Value.slice ao n cap).ownBlock ∨ ∀ b, ownB u b → w.heap.size ≤ b)) := by
  refine k_enter3 Try.func28 rfl Try.ntmps28 rfl ?_
  have hcl := hown.1
  have hcap : n ≤ cap := by rcases hown.2 with ⟨h, h0⟩ | ⟨_, _, _, h, _, _, h1, _⟩ <;> cases h <;> omega
  refine k_seq ?_
  refine k_region ?_
  refine kl_val (y_assign) rfl rfl rfl ?_
  refine kl_nil ?_
  refine x_seq ?_
  refine k_seq ?_
  refine k_region ?_
  refine kl_val (y_move) rfl rfl rfl ?_
  refine kl_val (y_move) rfl rfl rfl ?_
  refine kl_val (y_sliceLo Try.underlying38 I41 S41 rfl rfl (by omega) (by omega)) rfl rfl rfl ?_
  refine kl_nil ?_
  refine x_seq ?_
  refine k_seq ?_
  refine k_region ?_
  refine kl_val (y_move) rfl rfl rfl ?_
  refine kl_val (y_lenS Try.underlying38 rfl) rfl rfl rfl ?_
  refine kl_val (y_assign) rfl rfl rfl ?_
  refine kl_nil ?_
  refine x_seq ?_
  refine k_seq ?_
  refine k_seq ?_
  refine k_region ?_
  refine kl_val (y_move) rfl rfl rfl ?_
  refine kl_val (Y.cast (v' := .bool false) (y_eql rfl rfl) rfl) rfl rfl rfl ?_
  refine kl_nil ?_
  refine x_seq ?_
  refine k_condF rfl ?_
  refine k_skip ?_
  refine x_seq ?_
  refine k_seq ?_
  refine k_region ?_
  refine kl_val (y_move) rfl rfl rfl ?_
  refine kl_val (y_lenS Try.underlying38 rfl) rfl rfl rfl ?_
  refine kl_val (y_assign) rfl rfl rfl ?_
  refine kl_nil ?_
  refine x_seq ?_
  refine k_seq ?_
  refine k_seq ?_
  refine k_region ?_
  refine kl_val (y_move) rfl rfl rfl ?_
  refine kl_val (y_move) rfl rfl rfl ?_
  refine kl_val (Y.cast (v' := .bool true) (y_eql rfl rfl) (congrArg Value.bool (decide_eq_true rfl))) rfl rfl rfl ?_
  refine kl_nil ?_
  refine x_seq ?_
  refine k_condT rfl ?_
  refine k_seq ?_
  refine k_region ?_
  refine kl_val (y_move) rfl rfl rfl ?_
  refine kl_val (y_move) rfl rfl rfl ?_
  refine kl_ow rfl (ow_append Try.underlying38 I41 Z41 S41 rfl (by decide) (by rw [B41]; decide) rfl hown rfl (news := xs) (by rw [hx0.1]) (hx0.cells rfl) hx1 (by omega) rfl (fun u w' h1 h2 h3 _ => ?_))
  refine kl_val (y_assign) rfl rfl rfl ?_
  refine kl_nil ?_
  refine x_seq ?_
  refine k_ret ?_
  refine x_seqR ?_
  exact k_ret1 rfl rfl ⟨_, rfl, by rw [List.take_of_length_le (by omega), List.drop_eq_nil_of_le (by omega), List.append_nil]; exact h1, h2, h3⟩

set_option maxRecDepth 100000 in
set_option maxHeartbeats 2000000 in
theorem insert_grow {n : Nat} {b cap c2 b2 i : Nat} {cur : Array Value} {cs xs : List Value} {w : World} (hown : w.ownsRow 0 41 3 (.slice (some ⟨b, 0, none⟩) n cap) n cs) (hx0 : w.ownsRow 0 41 3 (.slice (some ⟨b2, 0, none⟩) 1 c2) 1 xs) (hx1 : ∀ u ∈ xs, u.oneCell' = true) (hn : n ≤ 1000000) (hh : w.heap[b]? = some (.cells cur 41 (0, 0))) (hcur : cur.size = cap * 3) (htk : cur.toList.take (n * 3) = cs) (hcap : n ≤ cap) (hmax : cap ≤ maxLen) (hne : b2 ≠ b) (hi : i < n) (hown_hs : ∀ u ∈ cs, u.oneCell' = true) (hroom : cap < n + 1) :
    Ret Try.prog 28 #[.slice (some ⟨b, 0, none⟩) n cap, .int .i64 (i : Int), .slice (some ⟨b2, 0, none⟩) 1 c2] w (fun u w' => w'.ownsRow 0 41 3 u (n + 1) (cs.take (i * 3) ++ xs ++ cs.drop (i * 3)) ∧ Fr (ownB (Value.slice (some ⟨b, 0, none⟩) n cap)) w w' ∧ (u.ownBlock = (Value.slice (some ⟨b, 0, none⟩) n cap).ownBlock ∨ ∀ b, ownB u b → w.heap.size ≤ b)) := by
  refine k_enter3 Try.func28 rfl Try.ntmps28 rfl ?_
  have hcl := hown.1
  have hxl := hx0.1
  obtain ⟨hb2, hx2⟩ : ∃ X2 : Array Value, w.heap[b2]? = some (.cells X2 41 (0, 0)) ∧ X2.size ≠ 0 := by
    rcases hx0.2 with ⟨h, _⟩ | ⟨q, c, cu, h, _, h1, h2, _, h3, _⟩
    · cases h
    · cases h; exact ⟨cu, h1, by omega⟩
  have hcsx : Cs w ⟨b2, 0, none⟩ xs := rowCells hx0 rfl
  refine k_seq ?_
  refine k_region ?_
  refine kl_val (y_assign) rfl rfl rfl ?_
  refine kl_nil ?_
  refine x_seq ?_
  refine k_seq ?_
  refine k_region ?_
  refine kl_val (y_move) rfl rfl rfl ?_
  refine kl_val (y_move) rfl rfl rfl ?_
  refine kl_val (Y.cast (v' := .slice (some ⟨b, i * 3, none⟩) (n - i) (cap - i)) (y_sliceLo Try.underlying38 I41 S41 rfl rfl (by omega) (by omega)) (by rw [if_neg (by omega)]; simp [add_mk])) rfl rfl rfl ?_
  refine kl_nil ?_
  refine x_seq ?_
  refine k_seq ?_
  refine k_region ?_
  refine kl_val (y_move) rfl rfl rfl ?_
  refine kl_val (y_lenS Try.underlying38 rfl) rfl rfl rfl ?_
  refine kl_val (y_assign) rfl rfl rfl ?_
  refine kl_nil ?_
  refine x_seq ?_
  refine k_seq ?_
  refine k_seq ?_
  refine k_region ?_
  refine kl_val (y_move) rfl rfl rfl ?_
  refine kl_val (Y.cast (v' := .bool false) (y_eql rfl rfl) rfl) rfl rfl rfl ?_
  refine kl_nil ?_
  refine x_seq ?_
  refine k_condF rfl ?_
  refine k_skip ?_
  refine x_seq ?_
  refine k_seq ?_
  refine k_region ?_
  refine kl_val (y_move) rfl rfl rfl ?_
  refine kl_val (y_lenS Try.underlying38 rfl) rfl rfl rfl ?_
  refine kl_val (y_assign) rfl rfl rfl ?_
  refine kl_nil ?_
  refine x_seq ?_
  refine k_seq ?_
  refine k_seq ?_
  refine k_region ?_
  refine kl_val (y_move) rfl rfl rfl ?_
  refine kl_val (y_move) rfl rfl rfl ?_
  refine kl_val (Y.cast (v' := .bool false) (y_eql rfl rfl) (congrArg Value.bool (decide_eq_false (by omega)))) rfl rfl rfl ?_
  refine kl_nil ?_
  refine x_seq ?_
  refine k_condF rfl ?_
  refine k_skip ?_
  refine x_seq ?_
  refine k_seq ?_
  refine k_seq ?_
  refine k_region ?_
  refine kl_val (y_move) rfl rfl rfl ?_
  refine kl_val (y_move) rfl rfl rfl ?_
  refine kl_val (Y.cast (v' := .int .i64 ((n + 1 : Nat) : Int)) (y_add64 rfl rfl (by omega)) rfl) rfl rfl rfl ?_
  refine kl_val (y_move) rfl rfl rfl ?_
  refine kl_val (y_capS Try.underlying38 rfl) rfl rfl rfl ?_
  refine kl_val (Y.cast (v' := .bool true) (y_gtr rfl rfl) (congrArg Value.bool (decide_eq_true (by omega)))) rfl rfl rfl ?_
  refine kl_nil ?_
  refine x_seq ?_
  refine k_condT rfl ?_
  refine k_seq ?_
  refine k_region ?_
  refine kl_val (y_move) rfl rfl rfl ?_
  refine kl_val (y_move) rfl rfl rfl ?_
  refine kl_val (Y.cast (v' := .slice (some ⟨b, 0, none⟩) i cap) (y_sliceHi Try.underlying38 I41 rfl rfl (by omega) (by omega)) (by simp)) rfl rfl rfl ?_
  refine kl_val (y_move) rfl rfl rfl ?_
  refine kl_val (y_move) rfl rfl rfl ?_
  refine kl_val (Y.cast (v' := .int .i64 ((n + 1 : Nat) : Int)) (y_add64 rfl rfl (by omega)) rfl) rfl rfl rfl ?_
  refine kl_val (y_move) rfl rfl rfl ?_
  refine kl_val (Y.cast (v' := .int .i64 ((n + 1 - i : Nat) : Int)) (y_sub64 rfl rfl (by omega)) (congrArg (Value.int .i64) (by omega))) rfl rfl rfl ?_
  obtain ⟨w1, G, R, hz1, hrun, hb1, hf1, hG, hGm, hR⟩ := grow_zeros (i := i) (ty := 38) hh hcur htk hcap hn hi (by omega)
  refine kl_ow rfl (ow_appRun rfl rfl hrun rfl ?_)
  have hbs : b < w.heap.size := (Array.getElem?_eq_some_iff.1 hh).1
  have hbs2 : b2 < w.heap.size := (Array.getElem?_eq_some_iff.1 hx2.1).1
  have hcs0 : Cs w ⟨b, i * 3, none⟩ (cs.drop (i * 3)) := row_part hh htk (by omega)
  have hcs1 := hcs0.keep hf1 (fun h => h)
  have hx3 := hcsx.keep hf1 (fun h => h)
  refine kl_val (y_assign) rfl rfl rfl ?_
  refine kl_nil ?_
  refine x_seq ?_
  refine k_seq ?_
  refine k_region ?_
  refine kl_val (y_move) rfl rfl rfl ?_
  refine kl_val (y_move) rfl rfl rfl ?_
  refine kl_val (Y.cast (v' := .slice (some ⟨w.heap.size, i * 3, none⟩) (n + 1 - i) (G - i)) (y_sliceLo Try.underlying38 I41 S41 rfl rfl (by omega) (by omega)) (by rw [if_neg (by omega)]; simp [add_mk])) rfl rfl rfl ?_
  refine kl_val (y_move) rfl rfl rfl ?_
  refine kl_ow rfl (ow_copyG Try.underlying38 I41 S41 rfl rfl hb1 (news := xs) hx3 (by rw [hxl]; show 1 * 3 = min 1 (n + 1 - i) * 3; omega) (by simp [hR, hxl]; omega) hx1 rfl (fun w2 u2 hb2' hf2 hz2 => ?_))
  rw [gz1 hcl hxl (by omega)] at hb2'
  have hcs2 := hcs1.keep hf2 (by show ¬ b = _; omega)
  refine kl_nil ?_
  refine x_seq ?_
  refine k_seq ?_
  refine k_regionD (S := fun _ => True) [] [(0, true), (1, true), (2, true), (3, true), (4, true), (5, true), (6, true), (7, true), (8, false)] mixed (fun _ _ _ _ _ h => h) (by kernel_rfl) ?_
  have hb2'' : Bx w2.drew w.heap.size _ _ := hb2'
  have hcs3 : Cs w2.drew _ _ := hcs2
  refine kr_val rfl (trivial) (fun w' hS' => y_move) rfl rfl rfl ?_
  refine kr_val rfl (trivial) (fun w' hS' => y_move) rfl rfl rfl ?_
  refine kr_val rfl (trivial) (fun w' hS' => y_move) rfl rfl rfl ?_
  refine kr_val rfl (trivial) (fun w' hS' => Y.cast (v' := .int .i64 ((i + 1 : Nat) : Int)) (y_add64 rfl rfl (by omega)) rfl) rfl rfl rfl ?_
  refine kr_val rfl (trivial) (fun w' hS' => Y.cast (v' := .slice (some ⟨w.heap.size, (i + 1) * 3, none⟩) (n + 1 - (i + 1)) (G - (i + 1))) (y_sliceLo Try.underlying38 I41 S41 rfl rfl (by omega) (by omega)) (by rw [if_neg (by omega)]; simp [add_mk])) rfl rfl rfl ?_
  refine kr_val rfl (trivial) (fun w' hS' => y_move) rfl rfl rfl ?_
  refine kr_val rfl (trivial) (fun w' hS' => y_move) rfl rfl rfl ?_
  refine kr_val rfl (trivial) (fun w' hS' => Y.cast (v' := .slice (some ⟨b, i * 3, none⟩) (n - i) (cap - i)) (y_sliceLo Try.underlying38 I41 S41 rfl rfl (by omega) (by omega)) (by rw [if_neg (by omega)]; simp [add_mk])) rfl rfl rfl ?_
  refine kr_ow rfl rfl (ow_copyG Try.underlying38 I41 S41 rfl rfl hb2'' (news := cs.drop (i * 3)) hcs3 (by rw [List.length_drop, hcl]; show _ = min (n - i) (n + 1 - (i + 1)) * 3; omega) (by simp [hcl, hxl]; omega) (hown_one hh htk hown_hs) rfl (fun w3 u3 hb3 hf3 hz3 => ?_))
  rw [gz2 hcl hxl (by omega) (by simp [hR]; omega)] at hb3
  refine ⟨(fun _ => trivial), ?_⟩
  refine kr_nil ?_
  refine x_seq ?_
  refine k_seq ?_
  refine k_region ?_
  refine kl_val (y_move) rfl rfl rfl ?_
  refine kl_val (y_assign) rfl rfl rfl ?_
  refine kl_nil ?_
  refine x_seq ?_
  refine k_ret ?_
  refine x_seqR ?_
  exact k_ret1 rfl rfl ⟨_, rfl, ⟨by simp [hcl, hxl]; omega, .inr ⟨_, G, _, rfl, Nat.zero_le _, hb3, by omega, hGm, by simp [hcl, hxl, hR]; omega, gz3 hcl hxl (by omega)⟩⟩, (hf1.fr.trans' hf2 (fun j hj e => by omega)).drew.trans' hf3 (fun j hj e => by omega), .inr fun q hq => Nat.le_of_eq (Option.some.inj hq)⟩

set_option maxRecDepth 100000 in
set_option maxHeartbeats 2000000 in
theorem insert_shift {n : Nat} {b cap c2 b2 i : Nat} {cur : Array Value} {cs xs : List Value} {w : World} (hown : w.ownsRow 0 41 3 (.slice (some ⟨b, 0, none⟩) n cap) n cs) (hx0 : w.ownsRow 0 41 3 (.slice (some ⟨b2, 0, none⟩) 1 c2) 1 xs) (hx1 : ∀ u ∈ xs, u.oneCell' = true) (hn : n ≤ 1000000) (hh : w.heap[b]? = some (.cells cur 41 (0, 0))) (hcur : cur.size = cap * 3) (htk : cur.toList.take (n * 3) = cs) (hcap : n ≤ cap) (hmax : cap ≤ maxLen) (hne : b2 ≠ b) (hi : i < n) (hown_hs : ∀ u ∈ cs, u.oneCell' = true) (hroom : n + 1 ≤ cap) :
    Ret Try.prog 28 #[.slice (some ⟨b, 0, none⟩) n cap, .int .i64 (i : Int), .slice (some ⟨b2, 0, none⟩) 1 c2] w (fun u w' => w'.ownsRow 0 41 3 u (n + 1) (cs.take (i * 3) ++ xs ++ cs.drop (i * 3)) ∧ Fr (ownB (Value.slice (some ⟨b, 0, none⟩) n cap)) w w' ∧ (u.ownBlock = (Value.slice (some ⟨b, 0, none⟩) n cap).ownBlock ∨ ∀ b, ownB u b → w.heap.size ≤ b)) := by
  refine k_enter3 Try.func28 rfl Try.ntmps28 rfl ?_
  have hcl := hown.1
  have hxl := hx0.1
  obtain ⟨hb2, hx2⟩ : ∃ X2 : Array Value, w.heap[b2]? = some (.cells X2 41 (0, 0)) ∧ X2.size ≠ 0 := by
    rcases hx0.2 with ⟨h, _⟩ | ⟨q, c, cu, h, _, h1, h2, _, h3, _⟩
    · cases h
    · cases h; exact ⟨cu, h1, by omega⟩
  have hcsx : Cs w ⟨b2, 0, none⟩ xs := rowCells hx0 rfl
  have hbs : b < w.heap.size := (Array.getElem?_eq_some_iff.1 hh).1
  have hbx : Bx w b 41 cur.toList := by unfold Bx; simpa using hh
  obtain ⟨rest, hrest, hrl⟩ := row_rest hcur htk hcl hcap
  refine k_seq ?_
  refine k_region ?_
  refine kl_val (y_assign) rfl rfl rfl ?_
  refine kl_nil ?_
  refine x_seq ?_
  refine k_seq ?_
  refine k_region ?_
  refine kl_val (y_move) rfl rfl rfl ?_
  refine kl_val (y_move) rfl rfl rfl ?_
  refine kl_val (Y.cast (v' := .slice (some ⟨b, i * 3, none⟩) (n - i) (cap - i)) (y_sliceLo Try.underlying38 I41 S41 rfl rfl (by omega) (by omega)) (by rw [if_neg (by omega)]; simp [add_mk])) rfl rfl rfl ?_
  refine kl_nil ?_
  refine x_seq ?_
  refine k_seq ?_
  refine k_region ?_
  refine kl_val (y_move) rfl rfl rfl ?_
  refine kl_val (y_lenS Try.underlying38 rfl) rfl rfl rfl ?_
  refine kl_val (y_assign) rfl rfl rfl ?_
  refine kl_nil ?_
  refine x_seq ?_
  refine k_seq ?_
  refine k_seq ?_
  refine k_region ?_
  refine kl_val (y_move) rfl rfl rfl ?_
  refine kl_val (Y.cast (v' := .bool false) (y_eql rfl rfl) rfl) rfl rfl rfl ?_
  refine kl_nil ?_
  refine x_seq ?_
  refine k_condF rfl ?_
  refine k_skip ?_
  refine x_seq ?_
  refine k_seq ?_
  refine k_region ?_
  refine kl_val (y_move) rfl rfl rfl ?_
  refine kl_val (y_lenS Try.underlying38 rfl) rfl rfl rfl ?_
  refine kl_val (y_assign) rfl rfl rfl ?_
  refine kl_nil ?_
  refine x_seq ?_
  refine k_seq ?_
  refine k_seq ?_
  refine k_region ?_
  refine kl_val (y_move) rfl rfl rfl ?_
  refine kl_val (y_move) rfl rfl rfl ?_
  refine kl_val (Y.cast (v' := .bool false) (y_eql rfl rfl) (congrArg Value.bool (decide_eq_false (by omega)))) rfl rfl rfl ?_
  refine kl_nil ?_
  refine x_seq ?_
  refine k_condF rfl ?_
  refine k_skip ?_
  refine x_seq ?_
  refine k_seq ?_
  refine k_seq ?_
  refine k_region ?_
  refine kl_val (y_move) rfl rfl rfl ?_
  refine kl_val (y_move) rfl rfl rfl ?_
  refine kl_val (Y.cast (v' := .int .i64 ((n + 1 : Nat) : Int)) (y_add64 rfl rfl (by omega)) rfl) rfl rfl rfl ?_
  refine kl_val (y_move) rfl rfl rfl ?_
  refine kl_val (y_capS Try.underlying38 rfl) rfl rfl rfl ?_
  refine kl_val (Y.cast (v' := .bool false) (y_gtr rfl rfl) (congrArg Value.bool (decide_eq_false (by omega)))) rfl rfl rfl ?_
  refine kl_nil ?_
  refine x_seq ?_
  refine k_condF rfl ?_
  refine k_skip ?_
  refine x_seq ?_
  refine k_seq ?_
  refine k_region ?_
  refine kl_val (y_move) rfl rfl rfl ?_
  refine kl_val (y_move) rfl rfl rfl ?_
  refine kl_val (y_move) rfl rfl rfl ?_
  refine kl_val (Y.cast (v' := .int .i64 ((n + 1 : Nat) : Int)) (y_add64 rfl rfl (by omega)) rfl) rfl rfl rfl ?_
  refine kl_val (Y.cast (v' := .slice (some ⟨b, 0, none⟩) (n + 1) cap) (y_sliceHi Try.underlying38 I41 rfl rfl (by omega) (by omega)) (by simp)) rfl rfl rfl ?_
  refine kl_val (y_assign) rfl rfl rfl ?_
  refine kl_nil ?_
  refine x_seq ?_
  refine k_seq ?_
  refine k_seq ?_
  refine k_region ?_
  refine kl_val (y_move) rfl rfl rfl ?_
  refine kl_val (y_move) rfl rfl rfl ?_
  refine kl_val (y_move) rfl rfl rfl ?_
  refine kl_val (y_move) rfl rfl rfl ?_
  refine kl_val (Y.cast (v' := .int .i64 ((i + 1 : Nat) : Int)) (y_add64 rfl rfl (by omega)) rfl) rfl rfl rfl ?_
  refine kl_val (Y.cast (v' := .slice (some ⟨b, (i + 1) * 3, none⟩) (n + 1 - (i + 1)) (cap - (i + 1))) (y_sliceLo Try.underlying38 I41 S41 rfl rfl (by omega) (by omega)) (by rw [if_neg (by omega)]; simp [add_mk])) rfl rfl rfl ?_
  refine kl_ow rfl (ow_overlaps (a := ⟨b2, 0, none⟩) (b := ⟨b, (i + 1) * 3, none⟩) ev_func rfl rfl hne hx2.1 hh (by omega) rfl ?_)
  refine kl_val (y_not rfl) rfl rfl rfl ?_
  refine kl_nil ?_
  refine x_seq ?_
  refine k_condT rfl ?_
  refine k_seq ?_
  refine k_regionD (S := fun _ => True) [] [(0, true), (1, true), (2, true), (3, true), (4, true), (5, true), (6, true), (7, true), (8, false)] mixed (fun _ _ _ _ _ h => h) (by kernel_rfl) ?_
  have hbx' : Bx w.drew b _ _ := hbx
  have hcs0 : Cs w.drew ⟨b, i * 3, none⟩ (cs.drop (i * 3)) := row_part hh htk (by omega)
  refine kr_val rfl (trivial) (fun w' hS' => y_move) rfl rfl rfl ?_
  refine kr_val rfl (trivial) (fun w' hS' => y_move) rfl rfl rfl ?_
  refine kr_val rfl (trivial) (fun w' hS' => y_move) rfl rfl rfl ?_
  refine kr_val rfl (trivial) (fun w' hS' => Y.cast (v' := .int .i64 ((i + 1 : Nat) : Int)) (y_add64 rfl rfl (by omega)) rfl) rfl rfl rfl ?_
  refine kr_val rfl (trivial) (fun w' hS' => Y.cast (v' := .slice (some ⟨b, (i + 1) * 3, none⟩) (n + 1 - (i + 1)) (cap - (i + 1))) (y_sliceLo Try.underlying38 I41 S41 rfl rfl (by omega) (by omega)) (by rw [if_neg (by omega)]; simp [add_mk])) rfl rfl rfl ?_
  refine kr_val rfl (trivial) (fun w' hS' => y_move) rfl rfl rfl ?_
  refine kr_val rfl (trivial) (fun w' hS' => y_move) rfl rfl rfl ?_
  refine kr_val rfl (trivial) (fun w' hS' => Y.cast (v' := .slice (some ⟨b, i * 3, none⟩) (n + 1 - i) (cap - i)) (y_sliceLo Try.underlying38 I41 S41 rfl rfl (by omega) (by omega)) (by rw [if_neg (by omega)]; simp [add_mk])) rfl rfl rfl ?_
  refine kr_ow rfl rfl (ow_copyG Try.underlying38 I41 S41 rfl rfl hbx' (news := cs.drop (i * 3)) hcs0 (by rw [List.length_drop, hcl]; show _ = min (n + 1 - i) (n + 1 - (i + 1)) * 3; omega) (by simp [hcl, hcur]; omega) (hown_one hh htk hown_hs) rfl (fun w1 u1 hb1 hf1 hz1 => ?_))
  rw [hrest, sp1 hcl hrl (by omega) (by omega)] at hb1
  have hx3 := hcsx.keep (Fr.drew1 (· = b) w |>.trans hf1) hne
  refine ⟨(fun _ => trivial), ?_⟩
  refine kr_nil ?_
  refine x_seq ?_
  refine k_seq ?_
  refine k_region ?_
  refine kl_val (y_move) rfl rfl rfl ?_
  refine kl_val (y_move) rfl rfl rfl ?_
  refine kl_val (Y.cast (v' := .slice (some ⟨b, i * 3, none⟩) (n + 1 - i) (cap - i)) (y_sliceLo Try.underlying38 I41 S41 rfl rfl (by omega) (by omega)) (by rw [if_neg (by omega)]; simp [add_mk])) rfl rfl rfl ?_
  refine kl_val (y_move) rfl rfl rfl ?_
  refine kl_ow rfl (ow_copyG Try.underlying38 I41 S41 rfl rfl hb1 (news := xs) hx3 (by rw [hxl]; show 1 * 3 = min 1 (n + 1 - i) * 3; omega) (by simp [hcl, hxl, hrl]; omega) hx1 rfl (fun w2 u2 hb2' hf2 hz2 => ?_))
  rw [sp2 hcl hxl (by omega) (by simp [hcl, hrl]; omega)] at hb2'
  refine kl_nil ?_
  refine x_seq ?_
  refine k_seq ?_
  refine k_region ?_
  refine kl_val (y_move) rfl rfl rfl ?_
  refine kl_val (y_assign) rfl rfl rfl ?_
  refine kl_nil ?_
  refine x_seq ?_
  refine k_ret ?_
  refine x_seqR ?_
  exact k_ret1 rfl rfl ⟨_, rfl, ⟨by simp [hcl, hxl]; omega, .inr ⟨_, cap, _, rfl, Nat.zero_le _, hb2', by omega, hmax, by simp [hcl, hxl, hrl]; omega, sp3 hcl hxl (by omega)⟩⟩, (((Fr.drew1 (· = b) w).trans hf1).trans hf2).mono (fun j _ e => by subst e; rfl), .inl rfl⟩

set_option maxRecDepth 100000 in
set_option maxHeartbeats 2000000 in
theorem delete_k {n b cap i : Nat} {cur : Array Value} {cs : List Value} {w : World} (hown : w.ownsRow 0 41 3 (.slice (some ⟨b, 0, none⟩) n cap) n cs) (hh : w.heap[b]? = some (.cells cur 41 (0, 0))) (hcur : cur.size = cap * 3) (htk : cur.toList.take (n * 3) = cs) (hcap : n ≤ cap) (hmax : cap ≤ maxLen) (hown_hs : ∀ u ∈ cs, u.oneCell' = true) (hi : i < n) (hn : n ≤ 1000000) :
    Ret Try.prog 29 #[.slice (some ⟨b, 0, none⟩) n cap, .int .i64 (i : Int), .int .i64 ((i : Int) + 1)] w (fun u w' => w'.ownsRow 0 41 3 u (n - 1) (cs.take (i * 3) ++ cs.drop ((i + 1) * 3)) ∧ Fr (ownB (Value.slice (some ⟨b, 0, none⟩) n cap)) w w' ∧ u.ownBlock = (Value.slice (some ⟨b, 0, none⟩) n cap).ownBlock) := by
  refine k_enter3 Try.func29 rfl Try.ntmps29 rfl ?_
  have hcl := hown.1
  have hbx : Bx w b 41 cur.toList := by unfold Bx; simpa using hh
  obtain ⟨rest, hrest, hrl⟩ := row_rest hcur htk hcl hcap
  refine k_seq ?_
  refine k_region ?_
  refine kl_val (y_assign) rfl rfl rfl ?_
  refine kl_nil ?_
  refine x_seq ?_
  refine k_seq ?_
  refine k_region ?_
  refine kl_val (y_move) rfl rfl rfl ?_
  refine kl_val (y_move) rfl rfl rfl ?_
  refine kl_val (y_move) rfl rfl rfl ?_
  refine kl_val (y_move) rfl rfl rfl ?_
  refine kl_val (y_lenS Try.underlying38 rfl) rfl rfl rfl ?_
  refine kl_val (y_slice3 Try.underlying38 I41 S41 rfl rfl rfl rfl (by omega) (by omega) (by omega) (by omega)) rfl rfl rfl ?_
  refine kl_nil ?_
  refine x_seq ?_
  refine k_seq ?_
  refine k_seq ?_
  refine k_region ?_
  refine kl_val (y_move) rfl rfl rfl ?_
  refine kl_val (y_move) rfl rfl rfl ?_
  refine kl_val (Y.cast (v' := .bool false) (y_eql rfl rfl) (congrArg Value.bool (decide_eq_false (by omega)))) rfl rfl rfl ?_
  refine kl_nil ?_
  refine x_seq ?_
  refine k_condF rfl ?_
  refine k_skip ?_
  refine x_seq ?_
  refine k_seq ?_
  refine k_region ?_
  refine kl_val (y_move) rfl rfl rfl ?_
  refine kl_val (y_lenS Try.underlying38 rfl) rfl rfl rfl ?_
  refine kl_val (y_assign) rfl rfl rfl ?_
  refine kl_nil ?_
  refine x_seq ?_
  refine k_seq ?_
  refine k_regionD (S := fun _ => True) [] [(0, true), (1, true), (2, true), (3, true), (4, true), (5, true), (6, false), (7, true)] mixed (fun _ _ _ _ _ h => h) (by kernel_rfl) ?_
  have hh' : w.drew.heap[b]? = some (.cells cur 41 (0, 0)) := hh
  have hcs0 : Cs w.drew ⟨b, (i + 1) * 3, none⟩ (cs.drop ((i + 1) * 3)) := row_part hh htk (by omega)
  refine kr_val rfl (trivial) (fun w' hS' => y_move) rfl rfl rfl ?_
  refine kr_val rfl (trivial) (fun w' hS' => y_move) rfl rfl rfl ?_
  refine kr_val rfl (trivial) (fun w' hS' => Y.cast (v' := .slice (some ⟨b, 0, none⟩) i cap) (y_sliceHi Try.underlying38 I41 rfl rfl (by omega) (by omega)) (by simp)) rfl rfl rfl ?_
  refine kr_val rfl (trivial) (fun w' hS' => y_move) rfl rfl rfl ?_
  refine kr_val rfl (trivial) (fun w' hS' => y_move) rfl rfl rfl ?_
  refine kr_val rfl (trivial) (fun w' hS' => Y.cast (v' := .slice (if cap = i + 1 then some ⟨b, 0, none⟩ else some ⟨b, (i + 1) * 3, none⟩) (n - (i + 1)) (cap - (i + 1))) (y_sliceLo Try.underlying38 I41 S41 rfl rfl (by omega) (by omega)) (by rw [show ((i : Int) + 1).toNat = i + 1 by omega]; simp [add_mk])) rfl rfl rfl ?_
  obtain ⟨w1, hrun, hb1, hf1⟩ := del_app (ty := 38) (i := i) hh' hcur htk hcl hcs0 hcap hown_hs hi hrest hrl
  refine kr_ow rfl rfl (ow_appRun rfl rfl hrun rfl ?_)
  refine ⟨(fun _ => trivial), ?_⟩
  refine kr_val rfl (trivial) (fun w' hS' => y_assign) rfl rfl rfl ?_
  refine kr_nil ?_
  refine x_seq ?_
  refine k_seq ?_
  refine k_region ?_
  refine kl_val (y_move) rfl rfl rfl ?_
  refine kl_val (y_move) rfl rfl rfl ?_
  refine kl_val (y_lenS Try.underlying38 rfl) rfl rfl rfl ?_
  refine kl_val (y_move) rfl rfl rfl ?_
  refine kl_val (Y.cast (v' := .slice (some ⟨b, (n - 1) * 3, none⟩) 1 (cap - (n - 1))) (y_slice2 Try.underlying38 I41 S41 rfl rfl rfl (by omega) (by omega) (by omega)) (by rw [if_neg (by omega)]; simp [add_mk]; omega)) rfl rfl rfl ?_
  obtain ⟨Z, hZ⟩ : ∃ Z, Z = (Value.agg #[Value.string ByteArray.empty, Value.int .i64 0, Value.slice none 0 0]) := ⟨_, rfl⟩
  have hZl : (Builtin.zeroCells Z.cells 1).toList.length = 3 := by rw [hZ]; simp [Builtin.zeroCells, Value.cells]
  have hZ1 : ∀ u ∈ (Builtin.zeroCells Z.cells 1).toList, u.oneCell' = true := by rw [hZ]; exact List.all_eq_true.1 (by kernel_rfl : (Builtin.zeroCells (Value.agg #[Value.string ByteArray.empty, Value.int .i64 0, Value.slice none 0 0]).cells 1).toList.all (·.oneCell') = true)
  refine kl_ow rfl (ow_clear (z := Z) Try.underlying38 I41 (by rw [hZ]; exact Z41) rfl hb1 (by rw [hZl]; simp [hcl, hrl]; omega) hZ1 rfl (fun w2 hb2 hf2 hz2 => ?_))
  refine kl_nil ?_
  refine x_seq ?_
  refine k_seq ?_
  refine k_region ?_
  refine kl_val (y_move) rfl rfl rfl ?_
  refine kl_val (y_assign) rfl rfl rfl ?_
  refine kl_nil ?_
  refine x_seq ?_
  refine k_ret ?_
  exact k_ret1 rfl rfl ⟨_, rfl, ⟨by simp [hcl]; omega, .inr ⟨b, cap, _, rfl, Nat.zero_le _, hb2, by omega, hmax, by simp only [List.size_toArray]; rw [splice_len (by rw [hZl]; simp [hcl, hrl]; omega)]; simp [hcl, hrl]; omega, del_take hcl hi⟩⟩, (((Fr.drew1 (· = b) w).trans hf1).trans hf2).mono (fun j _ e => by subst e; rfl), rfl⟩

end Go.Proofs.Ytlklapledogdcaa.K
