/- Facts of the translation: sizes and zero values of types, functions that have bodies. No condition. -/
import Derived.Test.YtlklapledogdcaaM5
namespace Go.Proofs.Ytlklapledogdcaa.K
open Go
noncomputable def ti (t : Nat) : TypeInfo := (Try.prog.info? t).getD default
theorem mixed : Try.prog.follows .mixedOrders = true := by kernel_rfl
theorem I3 : Try.prog.info? 3 = some (ti 3) := by kernel_rfl
theorem S3 : (ti 3).size = 1 := by kernel_rfl
theorem B3 : (ti 3).bytes = 8 := by kernel_rfl
theorem Z3 : (ti 3).zero = some (.int .i64 0) := by kernel_rfl
theorem I4 : Try.prog.info? 4 = some (ti 4) := by kernel_rfl
theorem S4 : (ti 4).size = 1 := by kernel_rfl
theorem B4 : (ti 4).bytes = 1 := by kernel_rfl
theorem Z4 : (ti 4).zero = some (.bool false) := by kernel_rfl
theorem I5 : Try.prog.info? 5 = some (ti 5) := by kernel_rfl
theorem S5 : (ti 5).size = 1 := by kernel_rfl
theorem B5 : (ti 5).bytes = 1 := by kernel_rfl
theorem Z5 : (ti 5).zero = some (.int .u8 0) := by kernel_rfl
theorem I9 : Try.prog.info? 9 = some (ti 9) := by kernel_rfl
theorem S9 : (ti 9).size = 1 := by kernel_rfl
theorem B9 : (ti 9).bytes = 16 := by kernel_rfl
theorem Z9 : (ti 9).zero = some (.string ByteArray.empty) := by kernel_rfl
theorem I22 : Try.prog.info? 22 = some (ti 22) := by kernel_rfl
theorem S22 : (ti 22).size = 1 := by kernel_rfl
theorem B22 : (ti 22).bytes = 8 := by kernel_rfl
theorem Z22 : (ti 22).zero = some (.pointer none) := by kernel_rfl
theorem I25 : Try.prog.info? 25 = some (ti 25) := by kernel_rfl
theorem S25 : (ti 25).size = 1 := by kernel_rfl
theorem B25 : (ti 25).bytes = 2 := by kernel_rfl
theorem Z25 : (ti 25).zero = some (.int .u16 0) := by kernel_rfl
theorem I28 : Try.prog.info? 28 = some (ti 28) := by kernel_rfl
theorem S28 : (ti 28).size = 1 := by kernel_rfl
theorem B28 : (ti 28).bytes = 24 := by kernel_rfl
theorem Z28 : (ti 28).zero = some (.slice none 0 0) := by kernel_rfl
theorem I38 : Try.prog.info? 38 = some (ti 38) := by kernel_rfl
theorem S38 : (ti 38).size = 1 := by kernel_rfl
theorem B38 : (ti 38).bytes = 24 := by kernel_rfl
theorem Z38 : (ti 38).zero = some (.slice none 0 0) := by kernel_rfl
theorem I41 : Try.prog.info? 41 = some (ti 41) := by kernel_rfl
theorem S41 : (ti 41).size = 3 := by kernel_rfl
theorem B41 : (ti 41).bytes = 48 := by kernel_rfl
theorem Z41 : (ti 41).zero = some (.agg ([Value.string ByteArray.empty, Value.int .i64 0, Value.slice none 0 0] : List Value).toArray) := by kernel_rfl
theorem I44 : Try.prog.info? 44 = some (ti 44) := by kernel_rfl
theorem S44 : (ti 44).size = 1 := by kernel_rfl
theorem B44 : (ti 44).bytes = 1 := by kernel_rfl
theorem Z44 : (ti 44).zero = some (.int .i8 0) := by kernel_rfl
theorem I46 : Try.prog.info? 46 = some (ti 46) := by kernel_rfl
theorem S46 : (ti 46).size = 3 := by kernel_rfl
theorem B46 : (ti 46).bytes = 40 := by kernel_rfl
theorem Z46 : (ti 46).zero = some (.agg ([Value.int .i64 0, Value.slice none 0 0, Value.int .i64 0] : List Value).toArray) := by kernel_rfl
theorem I58 : Try.prog.info? 58 = some (ti 58) := by kernel_rfl
theorem S58 : (ti 58).size = 3 := by kernel_rfl
theorem B58 : (ti 58).bytes = 40 := by kernel_rfl
theorem Z58 : (ti 58).zero = some (.agg ([Value.int .i64 0, Value.slice none 0 0, Value.int .i64 0] : List Value).toArray) := by kernel_rfl
theorem I60 : Try.prog.info? 60 = some (ti 60) := by kernel_rfl
theorem S60 : (ti 60).size = 1 := by kernel_rfl
theorem B60 : (ti 60).bytes = 24 := by kernel_rfl
theorem Z60 : (ti 60).zero = some (.slice none 0 0) := by kernel_rfl
theorem I74 : Try.prog.info? 74 = some (ti 74) := by kernel_rfl
theorem S74 : (ti 74).size = 1 := by kernel_rfl
theorem B74 : (ti 74).bytes = 8 := by kernel_rfl
theorem Z74 : (ti 74).zero = some (.nilFunc) := by kernel_rfl
theorem I78 : Try.prog.info? 78 = some (ti 78) := by kernel_rfl
theorem S78 : (ti 78).size = 1 := by kernel_rfl
theorem B78 : (ti 78).bytes = 8 := by kernel_rfl
theorem Z78 : (ti 78).zero = some (.int .u64 0) := by kernel_rfl
theorem fn3 : FnOk Try.prog 3 := ⟨_, Try.func3, by kernel_rfl, by kernel_rfl⟩
theorem fn4 : FnOk Try.prog 4 := ⟨_, Try.func4, by kernel_rfl, by kernel_rfl⟩
theorem fn5 : FnOk Try.prog 5 := ⟨_, Try.func5, by kernel_rfl, by kernel_rfl⟩
theorem fn6 : FnOk Try.prog 6 := ⟨_, Try.func6, by kernel_rfl, by kernel_rfl⟩
theorem fn7 : FnOk Try.prog 7 := ⟨_, Try.func7, by kernel_rfl, by kernel_rfl⟩
theorem fn8 : FnOk Try.prog 8 := ⟨_, Try.func8, by kernel_rfl, by kernel_rfl⟩
theorem fn9 : FnOk Try.prog 9 := ⟨_, Try.func9, by kernel_rfl, by kernel_rfl⟩
theorem fn10 : FnOk Try.prog 10 := ⟨_, Try.func10, by kernel_rfl, by kernel_rfl⟩
theorem fn11 : FnOk Try.prog 11 := ⟨_, Try.func11, by kernel_rfl, by kernel_rfl⟩
theorem fn12 : FnOk Try.prog 12 := ⟨_, Try.func12, by kernel_rfl, by kernel_rfl⟩
theorem fn13 : FnOk Try.prog 13 := ⟨_, Try.func13, by kernel_rfl, by kernel_rfl⟩
theorem fn14 : FnOk Try.prog 14 := ⟨_, Try.func14, by kernel_rfl, by kernel_rfl⟩
theorem fn15 : FnOk Try.prog 15 := ⟨_, Try.func15, by kernel_rfl, by kernel_rfl⟩
theorem fn16 : FnOk Try.prog 16 := ⟨_, Try.func16, by kernel_rfl, by kernel_rfl⟩
theorem fn17 : FnOk Try.prog 17 := ⟨_, Try.func17, by kernel_rfl, by kernel_rfl⟩
theorem fn18 : FnOk Try.prog 18 := ⟨_, Try.func18, by kernel_rfl, by kernel_rfl⟩
theorem fn19 : FnOk Try.prog 19 := ⟨_, Try.func19, by kernel_rfl, by kernel_rfl⟩
theorem fn20 : FnOk Try.prog 20 := ⟨_, Try.func20, by kernel_rfl, by kernel_rfl⟩
theorem fn21 : FnOk Try.prog 21 := ⟨_, Try.func21, by kernel_rfl, by kernel_rfl⟩
theorem fn22 : FnOk Try.prog 22 := ⟨_, Try.func22, by kernel_rfl, by kernel_rfl⟩
theorem fn23 : FnOk Try.prog 23 := ⟨_, Try.func23, by kernel_rfl, by kernel_rfl⟩
theorem fn24 : FnOk Try.prog 24 := ⟨_, Try.func24, by kernel_rfl, by kernel_rfl⟩
theorem fn25 : FnOk Try.prog 25 := ⟨_, Try.func25, by kernel_rfl, by kernel_rfl⟩
theorem fn26 : FnOk Try.prog 26 := ⟨_, Try.func26, by kernel_rfl, by kernel_rfl⟩
theorem fn27 : FnOk Try.prog 27 := ⟨_, Try.func27, by kernel_rfl, by kernel_rfl⟩
theorem fn28 : FnOk Try.prog 28 := ⟨_, Try.func28, by kernel_rfl, by kernel_rfl⟩
theorem fn29 : FnOk Try.prog 29 := ⟨_, Try.func29, by kernel_rfl, by kernel_rfl⟩
theorem fn30 : FnOk Try.prog 30 := ⟨_, Try.func30, by kernel_rfl, by kernel_rfl⟩
theorem fn31 : FnOk Try.prog 31 := ⟨_, Try.func31, by kernel_rfl, by kernel_rfl⟩
theorem fn32 : FnOk Try.prog 32 := ⟨_, Try.func32, by kernel_rfl, by kernel_rfl⟩
theorem fn33 : FnOk Try.prog 33 := ⟨_, Try.func33, by kernel_rfl, by kernel_rfl⟩
theorem fn34 : FnOk Try.prog 34 := ⟨_, Try.func34, by kernel_rfl, by kernel_rfl⟩
theorem fn35 : FnOk Try.prog 35 := ⟨_, Try.func35, by kernel_rfl, by kernel_rfl⟩
theorem fn36 : FnOk Try.prog 36 := ⟨_, Try.func36, by kernel_rfl, by kernel_rfl⟩
theorem fn38 : FnOk Try.prog 38 := ⟨_, Try.func38, by kernel_rfl, by kernel_rfl⟩
theorem fn39 : FnOk Try.prog 39 := ⟨_, Try.func39, by kernel_rfl, by kernel_rfl⟩
theorem fn40 : FnOk Try.prog 40 := ⟨_, Try.func40, by kernel_rfl, by kernel_rfl⟩
theorem fn41 : FnOk Try.prog 41 := ⟨_, Try.func41, by kernel_rfl, by kernel_rfl⟩
theorem fn42 : FnOk Try.prog 42 := ⟨_, Try.func42, by kernel_rfl, by kernel_rfl⟩
theorem fn43 : FnOk Try.prog 43 := ⟨_, Try.func43, by kernel_rfl, by kernel_rfl⟩
theorem fn44 : FnOk Try.prog 44 := ⟨_, Try.func44, by kernel_rfl, by kernel_rfl⟩
theorem RZ3 : ∀ g, RC g (.v (Value.int .i64 0)) ([Value.int .i64 0] : List Value) := fun _ => RC.v _ rfl
theorem RZ4 : ∀ g, RC g (.v (Value.bool false)) ([Value.bool false] : List Value) := fun _ => RC.v _ rfl
theorem RZ5 : ∀ g, RC g (.v (Value.int .u8 0)) ([Value.int .u8 0] : List Value) := fun _ => RC.v _ rfl
theorem RZ9 : ∀ g, RC g (.v (Value.string ByteArray.empty)) ([Value.string ByteArray.empty] : List Value) := fun _ => RC.v _ rfl
theorem RZ22 : ∀ g, RC g (.v (Value.pointer none)) ([Value.pointer none] : List Value) := fun _ => RC.v _ rfl
theorem RZ25 : ∀ g, RC g (.v (Value.int .u16 0)) ([Value.int .u16 0] : List Value) := fun _ => RC.v _ rfl
theorem RZ28 : ∀ g, RC g (.nl) ([Value.slice none 0 0] : List Value) := fun _ => RC.nl
theorem RZ38 : ∀ g, RC g (.nl) ([Value.slice none 0 0] : List Value) := fun _ => RC.nl
theorem RZ41 : ∀ g, RC g (.agg [.v (Value.string ByteArray.empty), .v (Value.int .i64 0), .nl]) ([Value.string ByteArray.empty, Value.int .i64 0, Value.slice none 0 0] : List Value) := fun _ => (RC.agg (RL.cons (RC.v _ rfl) (RL.cons (RC.v _ rfl) (RL.cons (RC.nl) (RL.nil)))) : RC _ (.agg [.v (Value.string ByteArray.empty), .v (Value.int .i64 0), .nl]) (([Value.string ByteArray.empty]) ++ (([Value.int .i64 0]) ++ (([Value.slice none 0 0]) ++ ([])))))
theorem RZ41s : ∀ g, RC g (.agg [.v (Value.string ByteArray.empty), .v (Value.int .i64 0), .sl []]) ([Value.string ByteArray.empty, Value.int .i64 0, Value.slice none 0 0] : List Value) := fun _ => (RC.agg (RL.cons (RC.v _ rfl) (RL.cons (RC.v _ rfl) (RL.cons (RC.nil) (RL.nil)))) : RC _ (.agg [.v (Value.string ByteArray.empty), .v (Value.int .i64 0), .sl []]) (([Value.string ByteArray.empty]) ++ (([Value.int .i64 0]) ++ (([Value.slice none 0 0]) ++ ([])))))
theorem BL41 : ∀ vs, Try.prog.built 41 vs = Instr.fill ([(0, 1), (1, 1), (2, 1)].toArray[·]?) ([Value.string ByteArray.empty, Value.int .i64 0, Value.slice none 0 0] : List Value).toArray vs := fun vs => by kernel_rfl
theorem RZ44 : ∀ g, RC g (.v (Value.int .i8 0)) ([Value.int .i8 0] : List Value) := fun _ => RC.v _ rfl
theorem RZ46 : ∀ g, RC g (.agg [.v (Value.int .i64 0), .nl, .v (Value.int .i64 0)]) ([Value.int .i64 0, Value.slice none 0 0, Value.int .i64 0] : List Value) := fun _ => (RC.agg (RL.cons (RC.v _ rfl) (RL.cons (RC.nl) (RL.cons (RC.v _ rfl) (RL.nil)))) : RC _ (.agg [.v (Value.int .i64 0), .nl, .v (Value.int .i64 0)]) (([Value.int .i64 0]) ++ (([Value.slice none 0 0]) ++ (([Value.int .i64 0]) ++ ([])))))
theorem RZ46s : ∀ g, RC g (.agg [.v (Value.int .i64 0), .sl [], .v (Value.int .i64 0)]) ([Value.int .i64 0, Value.slice none 0 0, Value.int .i64 0] : List Value) := fun _ => (RC.agg (RL.cons (RC.v _ rfl) (RL.cons (RC.nil) (RL.cons (RC.v _ rfl) (RL.nil)))) : RC _ (.agg [.v (Value.int .i64 0), .sl [], .v (Value.int .i64 0)]) (([Value.int .i64 0]) ++ (([Value.slice none 0 0]) ++ (([Value.int .i64 0]) ++ ([])))))
theorem BL46 : ∀ vs, Try.prog.built 46 vs = Instr.fill ([(0, 1), (1, 1), (2, 1)].toArray[·]?) ([Value.int .i64 0, Value.slice none 0 0, Value.int .i64 0] : List Value).toArray vs := fun vs => by kernel_rfl
theorem RZ58 : ∀ g, RC g (.agg [.v (Value.int .i64 0), .nl, .v (Value.int .i64 0)]) ([Value.int .i64 0, Value.slice none 0 0, Value.int .i64 0] : List Value) := fun _ => (RC.agg (RL.cons (RC.v _ rfl) (RL.cons (RC.nl) (RL.cons (RC.v _ rfl) (RL.nil)))) : RC _ (.agg [.v (Value.int .i64 0), .nl, .v (Value.int .i64 0)]) (([Value.int .i64 0]) ++ (([Value.slice none 0 0]) ++ (([Value.int .i64 0]) ++ ([])))))
theorem RZ58s : ∀ g, RC g (.agg [.v (Value.int .i64 0), .sl [], .v (Value.int .i64 0)]) ([Value.int .i64 0, Value.slice none 0 0, Value.int .i64 0] : List Value) := fun _ => (RC.agg (RL.cons (RC.v _ rfl) (RL.cons (RC.nil) (RL.cons (RC.v _ rfl) (RL.nil)))) : RC _ (.agg [.v (Value.int .i64 0), .sl [], .v (Value.int .i64 0)]) (([Value.int .i64 0]) ++ (([Value.slice none 0 0]) ++ (([Value.int .i64 0]) ++ ([])))))
theorem BL58 : ∀ vs, Try.prog.built 58 vs = Instr.fill ([(0, 1), (1, 1), (2, 1)].toArray[·]?) ([Value.int .i64 0, Value.slice none 0 0, Value.int .i64 0] : List Value).toArray vs := fun vs => by kernel_rfl
theorem RZ60 : ∀ g, RC g (.nl) ([Value.slice none 0 0] : List Value) := fun _ => RC.nl
theorem RZ74 : ∀ g, RC g (.v (Value.nilFunc)) ([Value.nilFunc] : List Value) := fun _ => RC.v _ rfl
theorem RZ78 : ∀ g, RC g (.v (Value.int .u64 0)) ([Value.int .u64 0] : List Value) := fun _ => RC.v _ rfl
end Go.Proofs.Ytlklapledogdcaa.K
