/- Facts of the translation: sizes and zero values of types, functions that have bodies. No condition. -/
import Derived.Test.YthpocekigliomaaK2
namespace Go.Proofs.Ythpocekigliomaa.K
open Go
noncomputable def ti (t : Nat) : TypeInfo := (Try.prog.info? t).getD default
theorem mixed : Try.prog.follows .mixedOrders = true := by kernel_rfl
theorem I2 : Try.prog.info? 2 = some (ti 2) := by kernel_rfl
theorem S2 : (ti 2).size = 1 := by kernel_rfl
theorem B2 : (ti 2).bytes = 8 := by kernel_rfl
theorem Z2 : (ti 2).zero = some (.int .i64 0) := by kernel_rfl
theorem I3 : Try.prog.info? 3 = some (ti 3) := by kernel_rfl
theorem S3 : (ti 3).size = 1 := by kernel_rfl
theorem B3 : (ti 3).bytes = 8 := by kernel_rfl
theorem Z3 : (ti 3).zero = some (.int .i64 0) := by kernel_rfl
theorem I4 : Try.prog.info? 4 = some (ti 4) := by kernel_rfl
theorem S4 : (ti 4).size = 1 := by kernel_rfl
theorem B4 : (ti 4).bytes = 1 := by kernel_rfl
theorem Z4 : (ti 4).zero = some (.bool false) := by kernel_rfl
theorem I5 : Try.prog.info? 5 = some (ti 5) := by kernel_rfl
theorem S5 : (ti 5).size = 1 := by kernel_rfl
theorem B5 : (ti 5).bytes = 1 := by kernel_rfl
theorem Z5 : (ti 5).zero = some (.int .u8 0) := by kernel_rfl
theorem I9 : Try.prog.info? 9 = some (ti 9) := by kernel_rfl
theorem S9 : (ti 9).size = 1 := by kernel_rfl
theorem B9 : (ti 9).bytes = 16 := by kernel_rfl
theorem Z9 : (ti 9).zero = some (.string ByteArray.empty) := by kernel_rfl
theorem I20 : Try.prog.info? 20 = some (ti 20) := by kernel_rfl
theorem S20 : (ti 20).size = 1 := by kernel_rfl
theorem B20 : (ti 20).bytes = 16 := by kernel_rfl
theorem Z20 : (ti 20).zero = some (.nilIface) := by kernel_rfl
theorem I22 : Try.prog.info? 22 = some (ti 22) := by kernel_rfl
theorem S22 : (ti 22).size = 1 := by kernel_rfl
theorem B22 : (ti 22).bytes = 24 := by kernel_rfl
theorem Z22 : (ti 22).zero = some (.slice none 0 0) := by kernel_rfl
theorem I25 : Try.prog.info? 25 = some (ti 25) := by kernel_rfl
theorem S25 : (ti 25).size = 3 := by kernel_rfl
theorem B25 : (ti 25).bytes = 32 := by kernel_rfl
theorem Z25 : (ti 25).zero = some (.agg ([Value.string ByteArray.empty, Value.int .i64 0, Value.bool false] : List Value).toArray) := by kernel_rfl
theorem I26 : Try.prog.info? 26 = some (ti 26) := by kernel_rfl
theorem S26 : (ti 26).size = 1 := by kernel_rfl
theorem B26 : (ti 26).bytes = 24 := by kernel_rfl
theorem Z26 : (ti 26).zero = some (.slice none 0 0) := by kernel_rfl
theorem I27 : Try.prog.info? 27 = some (ti 27) := by kernel_rfl
theorem S27 : (ti 27).size = 1 := by kernel_rfl
theorem B27 : (ti 27).bytes = 2 := by kernel_rfl
theorem Z27 : (ti 27).zero = some (.int .u16 0) := by kernel_rfl
theorem I28 : Try.prog.info? 28 = some (ti 28) := by kernel_rfl
theorem S28 : (ti 28).size = 1 := by kernel_rfl
theorem B28 : (ti 28).bytes = 2 := by kernel_rfl
theorem Z28 : (ti 28).zero = some (.int .u16 0) := by kernel_rfl
theorem I34 : Try.prog.info? 34 = some (ti 34) := by kernel_rfl
theorem S34 : (ti 34).size = 32 := by kernel_rfl
theorem B34 : (ti 34).bytes = 32 := by kernel_rfl
theorem Z34 : (ti 34).zero = some (.agg (List.replicate 32 (Value.int .u8 0) : List Value).toArray) := by kernel_rfl
theorem I36 : Try.prog.info? 36 = some (ti 36) := by kernel_rfl
theorem S36 : (ti 36).size = 34 := by kernel_rfl
theorem B36 : (ti 36).bytes = 48 := by kernel_rfl
theorem Z36 : (ti 36).zero = some (.agg (List.replicate 32 (Value.int .u8 0) ++ [Value.int .i64 0, Value.int .i64 0] : List Value).toArray) := by kernel_rfl
theorem I38 : Try.prog.info? 38 = some (ti 38) := by kernel_rfl
theorem S38 : (ti 38).size = 72 := by kernel_rfl
theorem B38 : (ti 38).bytes = 144 := by kernel_rfl
theorem Z38 : (ti 38).zero = some (.agg ([Value.int .i64 0, Value.int .i64 0, Value.bool false] ++ List.replicate 32 (Value.int .u8 0) ++ [Value.int .i64 0, Value.int .i64 0] ++ List.replicate 32 (Value.int .u8 0) ++ [Value.int .i64 0, Value.int .i64 0, Value.slice none 0 0] : List Value).toArray) := by kernel_rfl
theorem I43 : Try.prog.info? 43 = some (ti 43) := by kernel_rfl
theorem S43 : (ti 43).size = 1 := by kernel_rfl
theorem B43 : (ti 43).bytes = 24 := by kernel_rfl
theorem Z43 : (ti 43).zero = some (.slice none 0 0) := by kernel_rfl
theorem I45 : Try.prog.info? 45 = some (ti 45) := by kernel_rfl
theorem S45 : (ti 45).size = 64 := by kernel_rfl
theorem B45 : (ti 45).bytes = 64 := by kernel_rfl
theorem Z45 : (ti 45).zero = some (.agg (List.replicate 64 (Value.int .u8 0) : List Value).toArray) := by kernel_rfl
theorem I47 : Try.prog.info? 47 = some (ti 47) := by kernel_rfl
theorem S47 : (ti 47).size = 99 := by kernel_rfl
theorem B47 : (ti 47).bytes = 136 := by kernel_rfl
theorem Z47 : (ti 47).zero = some (.agg ([Value.int .i64 0, Value.int .i64 0] ++ List.replicate 32 (Value.int .u8 0) ++ [Value.slice none 0 0] ++ List.replicate 64 (Value.int .u8 0) : List Value).toArray) := by kernel_rfl
theorem I49 : Try.prog.info? 49 = some (ti 49) := by kernel_rfl
theorem S49 : (ti 49).size = 33 := by kernel_rfl
theorem B49 : (ti 49).bytes = 40 := by kernel_rfl
theorem Z49 : (ti 49).zero = some (.agg ([Value.int .i64 0] ++ List.replicate 32 (Value.int .u8 0) : List Value).toArray) := by kernel_rfl
theorem I50 : Try.prog.info? 50 = some (ti 50) := by kernel_rfl
theorem S50 : (ti 50).size = 1 := by kernel_rfl
theorem B50 : (ti 50).bytes = 24 := by kernel_rfl
theorem Z50 : (ti 50).zero = some (.slice none 0 0) := by kernel_rfl
theorem I51 : Try.prog.info? 51 = some (ti 51) := by kernel_rfl
theorem S51 : (ti 51).size = 1 := by kernel_rfl
theorem B51 : (ti 51).bytes = 24 := by kernel_rfl
theorem Z51 : (ti 51).zero = some (.slice none 0 0) := by kernel_rfl
theorem I53 : Try.prog.info? 53 = some (ti 53) := by kernel_rfl
theorem S53 : (ti 53).size = 237 := by kernel_rfl
theorem B53 : (ti 53).bytes = 400 := by kernel_rfl
theorem Z53 : (ti 53).zero = some (.agg ([Value.int .u8 0, Value.int .i64 0, Value.int .i64 0, Value.string ByteArray.empty, Value.string ByteArray.empty, Value.string ByteArray.empty, Value.int .i64 0, Value.int .i64 0] ++ List.replicate 32 (Value.int .u8 0) ++ [Value.slice none 0 0] ++ List.replicate 96 (Value.int .u8 0) ++ [Value.int .i64 0] ++ List.replicate 96 (Value.int .u8 0) ++ [Value.slice none 0 0, Value.int .i64 0, Value.slice none 0 0] : List Value).toArray) := by kernel_rfl
theorem I55 : Try.prog.info? 55 = some (ti 55) := by kernel_rfl
theorem S55 : (ti 55).size = 73 := by kernel_rfl
theorem B55 : (ti 55).bytes = 152 := by kernel_rfl
theorem Z55 : (ti 55).zero = some (.agg ([Value.int .i64 0, Value.int .i64 0, Value.int .i64 0, Value.bool false] ++ List.replicate 32 (Value.int .u8 0) ++ [Value.int .i64 0, Value.int .i64 0] ++ List.replicate 32 (Value.int .u8 0) ++ [Value.int .i64 0, Value.int .i64 0, Value.slice none 0 0] : List Value).toArray) := by kernel_rfl
theorem I58 : Try.prog.info? 58 = some (ti 58) := by kernel_rfl
theorem S58 : (ti 58).size = 164 := by kernel_rfl
theorem B58 : (ti 58).bytes = 208 := by kernel_rfl
theorem Z58 : (ti 58).zero = some (.agg ([Value.int .i64 0, Value.int .i64 0] ++ List.replicate 64 (Value.int .u8 0) ++ [Value.int .i64 0] ++ List.replicate 96 (Value.int .u8 0) ++ [Value.slice none 0 0] : List Value).toArray) := by kernel_rfl
theorem I59 : Try.prog.info? 59 = some (ti 59) := by kernel_rfl
theorem S59 : (ti 59).size = 1 := by kernel_rfl
theorem B59 : (ti 59).bytes = 24 := by kernel_rfl
theorem Z59 : (ti 59).zero = some (.slice none 0 0) := by kernel_rfl
theorem I61 : Try.prog.info? 61 = some (ti 61) := by kernel_rfl
theorem S61 : (ti 61).size = 265 := by kernel_rfl
theorem B61 : (ti 61).bytes = 376 := by kernel_rfl
theorem Z61 : (ti 61).zero = some (.agg ([Value.int .u16 0, Value.int .i64 0, Value.int .i64 0] ++ List.replicate 32 (Value.int .u8 0) ++ [Value.slice none 0 0] ++ List.replicate 64 (Value.int .u8 0) ++ [Value.int .i64 0, Value.int .i64 0] ++ List.replicate 64 (Value.int .u8 0) ++ [Value.int .i64 0] ++ List.replicate 96 (Value.int .u8 0) ++ [Value.slice none 0 0, Value.slice none 0 0] : List Value).toArray) := by kernel_rfl
theorem I69 : Try.prog.info? 69 = some (ti 69) := by kernel_rfl
theorem S69 : (ti 69).size = 1 := by kernel_rfl
theorem B69 : (ti 69).bytes = 24 := by kernel_rfl
theorem Z69 : (ti 69).zero = some (.slice none 0 0) := by kernel_rfl
theorem I70 : Try.prog.info? 70 = some (ti 70) := by kernel_rfl
theorem S70 : (ti 70).size = 1 := by kernel_rfl
theorem B70 : (ti 70).bytes = 24 := by kernel_rfl
theorem Z70 : (ti 70).zero = some (.slice none 0 0) := by kernel_rfl
theorem I72 : Try.prog.info? 72 = some (ti 72) := by kernel_rfl
theorem S72 : (ti 72).size = 105 := by kernel_rfl
theorem B72 : (ti 72).bytes = 224 := by kernel_rfl
theorem Z72 : (ti 72).zero = some (.agg ([Value.int .i64 0, Value.string ByteArray.empty, Value.int .i64 0, Value.int .i64 0, Value.int .i64 0, Value.int .i64 0] ++ List.replicate 32 (Value.int .u8 0) ++ [Value.slice none 0 0] ++ List.replicate 64 (Value.int .u8 0) ++ [Value.slice none 0 0, Value.slice none 0 0] : List Value).toArray) := by kernel_rfl
theorem I95 : Try.prog.info? 95 = some (ti 95) := by kernel_rfl
theorem S95 : (ti 95).size = 1 := by kernel_rfl
theorem B95 : (ti 95).bytes = 8 := by kernel_rfl
theorem Z95 : (ti 95).zero = some (.pointer none) := by kernel_rfl
theorem I97 : Try.prog.info? 97 = some (ti 97) := by kernel_rfl
theorem S97 : (ti 97).size = 1 := by kernel_rfl
theorem B97 : (ti 97).bytes = 24 := by kernel_rfl
theorem Z97 : (ti 97).zero = some (.agg ([Value.slice none 0 0] : List Value).toArray) := by kernel_rfl
theorem I102 : Try.prog.info? 102 = some (ti 102) := by kernel_rfl
theorem S102 : (ti 102).size = 1 := by kernel_rfl
theorem B102 : (ti 102).bytes = 8 := by kernel_rfl
theorem Z102 : (ti 102).zero = some (.nilFunc) := by kernel_rfl
theorem I104 : Try.prog.info? 104 = some (ti 104) := by kernel_rfl
theorem S104 : (ti 104).size = 1 := by kernel_rfl
theorem B104 : (ti 104).bytes = 8 := by kernel_rfl
theorem Z104 : (ti 104).zero = some (.pointer none) := by kernel_rfl
theorem I106 : Try.prog.info? 106 = some (ti 106) := by kernel_rfl
theorem S106 : (ti 106).size = 1 := by kernel_rfl
theorem B106 : (ti 106).bytes = 8 := by kernel_rfl
theorem Z106 : (ti 106).zero = some (.nilFunc) := by kernel_rfl
theorem I108 : Try.prog.info? 108 = some (ti 108) := by kernel_rfl
theorem S108 : (ti 108).size = 1 := by kernel_rfl
theorem B108 : (ti 108).bytes = 8 := by kernel_rfl
theorem Z108 : (ti 108).zero = some (.nilFunc) := by kernel_rfl
theorem I112 : Try.prog.info? 112 = some (ti 112) := by kernel_rfl
theorem S112 : (ti 112).size = 1 := by kernel_rfl
theorem B112 : (ti 112).bytes = 8 := by kernel_rfl
theorem Z112 : (ti 112).zero = some (.nilFunc) := by kernel_rfl
theorem I116 : Try.prog.info? 116 = some (ti 116) := by kernel_rfl
theorem S116 : (ti 116).size = 1 := by kernel_rfl
theorem B116 : (ti 116).bytes = 8 := by kernel_rfl
theorem Z116 : (ti 116).zero = some (.nilFunc) := by kernel_rfl
theorem I121 : Try.prog.info? 121 = some (ti 121) := by kernel_rfl
theorem S121 : (ti 121).size = 1 := by kernel_rfl
theorem B121 : (ti 121).bytes = 24 := by kernel_rfl
theorem Z121 : (ti 121).zero = some (.slice none 0 0) := by kernel_rfl
theorem I122 : Try.prog.info? 122 = some (ti 122) := by kernel_rfl
theorem S122 : (ti 122).size = 33 := by kernel_rfl
theorem B122 : (ti 122).bytes = 40 := by kernel_rfl
theorem Z122 : (ti 122).zero = some (.agg ([Value.int .i64 0] ++ List.replicate 32 (Value.int .u8 0) : List Value).toArray) := by kernel_rfl
theorem I130 : Try.prog.info? 130 = some (ti 130) := by kernel_rfl
theorem S130 : (ti 130).size = 1 := by kernel_rfl
theorem B130 : (ti 130).bytes = 8 := by kernel_rfl
theorem Z130 : (ti 130).zero = some (.nilFunc) := by kernel_rfl
theorem I132 : Try.prog.info? 132 = some (ti 132) := by kernel_rfl
theorem S132 : (ti 132).size = 1 := by kernel_rfl
theorem B132 : (ti 132).bytes = 8 := by kernel_rfl
theorem Z132 : (ti 132).zero = some (.nilFunc) := by kernel_rfl
theorem I136 : Try.prog.info? 136 = some (ti 136) := by kernel_rfl
theorem S136 : (ti 136).size = 1 := by kernel_rfl
theorem B136 : (ti 136).bytes = 8 := by kernel_rfl
theorem Z136 : (ti 136).zero = some (.nilFunc) := by kernel_rfl
theorem I142 : Try.prog.info? 142 = some (ti 142) := by kernel_rfl
theorem S142 : (ti 142).size = 1 := by kernel_rfl
theorem B142 : (ti 142).bytes = 8 := by kernel_rfl
theorem Z142 : (ti 142).zero = some (.nilFunc) := by kernel_rfl
theorem I145 : Try.prog.info? 145 = some (ti 145) := by kernel_rfl
theorem S145 : (ti 145).size = 101 := by kernel_rfl
theorem B145 : (ti 145).bytes = 168 := by kernel_rfl
theorem Z145 : (ti 145).zero = some (.agg ([Value.int .i64 0, Value.int .i64 0] ++ List.replicate 96 (Value.int .u8 0) ++ [Value.slice none 0 0, Value.int .i64 0, Value.slice none 0 0] : List Value).toArray) := by kernel_rfl
theorem I146 : Try.prog.info? 146 = some (ti 146) := by kernel_rfl
theorem S146 : (ti 146).size = 1 := by kernel_rfl
theorem B146 : (ti 146).bytes = 8 := by kernel_rfl
theorem Z146 : (ti 146).zero = some (.nilFunc) := by kernel_rfl
theorem I149 : Try.prog.info? 149 = some (ti 149) := by kernel_rfl
theorem S149 : (ti 149).size = 1 := by kernel_rfl
theorem B149 : (ti 149).bytes = 8 := by kernel_rfl
theorem Z149 : (ti 149).zero = some (.nilFunc) := by kernel_rfl
theorem I151 : Try.prog.info? 151 = some (ti 151) := by kernel_rfl
theorem S151 : (ti 151).size = 1 := by kernel_rfl
theorem B151 : (ti 151).bytes = 8 := by kernel_rfl
theorem Z151 : (ti 151).zero = some (.nilFunc) := by kernel_rfl
theorem I154 : Try.prog.info? 154 = some (ti 154) := by kernel_rfl
theorem S154 : (ti 154).size = 1 := by kernel_rfl
theorem B154 : (ti 154).bytes = 8 := by kernel_rfl
theorem Z154 : (ti 154).zero = some (.nilFunc) := by kernel_rfl
theorem I157 : Try.prog.info? 157 = some (ti 157) := by kernel_rfl
theorem S157 : (ti 157).size = 1 := by kernel_rfl
theorem B157 : (ti 157).bytes = 8 := by kernel_rfl
theorem Z157 : (ti 157).zero = some (.nilFunc) := by kernel_rfl
theorem I160 : Try.prog.info? 160 = some (ti 160) := by kernel_rfl
theorem S160 : (ti 160).size = 1 := by kernel_rfl
theorem B160 : (ti 160).bytes = 8 := by kernel_rfl
theorem Z160 : (ti 160).zero = some (.nilFunc) := by kernel_rfl
theorem I163 : Try.prog.info? 163 = some (ti 163) := by kernel_rfl
theorem S163 : (ti 163).size = 1 := by kernel_rfl
theorem B163 : (ti 163).bytes = 8 := by kernel_rfl
theorem Z163 : (ti 163).zero = some (.nilFunc) := by kernel_rfl
theorem I172 : Try.prog.info? 172 = some (ti 172) := by kernel_rfl
theorem S172 : (ti 172).size = 1 := by kernel_rfl
theorem B172 : (ti 172).bytes = 2 := by kernel_rfl
theorem Z172 : (ti 172).zero = some (.agg ([Value.int .u16 0] : List Value).toArray) := by kernel_rfl
theorem I173 : Try.prog.info? 173 = some (ti 173) := by kernel_rfl
theorem S173 : (ti 173).size = 1 := by kernel_rfl
theorem B173 : (ti 173).bytes = 24 := by kernel_rfl
theorem Z173 : (ti 173).zero = some (.agg ([Value.slice none 0 0] : List Value).toArray) := by kernel_rfl
theorem I178 : Try.prog.info? 178 = some (ti 178) := by kernel_rfl
theorem S178 : (ti 178).size = 1 := by kernel_rfl
theorem B178 : (ti 178).bytes = 24 := by kernel_rfl
theorem Z178 : (ti 178).zero = some (.slice none 0 0) := by kernel_rfl
theorem I180 : Try.prog.info? 180 = some (ti 180) := by kernel_rfl
theorem S180 : (ti 180).size = 1 := by kernel_rfl
theorem B180 : (ti 180).bytes = 8 := by kernel_rfl
theorem Z180 : (ti 180).zero = some (.nilFunc) := by kernel_rfl
theorem I185 : Try.prog.info? 185 = some (ti 185) := by kernel_rfl
theorem S185 : (ti 185).size = 1 := by kernel_rfl
theorem B185 : (ti 185).bytes = 8 := by kernel_rfl
theorem Z185 : (ti 185).zero = some (.nilFunc) := by kernel_rfl
theorem I187 : Try.prog.info? 187 = some (ti 187) := by kernel_rfl
theorem S187 : (ti 187).size = 1 := by kernel_rfl
theorem B187 : (ti 187).bytes = 8 := by kernel_rfl
theorem Z187 : (ti 187).zero = some (.nilFunc) := by kernel_rfl
theorem I190 : Try.prog.info? 190 = some (ti 190) := by kernel_rfl
theorem S190 : (ti 190).size = 1 := by kernel_rfl
theorem B190 : (ti 190).bytes = 8 := by kernel_rfl
theorem Z190 : (ti 190).zero = some (.nilFunc) := by kernel_rfl
theorem I193 : Try.prog.info? 193 = some (ti 193) := by kernel_rfl
theorem S193 : (ti 193).size = 1 := by kernel_rfl
theorem B193 : (ti 193).bytes = 8 := by kernel_rfl
theorem Z193 : (ti 193).zero = some (.nilFunc) := by kernel_rfl
theorem I196 : Try.prog.info? 196 = some (ti 196) := by kernel_rfl
theorem S196 : (ti 196).size = 1 := by kernel_rfl
theorem B196 : (ti 196).bytes = 8 := by kernel_rfl
theorem Z196 : (ti 196).zero = some (.nilFunc) := by kernel_rfl
theorem fn3 : FnOk Try.prog 3 := ⟨_, Try.func3, by kernel_rfl, by kernel_rfl⟩
theorem fn4 : FnOk Try.prog 4 := ⟨_, Try.func4, by kernel_rfl, by kernel_rfl⟩
theorem fn5 : FnOk Try.prog 5 := ⟨_, Try.func5, by kernel_rfl, by kernel_rfl⟩
theorem fn6 : FnOk Try.prog 6 := ⟨_, Try.func6, by kernel_rfl, by kernel_rfl⟩
theorem fn7 : FnOk Try.prog 7 := ⟨_, Try.func7, by kernel_rfl, by kernel_rfl⟩
theorem fn8 : FnOk Try.prog 8 := ⟨_, Try.func8, by kernel_rfl, by kernel_rfl⟩
theorem fn9 : FnOk Try.prog 9 := ⟨_, Try.func9, by kernel_rfl, by kernel_rfl⟩
theorem fn10 : FnOk Try.prog 10 := ⟨_, Try.func10, by kernel_rfl, by kernel_rfl⟩
theorem fn11 : FnOk Try.prog 11 := ⟨_, Try.func11, by kernel_rfl, by kernel_rfl⟩
theorem fn12 : FnOk Try.prog 12 := ⟨_, Try.func12, by kernel_rfl, by kernel_rfl⟩
theorem fn13 : FnOk Try.prog 13 := ⟨_, Try.func13, by kernel_rfl, by kernel_rfl⟩
theorem fn14 : FnOk Try.prog 14 := ⟨_, Try.func14, by kernel_rfl, by kernel_rfl⟩
theorem fn15 : FnOk Try.prog 15 := ⟨_, Try.func15, by kernel_rfl, by kernel_rfl⟩
theorem fn16 : FnOk Try.prog 16 := ⟨_, Try.func16, by kernel_rfl, by kernel_rfl⟩
theorem fn17 : FnOk Try.prog 17 := ⟨_, Try.func17, by kernel_rfl, by kernel_rfl⟩
theorem fn18 : FnOk Try.prog 18 := ⟨_, Try.func18, by kernel_rfl, by kernel_rfl⟩
theorem fn19 : FnOk Try.prog 19 := ⟨_, Try.func19, by kernel_rfl, by kernel_rfl⟩
theorem fn20 : FnOk Try.prog 20 := ⟨_, Try.func20, by kernel_rfl, by kernel_rfl⟩
theorem fn21 : FnOk Try.prog 21 := ⟨_, Try.func21, by kernel_rfl, by kernel_rfl⟩
theorem fn22 : FnOk Try.prog 22 := ⟨_, Try.func22, by kernel_rfl, by kernel_rfl⟩
theorem fn23 : FnOk Try.prog 23 := ⟨_, Try.func23, by kernel_rfl, by kernel_rfl⟩
theorem fn24 : FnOk Try.prog 24 := ⟨_, Try.func24, by kernel_rfl, by kernel_rfl⟩
theorem fn25 : FnOk Try.prog 25 := ⟨_, Try.func25, by kernel_rfl, by kernel_rfl⟩
theorem fn26 : FnOk Try.prog 26 := ⟨_, Try.func26, by kernel_rfl, by kernel_rfl⟩
theorem fn27 : FnOk Try.prog 27 := ⟨_, Try.func27, by kernel_rfl, by kernel_rfl⟩
theorem fn28 : FnOk Try.prog 28 := ⟨_, Try.func28, by kernel_rfl, by kernel_rfl⟩
theorem fn29 : FnOk Try.prog 29 := ⟨_, Try.func29, by kernel_rfl, by kernel_rfl⟩
theorem fn30 : FnOk Try.prog 30 := ⟨_, Try.func30, by kernel_rfl, by kernel_rfl⟩
theorem fn31 : FnOk Try.prog 31 := ⟨_, Try.func31, by kernel_rfl, by kernel_rfl⟩
theorem fn32 : FnOk Try.prog 32 := ⟨_, Try.func32, by kernel_rfl, by kernel_rfl⟩
theorem fn33 : FnOk Try.prog 33 := ⟨_, Try.func33, by kernel_rfl, by kernel_rfl⟩
theorem fn34 : FnOk Try.prog 34 := ⟨_, Try.func34, by kernel_rfl, by kernel_rfl⟩
theorem fn35 : FnOk Try.prog 35 := ⟨_, Try.func35, by kernel_rfl, by kernel_rfl⟩
theorem fn36 : FnOk Try.prog 36 := ⟨_, Try.func36, by kernel_rfl, by kernel_rfl⟩
theorem fn37 : FnOk Try.prog 37 := ⟨_, Try.func37, by kernel_rfl, by kernel_rfl⟩
theorem fn38 : FnOk Try.prog 38 := ⟨_, Try.func38, by kernel_rfl, by kernel_rfl⟩
theorem fn39 : FnOk Try.prog 39 := ⟨_, Try.func39, by kernel_rfl, by kernel_rfl⟩
theorem fn40 : FnOk Try.prog 40 := ⟨_, Try.func40, by kernel_rfl, by kernel_rfl⟩
theorem fn41 : FnOk Try.prog 41 := ⟨_, Try.func41, by kernel_rfl, by kernel_rfl⟩
theorem fn42 : FnOk Try.prog 42 := ⟨_, Try.func42, by kernel_rfl, by kernel_rfl⟩
theorem fn43 : FnOk Try.prog 43 := ⟨_, Try.func43, by kernel_rfl, by kernel_rfl⟩
theorem fn44 : FnOk Try.prog 44 := ⟨_, Try.func44, by kernel_rfl, by kernel_rfl⟩
theorem fn45 : FnOk Try.prog 45 := ⟨_, Try.func45, by kernel_rfl, by kernel_rfl⟩
theorem fn46 : FnOk Try.prog 46 := ⟨_, Try.func46, by kernel_rfl, by kernel_rfl⟩
theorem fn47 : FnOk Try.prog 47 := ⟨_, Try.func47, by kernel_rfl, by kernel_rfl⟩
theorem fn48 : FnOk Try.prog 48 := ⟨_, Try.func48, by kernel_rfl, by kernel_rfl⟩
theorem fn49 : FnOk Try.prog 49 := ⟨_, Try.func49, by kernel_rfl, by kernel_rfl⟩
theorem fn50 : FnOk Try.prog 50 := ⟨_, Try.func50, by kernel_rfl, by kernel_rfl⟩
theorem fn51 : FnOk Try.prog 51 := ⟨_, Try.func51, by kernel_rfl, by kernel_rfl⟩
theorem fn52 : FnOk Try.prog 52 := ⟨_, Try.func52, by kernel_rfl, by kernel_rfl⟩
theorem fn53 : FnOk Try.prog 53 := ⟨_, Try.func53, by kernel_rfl, by kernel_rfl⟩
theorem fn54 : FnOk Try.prog 54 := ⟨_, Try.func54, by kernel_rfl, by kernel_rfl⟩
theorem fn55 : FnOk Try.prog 55 := ⟨_, Try.func55, by kernel_rfl, by kernel_rfl⟩
theorem fn56 : FnOk Try.prog 56 := ⟨_, Try.func56, by kernel_rfl, by kernel_rfl⟩
theorem fn57 : FnOk Try.prog 57 := ⟨_, Try.func57, by kernel_rfl, by kernel_rfl⟩
theorem fn58 : FnOk Try.prog 58 := ⟨_, Try.func58, by kernel_rfl, by kernel_rfl⟩
theorem fn59 : FnOk Try.prog 59 := ⟨_, Try.func59, by kernel_rfl, by kernel_rfl⟩
theorem fn60 : FnOk Try.prog 60 := ⟨_, Try.func60, by kernel_rfl, by kernel_rfl⟩
theorem fn61 : FnOk Try.prog 61 := ⟨_, Try.func61, by kernel_rfl, by kernel_rfl⟩
theorem fn62 : FnOk Try.prog 62 := ⟨_, Try.func62, by kernel_rfl, by kernel_rfl⟩
theorem fn63 : FnOk Try.prog 63 := ⟨_, Try.func63, by kernel_rfl, by kernel_rfl⟩
theorem fn64 : FnOk Try.prog 64 := ⟨_, Try.func64, by kernel_rfl, by kernel_rfl⟩
theorem fn65 : FnOk Try.prog 65 := ⟨_, Try.func65, by kernel_rfl, by kernel_rfl⟩
theorem fn66 : FnOk Try.prog 66 := ⟨_, Try.func66, by kernel_rfl, by kernel_rfl⟩
theorem fn67 : FnOk Try.prog 67 := ⟨_, Try.func67, by kernel_rfl, by kernel_rfl⟩
theorem fn68 : FnOk Try.prog 68 := ⟨_, Try.func68, by kernel_rfl, by kernel_rfl⟩
theorem fn69 : FnOk Try.prog 69 := ⟨_, Try.func69, by kernel_rfl, by kernel_rfl⟩
theorem fn70 : FnOk Try.prog 70 := ⟨_, Try.func70, by kernel_rfl, by kernel_rfl⟩
theorem fn71 : FnOk Try.prog 71 := ⟨_, Try.func71, by kernel_rfl, by kernel_rfl⟩
theorem fn72 : FnOk Try.prog 72 := ⟨_, Try.func72, by kernel_rfl, by kernel_rfl⟩
theorem fn73 : FnOk Try.prog 73 := ⟨_, Try.func73, by kernel_rfl, by kernel_rfl⟩
theorem fn74 : FnOk Try.prog 74 := ⟨_, Try.func74, by kernel_rfl, by kernel_rfl⟩
theorem fn75 : FnOk Try.prog 75 := ⟨_, Try.func75, by kernel_rfl, by kernel_rfl⟩
theorem fn76 : FnOk Try.prog 76 := ⟨_, Try.func76, by kernel_rfl, by kernel_rfl⟩
theorem fn77 : FnOk Try.prog 77 := ⟨_, Try.func77, by kernel_rfl, by kernel_rfl⟩
theorem fn78 : FnOk Try.prog 78 := ⟨_, Try.func78, by kernel_rfl, by kernel_rfl⟩
theorem fn79 : FnOk Try.prog 79 := ⟨_, Try.func79, by kernel_rfl, by kernel_rfl⟩
theorem fn80 : FnOk Try.prog 80 := ⟨_, Try.func80, by kernel_rfl, by kernel_rfl⟩
theorem fn81 : FnOk Try.prog 81 := ⟨_, Try.func81, by kernel_rfl, by kernel_rfl⟩
theorem fn82 : FnOk Try.prog 82 := ⟨_, Try.func82, by kernel_rfl, by kernel_rfl⟩
theorem fn83 : FnOk Try.prog 83 := ⟨_, Try.func83, by kernel_rfl, by kernel_rfl⟩
theorem fn84 : FnOk Try.prog 84 := ⟨_, Try.func84, by kernel_rfl, by kernel_rfl⟩
theorem fn85 : FnOk Try.prog 85 := ⟨_, Try.func85, by kernel_rfl, by kernel_rfl⟩
theorem fn86 : FnOk Try.prog 86 := ⟨_, Try.func86, by kernel_rfl, by kernel_rfl⟩
theorem fn87 : FnOk Try.prog 87 := ⟨_, Try.func87, by kernel_rfl, by kernel_rfl⟩
theorem fn88 : FnOk Try.prog 88 := ⟨_, Try.func88, by kernel_rfl, by kernel_rfl⟩
theorem fn89 : FnOk Try.prog 89 := ⟨_, Try.func89, by kernel_rfl, by kernel_rfl⟩
theorem fn90 : FnOk Try.prog 90 := ⟨_, Try.func90, by kernel_rfl, by kernel_rfl⟩
theorem fn91 : FnOk Try.prog 91 := ⟨_, Try.func91, by kernel_rfl, by kernel_rfl⟩
theorem fn92 : FnOk Try.prog 92 := ⟨_, Try.func92, by kernel_rfl, by kernel_rfl⟩
theorem fn93 : FnOk Try.prog 93 := ⟨_, Try.func93, by kernel_rfl, by kernel_rfl⟩
theorem fn94 : FnOk Try.prog 94 := ⟨_, Try.func94, by kernel_rfl, by kernel_rfl⟩
theorem fn95 : FnOk Try.prog 95 := ⟨_, Try.func95, by kernel_rfl, by kernel_rfl⟩
theorem fn96 : FnOk Try.prog 96 := ⟨_, Try.func96, by kernel_rfl, by kernel_rfl⟩
theorem fn97 : FnOk Try.prog 97 := ⟨_, Try.func97, by kernel_rfl, by kernel_rfl⟩
theorem fn98 : FnOk Try.prog 98 := ⟨_, Try.func98, by kernel_rfl, by kernel_rfl⟩
theorem fn99 : FnOk Try.prog 99 := ⟨_, Try.func99, by kernel_rfl, by kernel_rfl⟩
theorem fn100 : FnOk Try.prog 100 := ⟨_, Try.func100, by kernel_rfl, by kernel_rfl⟩
theorem fn101 : FnOk Try.prog 101 := ⟨_, Try.func101, by kernel_rfl, by kernel_rfl⟩
theorem fn102 : FnOk Try.prog 102 := ⟨_, Try.func102, by kernel_rfl, by kernel_rfl⟩
theorem fn103 : FnOk Try.prog 103 := ⟨_, Try.func103, by kernel_rfl, by kernel_rfl⟩
theorem fn104 : FnOk Try.prog 104 := ⟨_, Try.func104, by kernel_rfl, by kernel_rfl⟩
theorem fn105 : FnOk Try.prog 105 := ⟨_, Try.func105, by kernel_rfl, by kernel_rfl⟩
theorem fn106 : FnOk Try.prog 106 := ⟨_, Try.func106, by kernel_rfl, by kernel_rfl⟩
theorem fn107 : FnOk Try.prog 107 := ⟨_, Try.func107, by kernel_rfl, by kernel_rfl⟩
theorem fn108 : FnOk Try.prog 108 := ⟨_, Try.func108, by kernel_rfl, by kernel_rfl⟩
theorem fn109 : FnOk Try.prog 109 := ⟨_, Try.func109, by kernel_rfl, by kernel_rfl⟩
theorem fn110 : FnOk Try.prog 110 := ⟨_, Try.func110, by kernel_rfl, by kernel_rfl⟩
theorem fn111 : FnOk Try.prog 111 := ⟨_, Try.func111, by kernel_rfl, by kernel_rfl⟩
theorem fn112 : FnOk Try.prog 112 := ⟨_, Try.func112, by kernel_rfl, by kernel_rfl⟩
theorem fn113 : FnOk Try.prog 113 := ⟨_, Try.func113, by kernel_rfl, by kernel_rfl⟩
theorem fn114 : FnOk Try.prog 114 := ⟨_, Try.func114, by kernel_rfl, by kernel_rfl⟩
theorem fn115 : FnOk Try.prog 115 := ⟨_, Try.func115, by kernel_rfl, by kernel_rfl⟩
theorem fn116 : FnOk Try.prog 116 := ⟨_, Try.func116, by kernel_rfl, by kernel_rfl⟩
theorem fn117 : FnOk Try.prog 117 := ⟨_, Try.func117, by kernel_rfl, by kernel_rfl⟩
theorem fn118 : FnOk Try.prog 118 := ⟨_, Try.func118, by kernel_rfl, by kernel_rfl⟩
theorem fn119 : FnOk Try.prog 119 := ⟨_, Try.func119, by kernel_rfl, by kernel_rfl⟩
theorem fn120 : FnOk Try.prog 120 := ⟨_, Try.func120, by kernel_rfl, by kernel_rfl⟩
theorem fn121 : FnOk Try.prog 121 := ⟨_, Try.func121, by kernel_rfl, by kernel_rfl⟩
theorem fn122 : FnOk Try.prog 122 := ⟨_, Try.func122, by kernel_rfl, by kernel_rfl⟩
theorem fn123 : FnOk Try.prog 123 := ⟨_, Try.func123, by kernel_rfl, by kernel_rfl⟩
theorem fn124 : FnOk Try.prog 124 := ⟨_, Try.func124, by kernel_rfl, by kernel_rfl⟩
theorem fn125 : FnOk Try.prog 125 := ⟨_, Try.func125, by kernel_rfl, by kernel_rfl⟩
end Go.Proofs.Ythpocekigliomaa.K
