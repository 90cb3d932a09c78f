/- The functions that MultExponents reaches, in labelled pieces, and what each asks of the evaluator. Printed. -/
import Derived.Test.YtlhckcldeojfmaaAbA1
set_option linter.unusedVariables false
namespace Go.Ab
noncomputable def semigroupref14_Shape_fn : Fn := ⟨1, [.tmp 2], [
 ⟨[0], [.code 0],
  .reg (.op 0 (some 2) (.mov (.c (.int .i64 0))) <| .nil) <|
  .reg (.op 0 (some 7) (.mov (.t 0)) <| .op 1 (some 8) (.len (.t 7)) <| .op 2 (some 9) (.bin .gtr .i64 (.t 8) (.c (.int .i64 400))) <| .nil) <|
  .ite (.t 9)
  (.reg (.op 0 (some 2) (.mov (.c (.int .i64 3))) <| .nil) <|
  .ret)
  (.reg (.op 0 (some 10) (.mov (.t 0)) <| .op 1 (some 11) (.len (.t 10)) <| .op 2 (some 12) (.bin .eql .i64 (.t 11) (.c (.int .i64 0))) <| .nil) <|
  .ite (.t 12)
  (.reg (.op 0 (some 2) (.mov (.c (.int .i64 4))) <| .nil) <|
  .ret)
  (.reg (.op 0 (some 13) (.mov (.t 0)) <| .op 1 (some 14) (.len (.t 13)) <| .op 2 (some 15) (.mov (.c (.int .i64 0))) <| .nil) <|
  .jump 1))⟩,
 ⟨[0, 13, 14, 15], [.code 24, .code 25, .inLoop 22, .inBlock 21, .code 64],
  .reg (.op 0 (some 16) (.bin .lss .i64 (.t 15) (.t 14)) <| .nil) <|
  .ite (.t 16)
  (.reg (.op 0 (some 17) (.iadr (.t 13) (.t 15) 1) <| .op 1 (some 18) (.ld (.lf .sl) (.t 17)) <| .op 2 (some 4) (.mov (.t 18)) <| .nil) <|
  .reg (.op 0 (some 19) (.mov (.t 4)) <| .op 1 (some 20) (.len (.t 19)) <| .op 2 (some 21) (.mov (.t 0)) <| .op 3 (some 22) (.len (.t 21)) <| .op 4 (some 23) (.bin .neq .i64 (.t 20) (.t 22)) <| .nil) <|
  .ite (.t 23)
  (.reg (.op 0 (some 2) (.mov (.c (.int .i64 4))) <| .nil) <|
  .ret)
  (.reg (.op 0 (some 24) (.mov (.t 4)) <| .op 1 (some 25) (.len (.t 24)) <| .op 2 (some 26) (.mov (.c (.int .i64 0))) <| .nil) <|
  .jump 2))
  (.reg (.op 0 (some 2) (.mov (.c (.int .i64 0))) <| .nil) <|
  .ret)⟩,
 ⟨[0, 13, 14, 15, 24, 25, 26], [.code 46, .code 47, .inLoop 44, .inBlock 43, .inBlock 30, .code 63, .inLoop 22, .inBlock 21, .code 64],
  .reg (.op 0 (some 27) (.bin .lss .i64 (.t 26) (.t 25)) <| .nil) <|
  .ite (.t 27)
  (.reg (.op 0 (some 28) (.iadr (.t 24) (.t 26) 1) <| .op 1 (some 29) (.ld (.lf (.int .i64)) (.t 28)) <| .op 2 (some 6) (.mov (.t 29)) <| .nil) <|
  .reg (.op 0 (some 30) (.mov (.t 6)) <| .op 1 (some 31) (.bin .lss .i64 (.t 30) (.c (.int .i64 0))) <| .op 2 (some 32) (.mov (.t 31)) <| .grp 32 false (.op 3 (some 33) (.mov (.t 6)) <| .op 4 (some 34) (.mov (.t 0)) <| .op 5 (some 35) (.len (.t 34)) <| .op 6 (some 36) (.bin .geq .i64 (.t 33) (.t 35)) <| .nil) 7 37 (.t 36) <| .nil) <|
  .ite (.t 37)
  (.reg (.op 0 (some 2) (.mov (.c (.int .i64 4))) <| .nil) <|
  .ret)
  (.reg (.op 0 (some 38) (.bin .add .i64 (.t 26) (.c (.int .i64 1))) <| .op 1 (some 26) (.mov (.t 38)) <| .nil) <|
  .jump 2))
  (.reg (.op 0 (some 39) (.bin .add .i64 (.t 15) (.c (.int .i64 1))) <| .op 1 (some 15) (.mov (.t 39)) <| .nil) <|
  .jump 1)⟩]⟩
noncomputable def semigroupref14_Associative_fn : Fn := ⟨1, [.tmp 2, .tmp 3, .tmp 4, .tmp 5], [
 ⟨[0], [.code 0],
  .reg (.op 0 (some 2) (.mov (.c (.int .i64 0))) <| .op 1 (some 3) (.mov (.c (.int .i64 0))) <| .op 2 (some 4) (.mov (.c (.int .i64 0))) <| .op 3 (some 5) (.mov (.c (.int .i64 0))) <| .nil) <|
  .reg (.op 0 (some 10) (.mov (.t 0)) <| .op 1 (some 11) (.call 0 [(.t 10)] true (.one (.lf (.int .i64)))) <| .op 2 (some 6) (.mov (.t 11)) <| .nil) <|
  .reg (.op 0 (some 12) (.mov (.t 6)) <| .op 1 (some 13) (.bin .neq .i64 (.t 12) (.c (.int .i64 0))) <| .nil) <|
  .ite (.t 13)
  (.reg (.op 0 (some 14) (.mov (.t 6)) <| .op 1 (some 2) (.mov (.c (.int .i64 0))) <| .op 2 (some 3) (.mov (.c (.int .i64 0))) <| .op 3 (some 4) (.mov (.c (.int .i64 0))) <| .op 4 (some 5) (.mov (.t 14)) <| .nil) <|
  .ret)
  (.reg (.op 0 (some 15) (.mov (.t 0)) <| .op 1 (some 16) (.len (.t 15)) <| .op 2 (some 17) (.mov (.c (.int .i64 0))) <| .nil) <|
  .jump 1)⟩,
 ⟨[0, 16, 17], [.code 18, .code 19, .inLoop 16, .inBlock 15, .code 65],
  .reg (.op 0 (some 18) (.bin .lss .i64 (.t 17) (.t 16)) <| .nil) <|
  .ite (.t 18)
  (.reg (.op 0 (some 19) (.mov (.t 17)) <| .op 1 (some 7) (.mov (.t 19)) <| .nil) <|
  .reg (.op 0 (some 20) (.mov (.t 0)) <| .op 1 (some 21) (.len (.t 20)) <| .op 2 (some 22) (.mov (.c (.int .i64 0))) <| .nil) <|
  .jump 2)
  (.reg (.op 0 (some 2) (.mov (.c (.int .i64 0))) <| .op 1 (some 3) (.mov (.c (.int .i64 0))) <| .op 2 (some 4) (.mov (.c (.int .i64 0))) <| .op 3 (some 5) (.mov (.c (.int .i64 0))) <| .nil) <|
  .ret)⟩,
 ⟨[0, 7, 16, 17, 21, 22], [.code 32, .code 33, .inLoop 30, .inBlock 29, .inBlock 24, .code 64, .inLoop 16, .inBlock 15, .code 65],
  .reg (.op 0 (some 23) (.bin .lss .i64 (.t 22) (.t 21)) <| .nil) <|
  .ite (.t 23)
  (.reg (.op 0 (some 24) (.mov (.t 22)) <| .op 1 (some 8) (.mov (.t 24)) <| .nil) <|
  .reg (.op 0 (some 25) (.mov (.t 0)) <| .op 1 (some 26) (.len (.t 25)) <| .op 2 (some 27) (.mov (.c (.int .i64 0))) <| .nil) <|
  .jump 3)
  (.reg (.op 0 (some 62) (.bin .add .i64 (.t 17) (.c (.int .i64 1))) <| .op 1 (some 17) (.mov (.t 62)) <| .nil) <|
  .jump 1)⟩,
 ⟨[0, 7, 8, 16, 17, 21, 22, 26, 27], [.code 46, .code 47, .inLoop 44, .inBlock 43, .inBlock 38, .code 63, .inLoop 30, .inBlock 29, .inBlock 24, .code 64, .inLoop 16, .inBlock 15, .code 65],
  .reg (.op 0 (some 28) (.bin .lss .i64 (.t 27) (.t 26)) <| .nil) <|
  .ite (.t 28)
  (.reg (.op 0 (some 29) (.mov (.t 27)) <| .op 1 (some 9) (.mov (.t 29)) <| .nil) <|
  .reg (.op 0 (some 30) (.mov (.t 0)) <| .op 1 (some 31) (.mov (.t 0)) <| .op 2 (some 32) (.mov (.t 7)) <| .op 3 (some 33) (.iadr (.t 31) (.t 32) 1) <| .op 4 (some 34) (.ld (.lf .sl) (.t 33)) <| .op 5 (some 35) (.mov (.t 8)) <| .op 6 (some 36) (.iadr (.t 34) (.t 35) 1) <| .op 7 (some 37) (.ld (.lf (.int .i64)) (.t 36)) <| .op 8 (some 38) (.iadr (.t 30) (.t 37) 1) <| .op 9 (some 39) (.ld (.lf .sl) (.t 38)) <| .op 10 (some 40) (.mov (.t 9)) <| .op 11 (some 41) (.iadr (.t 39) (.t 40) 1) <| .op 12 (some 42) (.ld (.lf (.int .i64)) (.t 41)) <| .op 13 (some 43) (.mov (.t 0)) <| .op 14 (some 44) (.mov (.t 7)) <| .op 15 (some 45) (.iadr (.t 43) (.t 44) 1) <| .op 16 (some 46) (.ld (.lf .sl) (.t 45)) <| .op 17 (some 47) (.mov (.t 0)) <| .op 18 (some 48) (.mov (.t 8)) <| .op 19 (some 49) (.iadr (.t 47) (.t 48) 1) <| .op 20 (some 50) (.ld (.lf .sl) (.t 49)) <| .op 21 (some 51) (.mov (.t 9)) <| .op 22 (some 52) (.iadr (.t 50) (.t 51) 1) <| .op 23 (some 53) (.ld (.lf (.int .i64)) (.t 52)) <| .op 24 (some 54) (.iadr (.t 46) (.t 53) 1) <| .op 25 (some 55) (.ld (.lf (.int .i64)) (.t 54)) <| .op 26 (some 56) (.bin .neq .i64 (.t 42) (.t 55)) <| .nil) <|
  .ite (.t 56)
  (.reg (.op 0 (some 57) (.mov (.t 7)) <| .op 1 (some 58) (.mov (.t 8)) <| .op 2 (some 59) (.mov (.t 9)) <| .op 3 (some 2) (.mov (.t 57)) <| .op 4 (some 3) (.mov (.t 58)) <| .op 5 (some 4) (.mov (.t 59)) <| .op 6 (some 5) (.mov (.c (.int .i64 5))) <| .nil) <|
  .ret)
  (.reg (.op 0 (some 60) (.bin .add .i64 (.t 27) (.c (.int .i64 1))) <| .op 1 (some 27) (.mov (.t 60)) <| .nil) <|
  .jump 3))
  (.reg (.op 0 (some 61) (.bin .add .i64 (.t 22) (.c (.int .i64 1))) <| .op 1 (some 22) (.mov (.t 61)) <| .nil) <|
  .jump 2)⟩]⟩
noncomputable def semigroupref14_Validate_fn : Fn := ⟨1, [.tmp 2], [
 ⟨[0], [.code 0],
  .reg (.op 0 (some 2) (.mov (.c (.int .i64 0))) <| .nil) <|
  .reg (.op 0 (some 8) (.mov (.t 0)) <| .op 1 (some 9) (.call 1 [(.t 8)] true (.tup [(.lf (.int .i64)), (.lf (.int .i64)), (.lf (.int .i64)), (.lf (.int .i64))])) <| .op 2 (some 7) (.mov (.t 9)) <| .op 3 (some 10) (.ext (.t 7) 0) <| .op 4 (some 11) (.ext (.t 7) 1) <| .op 5 (some 12) (.ext (.t 7) 2) <| .op 6 (some 13) (.ext (.t 7) 3) <| .op 7 (some 3) (.mov (.t 10)) <| .op 8 (some 4) (.mov (.t 11)) <| .op 9 (some 5) (.mov (.t 12)) <| .op 10 (some 6) (.mov (.t 13)) <| .nil) <|
  .reg (.op 0 (some 14) (.mov (.t 6)) <| .op 1 (some 2) (.mov (.t 14)) <| .nil) <|
  .ret⟩]⟩
noncomputable def semigroupref14_Valid_fn : Fn := ⟨1, [.tmp 2], [
 ⟨[0], [.code 0],
  .reg (.op 0 (some 2) (.mov (.c (.bool false))) <| .nil) <|
  .reg (.op 0 (some 3) (.mov (.t 0)) <| .op 1 (some 4) (.call 2 [(.t 3)] true (.one (.lf (.int .i64)))) <| .op 2 (some 5) (.bin .eql .i64 (.t 4) (.c (.int .i64 0))) <| .op 3 (some 2) (.mov (.t 5)) <| .nil) <|
  .ret⟩]⟩
noncomputable def semigrouplaw14_small_fn : Fn := ⟨2, [.tmp 4], [
 ⟨[0, 1], [.code 0],
  .reg (.op 0 (some 4) (.mov (.c (.bool false))) <| .nil) <|
  .reg (.op 0 (some 5) (.mov (.t 0)) <| .op 1 (some 6) (.len (.t 5)) <| .op 2 (some 7) (.mov (.t 1)) <| .op 3 (some 8) (.bin .leq .i64 (.t 6) (.t 7)) <| .op 4 (some 9) (.mov (.t 8)) <| .grp 9 true (.op 5 (some 10) (.mov (.t 0)) <| .op 6 (some 11) (.call 3 [(.t 10)] true (.one (.lf .bool))) <| .nil) 7 12 (.t 11) <| .op 8 (some 4) (.mov (.t 12)) <| .nil) <|
  .ret⟩]⟩
noncomputable def semigroupref14_In_fn : Fn := ⟨2, [.tmp 4], [
 ⟨[0, 1], [.code 0],
  .reg (.op 0 (some 4) (.mov (.c (.bool false))) <| .nil) <|
  .reg (.op 0 (some 7) (.mov (.t 1)) <| .op 1 (some 8) (.len (.t 7)) <| .op 2 (some 9) (.mov (.c (.int .i64 0))) <| .nil) <|
  .jump 1⟩,
 ⟨[0, 7, 8, 9], [.code 8, .code 9, .inLoop 6, .inBlock 5, .code 25],
  .reg (.op 0 (some 10) (.bin .lss .i64 (.t 9) (.t 8)) <| .nil) <|
  .ite (.t 10)
  (.reg (.op 0 (some 11) (.iadr (.t 7) (.t 9) 1) <| .op 1 (some 12) (.ld (.lf (.int .i64)) (.t 11)) <| .op 2 (some 6) (.mov (.t 12)) <| .nil) <|
  .reg (.op 0 (some 13) (.mov (.t 6)) <| .op 1 (some 14) (.bin .lss .i64 (.t 13) (.c (.int .i64 0))) <| .op 2 (some 15) (.mov (.t 14)) <| .grp 15 false (.op 3 (some 16) (.mov (.t 6)) <| .op 4 (some 17) (.mov (.t 0)) <| .op 5 (some 18) (.len (.t 17)) <| .op 6 (some 19) (.bin .geq .i64 (.t 16) (.t 18)) <| .nil) 7 20 (.t 19) <| .nil) <|
  .ite (.t 20)
  (.reg (.op 0 (some 4) (.mov (.c (.bool false))) <| .nil) <|
  .ret)
  (.reg (.op 0 (some 21) (.bin .add .i64 (.t 9) (.c (.int .i64 1))) <| .op 1 (some 9) (.mov (.t 21)) <| .nil) <|
  .jump 1))
  (.reg (.op 0 (some 4) (.mov (.c (.bool true))) <| .nil) <|
  .ret)⟩]⟩
noncomputable def mult_shape_fn : Fn := ⟨1, [.tmp 2], [
 ⟨[0], [.code 0],
  .reg (.op 0 (some 2) (.mov (.c (.int .i64 0))) <| .nil) <|
  .reg (.op 0 (some 8) (.mov (.t 0)) <| .op 1 (some 9) (.len (.t 8)) <| .op 2 (some 10) (.bin .gtr .i64 (.t 9) (.c (.int .i64 400))) <| .op 3 (some 7) (.mov (.t 10)) <| .nil) <|
  .ite (.t 7)
  (.reg (.op 0 (some 2) (.mov (.c (.int .i64 3))) <| .nil) <|
  .ret)
  (.reg (.op 0 (some 12) (.mov (.t 0)) <| .op 1 (some 13) (.len (.t 12)) <| .op 2 (some 14) (.bin .eql .i64 (.t 13) (.c (.int .i64 0))) <| .op 3 (some 11) (.mov (.t 14)) <| .nil) <|
  .ite (.t 11)
  (.reg (.op 0 (some 2) (.mov (.c (.int .i64 4))) <| .nil) <|
  .ret)
  (.reg (.op 0 (some 15) (.mov (.t 0)) <| .op 1 (some 16) (.len (.t 15)) <| .op 2 (some 17) (.mov (.c (.int .i64 0))) <| .nil) <|
  .jump 1))⟩,
 ⟨[0, 15, 16, 17], [.code 23, .code 24, .inLoop 21, .inBlock 20, .code 63],
  .reg (.op 0 (some 18) (.bin .lss .i64 (.t 17) (.t 16)) <| .nil) <|
  .ite (.t 18)
  (.reg (.op 0 (some 19) (.iadr (.t 15) (.t 17) 1) <| .op 1 (some 20) (.ld (.lf .sl) (.t 19)) <| .op 2 (some 4) (.mov (.t 20)) <| .nil) <|
  .reg (.op 0 (some 21) (.mov (.t 4)) <| .op 1 (some 22) (.len (.t 21)) <| .op 2 (some 23) (.mov (.t 0)) <| .op 3 (some 24) (.len (.t 23)) <| .op 4 (some 25) (.bin .neq .i64 (.t 22) (.t 24)) <| .nil) <|
  .ite (.t 25)
  (.reg (.op 0 (some 2) (.mov (.c (.int .i64 4))) <| .nil) <|
  .ret)
  (.reg (.op 0 (some 26) (.mov (.t 4)) <| .op 1 (some 27) (.len (.t 26)) <| .op 2 (some 28) (.mov (.c (.int .i64 0))) <| .nil) <|
  .jump 2))
  (.reg (.op 0 (some 2) (.mov (.c (.int .i64 0))) <| .nil) <|
  .ret)⟩,
 ⟨[0, 15, 16, 17, 26, 27, 28], [.code 45, .code 46, .inLoop 43, .inBlock 42, .inBlock 29, .code 62, .inLoop 21, .inBlock 20, .code 63],
  .reg (.op 0 (some 29) (.bin .lss .i64 (.t 28) (.t 27)) <| .nil) <|
  .ite (.t 29)
  (.reg (.op 0 (some 30) (.iadr (.t 26) (.t 28) 1) <| .op 1 (some 31) (.ld (.lf (.int .i64)) (.t 30)) <| .op 2 (some 6) (.mov (.t 31)) <| .nil) <|
  .reg (.op 0 (some 32) (.mov (.t 6)) <| .op 1 (some 33) (.bin .lss .i64 (.t 32) (.c (.int .i64 0))) <| .op 2 (some 34) (.mov (.t 33)) <| .grp 34 false (.op 3 (some 35) (.mov (.t 6)) <| .op 4 (some 36) (.mov (.t 0)) <| .op 5 (some 37) (.len (.t 36)) <| .op 6 (some 38) (.bin .geq .i64 (.t 35) (.t 37)) <| .nil) 7 39 (.t 38) <| .nil) <|
  .ite (.t 39)
  (.reg (.op 0 (some 2) (.mov (.c (.int .i64 4))) <| .nil) <|
  .ret)
  (.reg (.op 0 (some 40) (.bin .add .i64 (.t 28) (.c (.int .i64 1))) <| .op 1 (some 28) (.mov (.t 40)) <| .nil) <|
  .jump 2))
  (.reg (.op 0 (some 41) (.bin .add .i64 (.t 17) (.c (.int .i64 1))) <| .op 1 (some 17) (.mov (.t 41)) <| .nil) <|
  .jump 1)⟩]⟩
noncomputable def mult_failing_fn : Fn := ⟨1, [.tmp 2, .tmp 3, .tmp 4, .tmp 5], [
 ⟨[0], [.code 0],
  .reg (.op 0 (some 2) (.mov (.c (.int .i64 0))) <| .op 1 (some 3) (.mov (.c (.int .i64 0))) <| .op 2 (some 4) (.mov (.c (.int .i64 0))) <| .op 3 (some 5) (.mov (.c (.bool false))) <| .nil) <|
  .reg (.op 0 (some 9) (.mov (.t 0)) <| .op 1 (some 10) (.len (.t 9)) <| .op 2 (some 11) (.mov (.c (.int .i64 0))) <| .nil) <|
  .jump 1⟩,
 ⟨[0, 10, 11], [.code 8, .code 9, .inLoop 6, .inBlock 5, .code 55],
  .reg (.op 0 (some 12) (.bin .lss .i64 (.t 11) (.t 10)) <| .nil) <|
  .ite (.t 12)
  (.reg (.op 0 (some 13) (.mov (.t 11)) <| .op 1 (some 6) (.mov (.t 13)) <| .nil) <|
  .reg (.op 0 (some 14) (.mov (.t 0)) <| .op 1 (some 15) (.len (.t 14)) <| .op 2 (some 16) (.mov (.c (.int .i64 0))) <| .nil) <|
  .jump 2)
  (.reg (.op 0 (some 2) (.mov (.c (.int .i64 0))) <| .op 1 (some 3) (.mov (.c (.int .i64 0))) <| .op 2 (some 4) (.mov (.c (.int .i64 0))) <| .op 3 (some 5) (.mov (.c (.bool false))) <| .nil) <|
  .ret)⟩,
 ⟨[0, 6, 10, 11, 15, 16], [.code 22, .code 23, .inLoop 20, .inBlock 19, .inBlock 14, .code 54, .inLoop 6, .inBlock 5, .code 55],
  .reg (.op 0 (some 17) (.bin .lss .i64 (.t 16) (.t 15)) <| .nil) <|
  .ite (.t 17)
  (.reg (.op 0 (some 18) (.mov (.t 16)) <| .op 1 (some 7) (.mov (.t 18)) <| .nil) <|
  .reg (.op 0 (some 19) (.mov (.t 0)) <| .op 1 (some 20) (.len (.t 19)) <| .op 2 (some 21) (.mov (.c (.int .i64 0))) <| .nil) <|
  .jump 3)
  (.reg (.op 0 (some 56) (.bin .add .i64 (.t 11) (.c (.int .i64 1))) <| .op 1 (some 11) (.mov (.t 56)) <| .nil) <|
  .jump 1)⟩,
 ⟨[0, 6, 7, 10, 11, 15, 16, 20, 21], [.code 36, .code 37, .inLoop 34, .inBlock 33, .inBlock 28, .code 53, .inLoop 20, .inBlock 19, .inBlock 14, .code 54, .inLoop 6, .inBlock 5, .code 55],
  .reg (.op 0 (some 22) (.bin .lss .i64 (.t 21) (.t 20)) <| .nil) <|
  .ite (.t 22)
  (.reg (.op 0 (some 23) (.mov (.t 21)) <| .op 1 (some 8) (.mov (.t 23)) <| .nil) <|
  .reg (.op 0 (some 24) (.mov (.t 0)) <| .op 1 (some 25) (.mov (.t 0)) <| .op 2 (some 26) (.mov (.t 6)) <| .op 3 (some 27) (.iadr (.t 25) (.t 26) 1) <| .op 4 (some 28) (.ld (.lf .sl) (.t 27)) <| .op 5 (some 29) (.mov (.t 7)) <| .op 6 (some 30) (.iadr (.t 28) (.t 29) 1) <| .op 7 (some 31) (.ld (.lf (.int .i64)) (.t 30)) <| .op 8 (some 32) (.iadr (.t 24) (.t 31) 1) <| .op 9 (some 33) (.ld (.lf .sl) (.t 32)) <| .op 10 (some 34) (.mov (.t 8)) <| .op 11 (some 35) (.iadr (.t 33) (.t 34) 1) <| .op 12 (some 36) (.ld (.lf (.int .i64)) (.t 35)) <| .op 13 (some 37) (.mov (.t 0)) <| .op 14 (some 38) (.mov (.t 6)) <| .op 15 (some 39) (.iadr (.t 37) (.t 38) 1) <| .op 16 (some 40) (.ld (.lf .sl) (.t 39)) <| .op 17 (some 41) (.mov (.t 0)) <| .op 18 (some 42) (.mov (.t 7)) <| .op 19 (some 43) (.iadr (.t 41) (.t 42) 1) <| .op 20 (some 44) (.ld (.lf .sl) (.t 43)) <| .op 21 (some 45) (.mov (.t 8)) <| .op 22 (some 46) (.iadr (.t 44) (.t 45) 1) <| .op 23 (some 47) (.ld (.lf (.int .i64)) (.t 46)) <| .op 24 (some 48) (.iadr (.t 40) (.t 47) 1) <| .op 25 (some 49) (.ld (.lf (.int .i64)) (.t 48)) <| .op 26 (some 50) (.bin .neq .i64 (.t 36) (.t 49)) <| .nil) <|
  .ite (.t 50)
  (.reg (.op 0 (some 51) (.mov (.t 6)) <| .op 1 (some 52) (.mov (.t 7)) <| .op 2 (some 53) (.mov (.t 8)) <| .op 3 (some 2) (.mov (.t 51)) <| .op 4 (some 3) (.mov (.t 52)) <| .op 5 (some 4) (.mov (.t 53)) <| .op 6 (some 5) (.mov (.c (.bool true))) <| .nil) <|
  .ret)
  (.reg (.op 0 (some 54) (.bin .add .i64 (.t 21) (.c (.int .i64 1))) <| .op 1 (some 21) (.mov (.t 54)) <| .nil) <|
  .jump 3))
  (.reg (.op 0 (some 55) (.bin .add .i64 (.t 16) (.c (.int .i64 1))) <| .op 1 (some 16) (.mov (.t 55)) <| .nil) <|
  .jump 2)⟩]⟩
noncomputable def mult_Validate_fn : Fn := ⟨1, [.tmp 2], [
 ⟨[0], [.code 0],
  .reg (.op 0 (some 2) (.mov (.c (.int .i64 0))) <| .nil) <|
  .reg (.op 0 (some 8) (.mov (.t 0)) <| .op 1 (some 9) (.call 6 [(.t 8)] true (.one (.lf (.int .i64)))) <| .op 2 (some 3) (.mov (.t 9)) <| .nil) <|
  .reg (.op 0 (some 10) (.mov (.t 3)) <| .op 1 (some 11) (.bin .neq .i64 (.t 10) (.c (.int .i64 0))) <| .nil) <|
  .ite (.t 11)
  (.reg (.op 0 (some 12) (.mov (.t 3)) <| .op 1 (some 2) (.mov (.t 12)) <| .nil) <|
  .ret)
  (.reg (.op 0 (some 14) (.mov (.t 0)) <| .op 1 (some 15) (.call 7 [(.t 14)] true (.tup [(.lf (.int .i64)), (.lf (.int .i64)), (.lf (.int .i64)), (.lf .bool)])) <| .op 2 (some 13) (.mov (.t 15)) <| .op 3 (some 16) (.ext (.t 13) 0) <| .op 4 (some 17) (.ext (.t 13) 1) <| .op 5 (some 18) (.ext (.t 13) 2) <| .op 6 (some 19) (.ext (.t 13) 3) <| .op 7 (some 4) (.mov (.t 16)) <| .op 8 (some 5) (.mov (.t 17)) <| .op 9 (some 6) (.mov (.t 18)) <| .op 10 (some 7) (.mov (.t 19)) <| .nil) <|
  .reg (.op 0 (some 20) (.mov (.t 7)) <| .nil) <|
  .ite (.t 20)
  (.reg (.op 0 (some 2) (.mov (.c (.int .i64 5))) <| .nil) <|
  .ret)
  (.reg (.op 0 (some 2) (.mov (.c (.int .i64 0))) <| .nil) <|
  .ret))⟩]⟩
noncomputable def mult_identity_fn : Fn := ⟨1, [.tmp 2], [
 ⟨[0], [.code 0],
  .reg (.op 0 (some 2) (.mov (.c (.int .i64 0))) <| .nil) <|
  .reg (.op 0 (some 6) (.mov (.t 0)) <| .op 1 (some 7) (.len (.t 6)) <| .op 2 (some 8) (.mov (.c (.int .i64 0))) <| .nil) <|
  .jump 1⟩,
 ⟨[0, 7, 8], [.code 8, .code 9, .inLoop 6, .inBlock 5, .code 44],
  .reg (.op 0 (some 9) (.bin .lss .i64 (.t 8) (.t 7)) <| .nil) <|
  .ite (.t 9)
  (.reg (.op 0 (some 10) (.mov (.t 8)) <| .op 1 (some 3) (.mov (.t 10)) <| .nil) <|
  .reg (.op 0 (some 4) (.mov (.c (.bool true))) <| .nil) <|
  .reg (.op 0 (some 11) (.mov (.t 0)) <| .op 1 (some 12) (.len (.t 11)) <| .op 2 (some 13) (.mov (.c (.int .i64 0))) <| .nil) <|
  .jump 2)
  (.reg (.op 0 (some 2) (.mov (.c (.int .i64 (-1)))) <| .nil) <|
  .ret)⟩,
 ⟨[0, 3, 4, 7, 8, 12, 13], [.code 25, .code 26, .inLoop 23, .inBlock 22, .code 36, .inBlock 14, .code 43, .inLoop 6, .inBlock 5, .code 44],
  .reg (.op 0 (some 14) (.bin .lss .i64 (.t 13) (.t 12)) <| .nil) <|
  .ite (.t 14)
  (.reg (.op 0 (some 15) (.mov (.t 13)) <| .op 1 (some 5) (.mov (.t 15)) <| .nil) <|
  .reg (.op 0 (some 16) (.mov (.t 4)) <| .op 1 (some 17) (.mov (.t 16)) <| .grp 17 true (.op 2 (some 18) (.mov (.t 0)) <| .op 3 (some 19) (.mov (.t 3)) <| .op 4 (some 20) (.iadr (.t 18) (.t 19) 1) <| .op 5 (some 21) (.ld (.lf .sl) (.t 20)) <| .op 6 (some 22) (.mov (.t 5)) <| .op 7 (some 23) (.iadr (.t 21) (.t 22) 1) <| .op 8 (some 24) (.ld (.lf (.int .i64)) (.t 23)) <| .op 9 (some 25) (.mov (.t 5)) <| .op 10 (some 26) (.bin .eql .i64 (.t 24) (.t 25)) <| .nil) 11 27 (.t 26) <| .op 12 (some 28) (.mov (.t 27)) <| .grp 28 true (.op 13 (some 29) (.mov (.t 0)) <| .op 14 (some 30) (.mov (.t 5)) <| .op 15 (some 31) (.iadr (.t 29) (.t 30) 1) <| .op 16 (some 32) (.ld (.lf .sl) (.t 31)) <| .op 17 (some 33) (.mov (.t 3)) <| .op 18 (some 34) (.iadr (.t 32) (.t 33) 1) <| .op 19 (some 35) (.ld (.lf (.int .i64)) (.t 34)) <| .op 20 (some 36) (.mov (.t 5)) <| .op 21 (some 37) (.bin .eql .i64 (.t 35) (.t 36)) <| .nil) 22 38 (.t 37) <| .op 23 (some 4) (.mov (.t 38)) <| .nil) <|
  .reg (.op 0 (some 39) (.bin .add .i64 (.t 13) (.c (.int .i64 1))) <| .op 1 (some 13) (.mov (.t 39)) <| .nil) <|
  .jump 2)
  (.reg (.op 0 (some 40) (.mov (.t 4)) <| .nil) <|
  .ite (.t 40)
  (.reg (.op 0 (some 41) (.mov (.t 3)) <| .op 1 (some 2) (.mov (.t 41)) <| .nil) <|
  .ret)
  (.reg (.op 0 (some 42) (.bin .add .i64 (.t 8) (.c (.int .i64 1))) <| .op 1 (some 8) (.mov (.t 42)) <| .nil) <|
  .jump 1))⟩]⟩
noncomputable def mult_Identity_fn : Fn := ⟨1, [.tmp 2], [
 ⟨[0], [.code 0],
  .reg (.op 0 (some 2) (.mov (.c (.int .i64 0))) <| .nil) <|
  .reg (.op 0 (some 3) (.mov (.t 0)) <| .op 1 (some 4) (.call 8 [(.t 3)] true (.one (.lf (.int .i64)))) <| .op 2 (some 5) (.bin .neq .i64 (.t 4) (.c (.int .i64 0))) <| .nil) <|
  .ite (.t 5)
  (.reg (.op 0 (some 2) (.mov (.c (.int .i64 (-1)))) <| .nil) <|
  .ret)
  (.reg (.op 0 (some 6) (.mov (.t 0)) <| .op 1 (some 7) (.call 9 [(.t 6)] true (.one (.lf (.int .i64)))) <| .op 2 (some 2) (.mov (.t 7)) <| .nil) <|
  .ret)⟩]⟩
noncomputable def mult_indexPeriod_fn : Fn := ⟨2, [.tmp 4, .tmp 5], [
 ⟨[0, 1], [.code 0],
  .reg (.op 0 (some 4) (.mov (.c (.int .i64 0))) <| .op 1 (some 5) (.mov (.c (.int .i64 0))) <| .nil) <|
  .reg (.op 0 (some 9) (.mov (.t 0)) <| .op 1 (some 10) (.len (.t 9)) <| .op 2 (some 11) (.mksl [(.int .i64 0)] 8 (.t 10) (.t 10)) <| .op 3 (some 6) (.mov (.t 11)) <| .nil) <|
  .reg (.op 0 (some 12) (.mov (.t 1)) <| .op 1 (some 7) (.mov (.t 12)) <| .op 2 (some 8) (.mov (.c (.int .i64 1))) <| .nil) <|
  .jump 1⟩,
 ⟨[0, 1, 6, 7, 8], [.code 11, .code 12, .code 15, .inLoop 8, .inBlock 7, .code 21],
  .reg (.op 0 (some 13) (.mov (.t 6)) <| .op 1 (some 14) (.mov (.t 7)) <| .op 2 (some 15) (.iadr (.t 13) (.t 14) 1) <| .op 3 (some 16) (.ld (.lf (.int .i64)) (.t 15)) <| .op 4 (some 17) (.bin .eql .i64 (.t 16) (.c (.int .i64 0))) <| .nil) <|
  .ite (.t 17)
  (.reg (.op 0 (some 18) (.mov (.t 6)) <| .op 1 (some 19) (.mov (.t 7)) <| .op 2 (some 20) (.mov (.t 8)) <| .op 3 (some 21) (.iadr (.t 18) (.t 19) 1) <| .op 4 none (.st none (.t 21) (.t 20)) <| .nil) <|
  .reg (.op 0 (some 22) (.mov (.t 0)) <| .op 1 (some 23) (.mov (.t 7)) <| .op 2 (some 24) (.iadr (.t 22) (.t 23) 1) <| .op 3 (some 25) (.ld (.lf .sl) (.t 24)) <| .op 4 (some 26) (.mov (.t 1)) <| .op 5 (some 27) (.iadr (.t 25) (.t 26) 1) <| .op 6 (some 28) (.ld (.lf (.int .i64)) (.t 27)) <| .op 7 (some 7) (.mov (.t 28)) <| .nil) <|
  .reg (.op 0 (some 29) (.mov (.t 8)) <| .op 1 (some 30) (.bin .add .i64 (.t 29) (.c (.int .i64 1))) <| .op 2 (some 8) (.mov (.t 30)) <| .nil) <|
  .jump 1)
  (.reg (.op 0 (some 31) (.mov (.t 6)) <| .op 1 (some 32) (.mov (.t 7)) <| .op 2 (some 33) (.iadr (.t 31) (.t 32) 1) <| .op 3 (some 34) (.ld (.lf (.int .i64)) (.t 33)) <| .op 4 (some 35) (.mov (.t 8)) <| .op 5 (some 36) (.mov (.t 6)) <| .op 6 (some 37) (.mov (.t 7)) <| .op 7 (some 38) (.iadr (.t 36) (.t 37) 1) <| .op 8 (some 39) (.ld (.lf (.int .i64)) (.t 38)) <| .op 9 (some 40) (.bin .sub .i64 (.t 35) (.t 39)) <| .op 10 (some 4) (.mov (.t 34)) <| .op 11 (some 5) (.mov (.t 40)) <| .nil) <|
  .ret)⟩]⟩
noncomputable def mult_power_fn : Fn := ⟨3, [.tmp 6], [
 ⟨[0, 1, 2], [.code 0],
  .reg (.op 0 (some 6) (.mov (.c (.int .i64 0))) <| .nil) <|
  .reg (.op 0 (some 7) (.mov (.c (.int .i64 (-1)))) <| .nil) <|
  .jump 1⟩,
 ⟨[0, 1, 2, 7], [.code 9, .code 10, .code 13, .inLoop 6, .inBlock 5, .code 27],
  .reg (.op 0 (some 8) (.mov (.t 2)) <| .op 1 (some 9) (.bin .gtr .i64 (.t 8) (.c (.int .i64 0))) <| .nil) <|
  .ite (.t 9)
  (.reg (.op 0 (some 12) (.mov (.t 2)) <| .op 1 (some 13) (.bin .rem .i64 (.t 12) (.c (.int .i64 2))) <| .op 2 (some 14) (.bin .eql .i64 (.t 13) (.c (.int .i64 1))) <| .nil) <|
  .ite (.t 14)
  (.reg (.op 0 (some 15) (.mov (.t 7)) <| .op 1 (some 16) (.bin .lss .i64 (.t 15) (.c (.int .i64 0))) <| .nil) <|
  .ite (.t 16)
  (.reg (.op 0 (some 17) (.mov (.t 1)) <| .op 1 (some 7) (.mov (.t 17)) <| .nil) <|
  .jump 2)
  (.reg (.op 0 (some 18) (.mov (.t 0)) <| .op 1 (some 19) (.mov (.t 7)) <| .op 2 (some 20) (.iadr (.t 18) (.t 19) 1) <| .op 3 (some 21) (.ld (.lf .sl) (.t 20)) <| .op 4 (some 22) (.mov (.t 1)) <| .op 5 (some 23) (.iadr (.t 21) (.t 22) 1) <| .op 6 (some 24) (.ld (.lf (.int .i64)) (.t 23)) <| .op 7 (some 7) (.mov (.t 24)) <| .nil) <|
  .jump 2))
  (.jump 2))
  (.reg (.op 0 (some 32) (.mov (.t 7)) <| .op 1 (some 6) (.mov (.t 32)) <| .nil) <|
  .ret)⟩,
 ⟨[0, 1, 2, 7], [.code 25, .inBlock 14, .code 26, .inLoop 6, .inBlock 5, .code 27],
  .reg (.op 0 (some 25) (.mov (.t 0)) <| .op 1 (some 26) (.mov (.t 1)) <| .op 2 (some 27) (.iadr (.t 25) (.t 26) 1) <| .op 3 (some 28) (.ld (.lf .sl) (.t 27)) <| .op 4 (some 29) (.mov (.t 1)) <| .op 5 (some 30) (.iadr (.t 28) (.t 29) 1) <| .op 6 (some 31) (.ld (.lf (.int .i64)) (.t 30)) <| .op 7 (some 1) (.mov (.t 31)) <| .nil) <|
  .reg (.op 0 (some 10) (.mov (.t 2)) <| .op 1 (some 11) (.bin .quo .i64 (.t 10) (.c (.int .i64 2))) <| .op 2 (some 2) (.mov (.t 11)) <| .nil) <|
  .jump 1⟩]⟩
noncomputable def mult_Omega_fn : Fn := ⟨2, [.tmp 4], [
 ⟨[0, 1], [.code 0],
  .reg (.op 0 (some 4) (.mov (.c (.int .i64 0))) <| .nil) <|
  .reg (.op 0 (some 7) (.mov (.t 0)) <| .op 1 (some 8) (.call 8 [(.t 7)] true (.one (.lf (.int .i64)))) <| .op 2 (some 9) (.bin .neq .i64 (.t 8) (.c (.int .i64 0))) <| .op 3 (some 10) (.mov (.t 9)) <| .grp 10 false (.op 4 (some 11) (.mov (.t 1)) <| .op 5 (some 12) (.bin .lss .i64 (.t 11) (.c (.int .i64 0))) <| .nil) 6 13 (.t 12) <| .op 7 (some 14) (.mov (.t 13)) <| .grp 14 false (.op 8 (some 15) (.mov (.t 1)) <| .op 9 (some 16) (.mov (.t 0)) <| .op 10 (some 17) (.len (.t 16)) <| .op 11 (some 18) (.bin .geq .i64 (.t 15) (.t 17)) <| .nil) 12 19 (.t 18) <| .nil) <|
  .ite (.t 19)
  (.reg (.op 0 (some 4) (.mov (.c (.int .i64 (-1)))) <| .nil) <|
  .ret)
  (.reg (.op 0 (some 21) (.mov (.t 0)) <| .op 1 (some 22) (.mov (.t 1)) <| .op 2 (some 23) (.call 11 [(.t 21), (.t 22)] true (.tup [(.lf (.int .i64)), (.lf (.int .i64))])) <| .op 3 (some 20) (.mov (.t 23)) <| .op 4 (some 24) (.ext (.t 20) 0) <| .op 5 (some 25) (.ext (.t 20) 1) <| .op 6 (some 5) (.mov (.t 24)) <| .op 7 (some 6) (.mov (.t 25)) <| .nil) <|
  .reg (.op 0 (some 26) (.mov (.t 0)) <| .op 1 (some 27) (.mov (.t 1)) <| .op 2 (some 28) (.mov (.t 5)) <| .op 3 (some 29) (.mov (.t 6)) <| .op 4 (some 30) (.bin .add .i64 (.t 28) (.t 29)) <| .op 5 (some 31) (.bin .sub .i64 (.t 30) (.c (.int .i64 1))) <| .op 6 (some 32) (.mov (.t 6)) <| .op 7 (some 33) (.bin .quo .i64 (.t 31) (.t 32)) <| .op 8 (some 34) (.mov (.t 6)) <| .op 9 (some 35) (.bin .mul .i64 (.t 33) (.t 34)) <| .op 10 (some 36) (.call 12 [(.t 26), (.t 27), (.t 35)] true (.one (.lf (.int .i64)))) <| .op 11 (some 4) (.mov (.t 36)) <| .nil) <|
  .ret)⟩]⟩
noncomputable def mult_Zero_fn : Fn := ⟨1, [.tmp 2], [
 ⟨[0], [.code 0],
  .reg (.op 0 (some 2) (.mov (.c (.int .i64 0))) <| .nil) <|
  .reg (.op 0 (some 6) (.mov (.t 0)) <| .op 1 (some 7) (.call 8 [(.t 6)] true (.one (.lf (.int .i64)))) <| .op 2 (some 8) (.bin .neq .i64 (.t 7) (.c (.int .i64 0))) <| .nil) <|
  .ite (.t 8)
  (.reg (.op 0 (some 2) (.mov (.c (.int .i64 (-1)))) <| .nil) <|
  .ret)
  (.reg (.op 0 (some 9) (.mov (.t 0)) <| .op 1 (some 10) (.len (.t 9)) <| .op 2 (some 11) (.mov (.c (.int .i64 0))) <| .nil) <|
  .jump 1)⟩,
 ⟨[0, 10, 11], [.code 16, .code 17, .inLoop 14, .inBlock 13, .code 52],
  .reg (.op 0 (some 12) (.bin .lss .i64 (.t 11) (.t 10)) <| .nil) <|
  .ite (.t 12)
  (.reg (.op 0 (some 13) (.mov (.t 11)) <| .op 1 (some 3) (.mov (.t 13)) <| .nil) <|
  .reg (.op 0 (some 4) (.mov (.c (.bool true))) <| .nil) <|
  .reg (.op 0 (some 14) (.mov (.t 0)) <| .op 1 (some 15) (.len (.t 14)) <| .op 2 (some 16) (.mov (.c (.int .i64 0))) <| .nil) <|
  .jump 2)
  (.reg (.op 0 (some 2) (.mov (.c (.int .i64 (-1)))) <| .nil) <|
  .ret)⟩,
 ⟨[0, 3, 4, 10, 11, 15, 16], [.code 33, .code 34, .inLoop 31, .inBlock 30, .code 44, .inBlock 22, .code 51, .inLoop 14, .inBlock 13, .code 52],
  .reg (.op 0 (some 17) (.bin .lss .i64 (.t 16) (.t 15)) <| .nil) <|
  .ite (.t 17)
  (.reg (.op 0 (some 18) (.mov (.t 16)) <| .op 1 (some 5) (.mov (.t 18)) <| .nil) <|
  .reg (.op 0 (some 19) (.mov (.t 4)) <| .op 1 (some 20) (.mov (.t 19)) <| .grp 20 true (.op 2 (some 21) (.mov (.t 0)) <| .op 3 (some 22) (.mov (.t 3)) <| .op 4 (some 23) (.iadr (.t 21) (.t 22) 1) <| .op 5 (some 24) (.ld (.lf .sl) (.t 23)) <| .op 6 (some 25) (.mov (.t 5)) <| .op 7 (some 26) (.iadr (.t 24) (.t 25) 1) <| .op 8 (some 27) (.ld (.lf (.int .i64)) (.t 26)) <| .op 9 (some 28) (.mov (.t 3)) <| .op 10 (some 29) (.bin .eql .i64 (.t 27) (.t 28)) <| .nil) 11 30 (.t 29) <| .op 12 (some 31) (.mov (.t 30)) <| .grp 31 true (.op 13 (some 32) (.mov (.t 0)) <| .op 14 (some 33) (.mov (.t 5)) <| .op 15 (some 34) (.iadr (.t 32) (.t 33) 1) <| .op 16 (some 35) (.ld (.lf .sl) (.t 34)) <| .op 17 (some 36) (.mov (.t 3)) <| .op 18 (some 37) (.iadr (.t 35) (.t 36) 1) <| .op 19 (some 38) (.ld (.lf (.int .i64)) (.t 37)) <| .op 20 (some 39) (.mov (.t 3)) <| .op 21 (some 40) (.bin .eql .i64 (.t 38) (.t 39)) <| .nil) 22 41 (.t 40) <| .op 23 (some 4) (.mov (.t 41)) <| .nil) <|
  .reg (.op 0 (some 42) (.bin .add .i64 (.t 16) (.c (.int .i64 1))) <| .op 1 (some 16) (.mov (.t 42)) <| .nil) <|
  .jump 2)
  (.reg (.op 0 (some 43) (.mov (.t 4)) <| .nil) <|
  .ite (.t 43)
  (.reg (.op 0 (some 44) (.mov (.t 3)) <| .op 1 (some 2) (.mov (.t 44)) <| .nil) <|
  .ret)
  (.reg (.op 0 (some 45) (.bin .add .i64 (.t 11) (.c (.int .i64 1))) <| .op 1 (some 11) (.mov (.t 45)) <| .nil) <|
  .jump 1))⟩]⟩
noncomputable def semigrouplaw14_awake_fn : Fn := ⟨0, [.tmp 0], [
 ⟨[], [.code 0],
  .reg (.op 0 (some 0) (.mov (.c (.bool false))) <| .nil) <|
  .reg (.op 0 (some 2) (.bsl 1 [(.int .i64 0), (.int .i64 0)] 2 [(0, 1, (.c (.int .i64 0))), (1, 1, (.c (.int .i64 1)))]) <| .op 1 (some 3) (.bsl 1 [(.int .i64 0), (.int .i64 0)] 2 [(0, 1, (.c (.int .i64 1))), (1, 1, (.c (.int .i64 0)))]) <| .op 2 (some 4) (.bsl 1 [(.sl ⟨none, 0⟩), (.sl ⟨none, 0⟩)] 2 [(0, 1, (.t 2)), (1, 1, (.t 3))]) <| .op 3 (some 1) (.mov (.t 4)) <| .nil) <|
  .reg (.op 0 (some 5) (.mov (.t 1)) <| .op 1 (some 6) (.call 8 [(.t 5)] true (.one (.lf (.int .i64)))) <| .op 2 (some 7) (.bin .eql .i64 (.t 6) (.c (.int .i64 0))) <| .op 3 (some 8) (.mov (.t 7)) <| .grp 8 true (.op 4 (some 9) (.mov (.t 1)) <| .op 5 (some 10) (.call 10 [(.t 9)] true (.one (.lf (.int .i64)))) <| .op 6 (some 11) (.bin .eql .i64 (.t 10) (.c (.int .i64 0))) <| .nil) 7 12 (.t 11) <| .op 8 (some 13) (.mov (.t 12)) <| .grp 13 true (.op 9 (some 14) (.mov (.t 1)) <| .op 10 (some 15) (.call 13 [(.t 14), (.c (.int .i64 1))] true (.one (.lf (.int .i64)))) <| .op 11 (some 16) (.bin .eql .i64 (.t 15) (.c (.int .i64 0))) <| .nil) 12 17 (.t 16) <| .op 13 (some 18) (.mov (.t 17)) <| .grp 18 true (.op 14 (some 19) (.mov (.t 1)) <| .op 15 (some 20) (.call 14 [(.t 19)] true (.one (.lf (.int .i64)))) <| .op 16 (some 21) (.bin .eql .i64 (.t 20) (.c (.int .i64 (-1)))) <| .nil) 17 22 (.t 21) <| .op 18 (some 0) (.mov (.t 22)) <| .nil) <|
  .ret⟩]⟩
noncomputable def mult_Power_fn : Fn := ⟨3, [.tmp 6], [
 ⟨[0, 1, 2], [.code 0],
  .reg (.op 0 (some 6) (.mov (.c (.int .i64 0))) <| .nil) <|
  .reg (.op 0 (some 7) (.mov (.t 0)) <| .op 1 (some 8) (.call 8 [(.t 7)] true (.one (.lf (.int .i64)))) <| .op 2 (some 9) (.bin .neq .i64 (.t 8) (.c (.int .i64 0))) <| .op 3 (some 10) (.mov (.t 9)) <| .grp 10 false (.op 4 (some 11) (.mov (.t 1)) <| .op 5 (some 12) (.bin .lss .i64 (.t 11) (.c (.int .i64 0))) <| .nil) 6 13 (.t 12) <| .op 7 (some 14) (.mov (.t 13)) <| .grp 14 false (.op 8 (some 15) (.mov (.t 1)) <| .op 9 (some 16) (.mov (.t 0)) <| .op 10 (some 17) (.len (.t 16)) <| .op 11 (some 18) (.bin .geq .i64 (.t 15) (.t 17)) <| .nil) 12 19 (.t 18) <| .op 13 (some 20) (.mov (.t 19)) <| .grp 20 false (.op 14 (some 21) (.mov (.t 2)) <| .op 15 (some 22) (.bin .lss .i64 (.t 21) (.c (.int .i64 1))) <| .nil) 16 23 (.t 22) <| .nil) <|
  .ite (.t 23)
  (.reg (.op 0 (some 6) (.mov (.c (.int .i64 (-1)))) <| .nil) <|
  .ret)
  (.reg (.op 0 (some 24) (.mov (.t 0)) <| .op 1 (some 25) (.mov (.t 1)) <| .op 2 (some 26) (.mov (.t 2)) <| .op 3 (some 27) (.call 12 [(.t 24), (.t 25), (.t 26)] true (.one (.lf (.int .i64)))) <| .op 4 (some 6) (.mov (.t 27)) <| .nil) <|
  .ret)⟩]⟩
noncomputable def mult_IndexPeriod_fn : Fn := ⟨2, [.tmp 4, .tmp 5], [
 ⟨[0, 1], [.code 0],
  .reg (.op 0 (some 4) (.mov (.c (.int .i64 0))) <| .op 1 (some 5) (.mov (.c (.int .i64 0))) <| .nil) <|
  .reg (.op 0 (some 6) (.mov (.t 0)) <| .op 1 (some 7) (.call 8 [(.t 6)] true (.one (.lf (.int .i64)))) <| .op 2 (some 8) (.bin .neq .i64 (.t 7) (.c (.int .i64 0))) <| .op 3 (some 9) (.mov (.t 8)) <| .grp 9 false (.op 4 (some 10) (.mov (.t 1)) <| .op 5 (some 11) (.bin .lss .i64 (.t 10) (.c (.int .i64 0))) <| .nil) 6 12 (.t 11) <| .op 7 (some 13) (.mov (.t 12)) <| .grp 13 false (.op 8 (some 14) (.mov (.t 1)) <| .op 9 (some 15) (.mov (.t 0)) <| .op 10 (some 16) (.len (.t 15)) <| .op 11 (some 17) (.bin .geq .i64 (.t 14) (.t 16)) <| .nil) 12 18 (.t 17) <| .nil) <|
  .ite (.t 18)
  (.reg (.op 0 (some 4) (.mov (.c (.int .i64 0))) <| .op 1 (some 5) (.mov (.c (.int .i64 0))) <| .nil) <|
  .ret)
  (.reg (.op 0 (some 19) (.mov (.t 0)) <| .op 1 (some 20) (.mov (.t 1)) <| .op 2 (some 21) (.call 11 [(.t 19), (.t 20)] true (.tup [(.lf (.int .i64)), (.lf (.int .i64))])) <| .op 3 (some 22) (.ext (.t 21) 0) <| .op 4 (some 23) (.ext (.t 21) 1) <| .op 5 (some 4) (.mov (.t 22)) <| .op 6 (some 5) (.mov (.t 23)) <| .nil) <|
  .ret)⟩]⟩
noncomputable def semigrouplaw14_MultExponents_fn : Fn := ⟨4, [.tmp 8], [
 ⟨[0, 1, 2, 3], [.code 0],
  .reg (.op 0 (some 8) (.mov (.c (.bool false))) <| .nil) <|
  .reg (.op 0 (some 16) (.mov (.t 0)) <| .op 1 (some 17) (.call 4 [(.t 16), (.c (.int .i64 20))] true (.one (.lf .bool))) <| .op 2 (some 18) (.not (.t 17)) <| .op 3 (some 19) (.mov (.t 18)) <| .grp 19 false (.op 4 (some 20) (.mov (.t 0)) <| .op 5 (some 21) (.mov (.t 1)) <| .op 6 (some 22) (.bsl 1 [(.int .i64 0)] 1 [(0, 1, (.t 21))]) <| .op 7 (some 23) (.call 5 [(.t 20), (.t 22)] true (.one (.lf .bool))) <| .op 8 (some 24) (.not (.t 23)) <| .nil) 9 25 (.t 24) <| .nil) <|
  .ite (.t 25)
  (.reg (.op 0 (some 26) (.call 15 [] true (.one (.lf .bool))) <| .op 1 (some 8) (.mov (.t 26)) <| .nil) <|
  .ret)
  (.reg (.op 0 (some 27) (.mov (.t 2)) <| .op 1 (some 28) (.conv .u8 .i64 (.t 27)) <| .op 2 (some 29) (.bin .add .i64 (.c (.int .i64 1)) (.t 28)) <| .op 3 (some 30) (.mov (.t 3)) <| .op 4 (some 31) (.conv .u8 .i64 (.t 30)) <| .op 5 (some 32) (.bin .add .i64 (.c (.int .i64 1)) (.t 31)) <| .op 6 (some 9) (.mov (.t 29)) <| .op 7 (some 10) (.mov (.t 32)) <| .nil) <|
  .reg (.op 0 (some 33) (.mov (.t 0)) <| .op 1 (some 34) (.mov (.t 1)) <| .op 2 (some 35) (.mov (.t 9)) <| .op 3 (some 36) (.call 16 [(.t 33), (.t 34), (.t 35)] true (.one (.lf (.int .i64)))) <| .op 4 (some 37) (.mov (.t 0)) <| .op 5 (some 38) (.mov (.t 1)) <| .op 6 (some 39) (.mov (.t 10)) <| .op 7 (some 40) (.call 16 [(.t 37), (.t 38), (.t 39)] true (.one (.lf (.int .i64)))) <| .op 8 (some 11) (.mov (.t 36)) <| .op 9 (some 12) (.mov (.t 40)) <| .nil) <|
  .reg (.op 0 (some 41) (.mov (.t 0)) <| .op 1 (some 42) (.mov (.t 11)) <| .op 2 (some 43) (.mov (.t 12)) <| .op 3 (some 44) (.bsl 1 [(.int .i64 0), (.int .i64 0)] 2 [(0, 1, (.t 42)), (1, 1, (.t 43))]) <| .op 4 (some 45) (.call 5 [(.t 41), (.t 44)] true (.one (.lf .bool))) <| .op 5 (some 46) (.not (.t 45)) <| .op 6 (some 47) (.mov (.t 46)) <| .grp 47 false (.op 7 (some 48) (.mov (.t 0)) <| .op 8 (some 49) (.mov (.t 11)) <| .op 9 (some 50) (.iadr (.t 48) (.t 49) 1) <| .op 10 (some 51) (.ld (.lf .sl) (.t 50)) <| .op 11 (some 52) (.mov (.t 12)) <| .op 12 (some 53) (.iadr (.t 51) (.t 52) 1) <| .op 13 (some 54) (.ld (.lf (.int .i64)) (.t 53)) <| .op 14 (some 55) (.mov (.t 0)) <| .op 15 (some 56) (.mov (.t 1)) <| .op 16 (some 57) (.mov (.t 9)) <| .op 17 (some 58) (.mov (.t 10)) <| .op 18 (some 59) (.bin .add .i64 (.t 57) (.t 58)) <| .op 19 (some 60) (.call 16 [(.t 55), (.t 56), (.t 59)] true (.one (.lf (.int .i64)))) <| .op 20 (some 61) (.bin .neq .i64 (.t 54) (.t 60)) <| .nil) 21 62 (.t 61) <| .op 22 (some 63) (.mov (.t 62)) <| .grp 63 false (.op 23 (some 64) (.mov (.t 0)) <| .op 24 (some 65) (.mov (.t 11)) <| .op 25 (some 66) (.mov (.t 10)) <| .op 26 (some 67) (.call 16 [(.t 64), (.t 65), (.t 66)] true (.one (.lf (.int .i64)))) <| .op 27 (some 68) (.mov (.t 0)) <| .op 28 (some 69) (.mov (.t 1)) <| .op 29 (some 70) (.mov (.t 9)) <| .op 30 (some 71) (.mov (.t 10)) <| .op 31 (some 72) (.bin .mul .i64 (.t 70) (.t 71)) <| .op 32 (some 73) (.call 16 [(.t 68), (.t 69), (.t 72)] true (.one (.lf (.int .i64)))) <| .op 33 (some 74) (.bin .neq .i64 (.t 67) (.t 73)) <| .nil) 34 75 (.t 74) <| .nil) <|
  .ite (.t 75)
  (.reg (.op 0 (some 8) (.mov (.c (.bool false))) <| .nil) <|
  .ret)
  (.reg (.op 0 (some 77) (.mov (.t 0)) <| .op 1 (some 78) (.mov (.t 1)) <| .op 2 (some 79) (.call 17 [(.t 77), (.t 78)] true (.tup [(.lf (.int .i64)), (.lf (.int .i64))])) <| .op 3 (some 76) (.mov (.t 79)) <| .op 4 (some 80) (.ext (.t 76) 0) <| .op 5 (some 81) (.ext (.t 76) 1) <| .op 6 (some 13) (.mov (.t 80)) <| .op 7 (some 14) (.mov (.t 81)) <| .nil) <|
  .reg (.op 0 (some 82) (.mov (.t 0)) <| .op 1 (some 83) (.mov (.t 1)) <| .op 2 (some 84) (.call 13 [(.t 82), (.t 83)] true (.one (.lf (.int .i64)))) <| .op 3 (some 15) (.mov (.t 84)) <| .nil) <|
  .reg (.op 0 (some 85) (.mov (.t 13)) <| .op 1 (some 86) (.bin .gtr .i64 (.t 85) (.c (.int .i64 0))) <| .op 2 (some 87) (.mov (.t 86)) <| .grp 87 true (.op 3 (some 88) (.mov (.t 14)) <| .op 4 (some 89) (.bin .gtr .i64 (.t 88) (.c (.int .i64 0))) <| .nil) 5 90 (.t 89) <| .op 6 (some 91) (.mov (.t 90)) <| .grp 91 true (.op 7 (some 92) (.mov (.t 0)) <| .op 8 (some 93) (.mov (.t 1)) <| .op 9 (some 94) (.mov (.t 13)) <| .op 10 (some 95) (.mov (.t 9)) <| .op 11 (some 96) (.bin .add .i64 (.t 94) (.t 95)) <| .op 12 (some 97) (.call 16 [(.t 92), (.t 93), (.t 96)] true (.one (.lf (.int .i64)))) <| .op 13 (some 98) (.mov (.t 0)) <| .op 14 (some 99) (.mov (.t 1)) <| .op 15 (some 100) (.mov (.t 13)) <| .op 16 (some 101) (.mov (.t 9)) <| .op 17 (some 102) (.bin .add .i64 (.t 100) (.t 101)) <| .op 18 (some 103) (.mov (.t 14)) <| .op 19 (some 104) (.bin .add .i64 (.t 102) (.t 103)) <| .op 20 (some 105) (.call 16 [(.t 98), (.t 99), (.t 104)] true (.one (.lf (.int .i64)))) <| .op 21 (some 106) (.bin .eql .i64 (.t 97) (.t 105)) <| .nil) 22 107 (.t 106) <| .op 23 (some 108) (.mov (.t 107)) <| .grp 108 true (.op 24 (some 109) (.mov (.t 0)) <| .op 25 (some 110) (.mov (.t 15)) <| .op 26 (some 111) (.bsl 1 [(.int .i64 0)] 1 [(0, 1, (.t 110))]) <| .op 27 (some 112) (.call 5 [(.t 109), (.t 111)] true (.one (.lf .bool))) <| .nil) 28 113 (.t 112) <| .op 29 (some 114) (.mov (.t 113)) <| .grp 114 true (.op 30 (some 115) (.mov (.t 0)) <| .op 31 (some 116) (.mov (.t 15)) <| .op 32 (some 117) (.iadr (.t 115) (.t 116) 1) <| .op 33 (some 118) (.ld (.lf .sl) (.t 117)) <| .op 34 (some 119) (.mov (.t 15)) <| .op 35 (some 120) (.iadr (.t 118) (.t 119) 1) <| .op 36 (some 121) (.ld (.lf (.int .i64)) (.t 120)) <| .op 37 (some 122) (.mov (.t 15)) <| .op 38 (some 123) (.bin .eql .i64 (.t 121) (.t 122)) <| .nil) 39 124 (.t 123) <| .op 40 (some 125) (.mov (.t 124)) <| .grp 125 true (.op 41 (some 126) (.mov (.t 0)) <| .op 42 (some 127) (.mov (.t 15)) <| .op 43 (some 128) (.iadr (.t 126) (.t 127) 1) <| .op 44 (some 129) (.ld (.lf .sl) (.t 128)) <| .op 45 (some 130) (.mov (.t 1)) <| .op 46 (some 131) (.iadr (.t 129) (.t 130) 1) <| .op 47 (some 132) (.ld (.lf (.int .i64)) (.t 131)) <| .op 48 (some 133) (.mov (.t 0)) <| .op 49 (some 134) (.mov (.t 1)) <| .op 50 (some 135) (.iadr (.t 133) (.t 134) 1) <| .op 51 (some 136) (.ld (.lf .sl) (.t 135)) <| .op 52 (some 137) (.mov (.t 15)) <| .op 53 (some 138) (.iadr (.t 136) (.t 137) 1) <| .op 54 (some 139) (.ld (.lf (.int .i64)) (.t 138)) <| .op 55 (some 140) (.bin .eql .i64 (.t 132) (.t 139)) <| .nil) 56 141 (.t 140) <| .op 57 (some 142) (.mov (.t 141)) <| .grp 142 true (.op 58 (some 143) (.mov (.t 0)) <| .op 59 (some 144) (.mov (.t 1)) <| .op 60 (some 145) (.mov (.t 13)) <| .op 61 (some 146) (.mov (.t 14)) <| .op 62 (some 147) (.bin .mul .i64 (.t 145) (.t 146)) <| .op 63 (some 148) (.call 16 [(.t 143), (.t 144), (.t 147)] true (.one (.lf (.int .i64)))) <| .op 64 (some 149) (.mov (.t 15)) <| .op 65 (some 150) (.bin .eql .i64 (.t 148) (.t 149)) <| .nil) 66 151 (.t 150) <| .op 67 (some 152) (.mov (.t 151)) <| .grp 152 true (.op 68 (some 153) (.call 15 [] true (.one (.lf .bool))) <| .nil) 69 154 (.t 153) <| .op 70 (some 8) (.mov (.t 154)) <| .nil) <|
  .ret))⟩]⟩
noncomputable def G : Pg := [semigroupref14_Shape_fn, semigroupref14_Associative_fn, semigroupref14_Validate_fn, semigroupref14_Valid_fn, semigrouplaw14_small_fn, semigroupref14_In_fn, mult_shape_fn, mult_failing_fn, mult_Validate_fn, mult_identity_fn, mult_Identity_fn, mult_indexPeriod_fn, mult_power_fn, mult_Omega_fn, mult_Zero_fn, semigrouplaw14_awake_fn, mult_Power_fn, mult_IndexPeriod_fn, semigrouplaw14_MultExponents_fn]
noncomputable def semigroupref14_Shape_r {ρ : Type} (κ : Int → AH → Option ρ) (v : AV) (H : AH) : Option ρ := castTy (.one (.lf (.int .i64))) v fun v' => match v' with | .int _ r0 => κ r0 H | _ => none
noncomputable def semigroupref14_Shape {ρ : Type} (k : Nat) (x0 : Sl) (lo : Nat) (H : AH) (κ : Int → AH → Option ρ) : Option ρ := run G k ρ 0 0 [(.sl x0)] lo H (semigroupref14_Shape_r κ)
noncomputable def semigroupref14_Shape_1 {ρ : Type} (k : Nat) (x0 : Sl) (x13 : Sl) (x14 : Int) (x15 : Int) (lo : Nat) (H : AH) (κ : Int → AH → Option ρ) : Option ρ := run G k ρ 0 1 [(.sl x0), (.sl x13), (.int .i64 x14), (.int .i64 x15)] lo H (semigroupref14_Shape_r κ)
noncomputable def semigroupref14_Shape_2 {ρ : Type} (k : Nat) (x0 : Sl) (x13 : Sl) (x14 : Int) (x15 : Int) (x24 : Sl) (x25 : Int) (x26 : Int) (lo : Nat) (H : AH) (κ : Int → AH → Option ρ) : Option ρ := run G k ρ 0 2 [(.sl x0), (.sl x13), (.int .i64 x14), (.int .i64 x15), (.sl x24), (.int .i64 x25), (.int .i64 x26)] lo H (semigroupref14_Shape_r κ)
noncomputable def semigroupref14_Associative_r {ρ : Type} (κ : (Int × Int × Int × Int) → AH → Option ρ) (v : AV) (H : AH) : Option ρ := castTy (.tup [(.lf (.int .i64)), (.lf (.int .i64)), (.lf (.int .i64)), (.lf (.int .i64))]) v fun v' => match v' with | .tup [.int _ r0, .int _ r1, .int _ r2, .int _ r3] => κ (r0, r1, r2, r3) H | _ => none
noncomputable def semigroupref14_Associative {ρ : Type} (k : Nat) (x0 : Sl) (lo : Nat) (H : AH) (κ : (Int × Int × Int × Int) → AH → Option ρ) : Option ρ := run G k ρ 1 0 [(.sl x0)] lo H (semigroupref14_Associative_r κ)
noncomputable def semigroupref14_Associative_1 {ρ : Type} (k : Nat) (x0 : Sl) (x16 : Int) (x17 : Int) (lo : Nat) (H : AH) (κ : (Int × Int × Int × Int) → AH → Option ρ) : Option ρ := run G k ρ 1 1 [(.sl x0), (.int .i64 x16), (.int .i64 x17)] lo H (semigroupref14_Associative_r κ)
noncomputable def semigroupref14_Associative_2 {ρ : Type} (k : Nat) (x0 : Sl) (x7 : Int) (x16 : Int) (x17 : Int) (x21 : Int) (x22 : Int) (lo : Nat) (H : AH) (κ : (Int × Int × Int × Int) → AH → Option ρ) : Option ρ := run G k ρ 1 2 [(.sl x0), (.int .i64 x7), (.int .i64 x16), (.int .i64 x17), (.int .i64 x21), (.int .i64 x22)] lo H (semigroupref14_Associative_r κ)
noncomputable def semigroupref14_Associative_3 {ρ : Type} (k : Nat) (x0 : Sl) (x7 : Int) (x8 : Int) (x16 : Int) (x17 : Int) (x21 : Int) (x22 : Int) (x26 : Int) (x27 : Int) (lo : Nat) (H : AH) (κ : (Int × Int × Int × Int) → AH → Option ρ) : Option ρ := run G k ρ 1 3 [(.sl x0), (.int .i64 x7), (.int .i64 x8), (.int .i64 x16), (.int .i64 x17), (.int .i64 x21), (.int .i64 x22), (.int .i64 x26), (.int .i64 x27)] lo H (semigroupref14_Associative_r κ)
noncomputable def semigroupref14_Validate_r {ρ : Type} (κ : Int → AH → Option ρ) (v : AV) (H : AH) : Option ρ := castTy (.one (.lf (.int .i64))) v fun v' => match v' with | .int _ r0 => κ r0 H | _ => none
noncomputable def semigroupref14_Validate {ρ : Type} (k : Nat) (x0 : Sl) (lo : Nat) (H : AH) (κ : Int → AH → Option ρ) : Option ρ := run G k ρ 2 0 [(.sl x0)] lo H (semigroupref14_Validate_r κ)
noncomputable def semigroupref14_Valid_r {ρ : Type} (κ : Bool → AH → Option ρ) (v : AV) (H : AH) : Option ρ := castTy (.one (.lf .bool)) v fun v' => match v' with | .bool r0 => κ r0 H | _ => none
noncomputable def semigroupref14_Valid {ρ : Type} (k : Nat) (x0 : Sl) (lo : Nat) (H : AH) (κ : Bool → AH → Option ρ) : Option ρ := run G k ρ 3 0 [(.sl x0)] lo H (semigroupref14_Valid_r κ)
noncomputable def semigrouplaw14_small_r {ρ : Type} (κ : Bool → AH → Option ρ) (v : AV) (H : AH) : Option ρ := castTy (.one (.lf .bool)) v fun v' => match v' with | .bool r0 => κ r0 H | _ => none
noncomputable def semigrouplaw14_small {ρ : Type} (k : Nat) (x0 : Sl) (x1 : Int) (lo : Nat) (H : AH) (κ : Bool → AH → Option ρ) : Option ρ := run G k ρ 4 0 [(.sl x0), (.int .i64 x1)] lo H (semigrouplaw14_small_r κ)
noncomputable def semigroupref14_In_r {ρ : Type} (κ : Bool → AH → Option ρ) (v : AV) (H : AH) : Option ρ := castTy (.one (.lf .bool)) v fun v' => match v' with | .bool r0 => κ r0 H | _ => none
noncomputable def semigroupref14_In {ρ : Type} (k : Nat) (x0 : Sl) (x1 : Sl) (lo : Nat) (H : AH) (κ : Bool → AH → Option ρ) : Option ρ := run G k ρ 5 0 [(.sl x0), (.sl x1)] lo H (semigroupref14_In_r κ)
noncomputable def semigroupref14_In_1 {ρ : Type} (k : Nat) (x0 : Sl) (x7 : Sl) (x8 : Int) (x9 : Int) (lo : Nat) (H : AH) (κ : Bool → AH → Option ρ) : Option ρ := run G k ρ 5 1 [(.sl x0), (.sl x7), (.int .i64 x8), (.int .i64 x9)] lo H (semigroupref14_In_r κ)
noncomputable def mult_shape_r {ρ : Type} (κ : Int → AH → Option ρ) (v : AV) (H : AH) : Option ρ := castTy (.one (.lf (.int .i64))) v fun v' => match v' with | .int _ r0 => κ r0 H | _ => none
noncomputable def mult_shape {ρ : Type} (k : Nat) (x0 : Sl) (lo : Nat) (H : AH) (κ : Int → AH → Option ρ) : Option ρ := run G k ρ 6 0 [(.sl x0)] lo H (mult_shape_r κ)
noncomputable def mult_shape_1 {ρ : Type} (k : Nat) (x0 : Sl) (x15 : Sl) (x16 : Int) (x17 : Int) (lo : Nat) (H : AH) (κ : Int → AH → Option ρ) : Option ρ := run G k ρ 6 1 [(.sl x0), (.sl x15), (.int .i64 x16), (.int .i64 x17)] lo H (mult_shape_r κ)
noncomputable def mult_shape_2 {ρ : Type} (k : Nat) (x0 : Sl) (x15 : Sl) (x16 : Int) (x17 : Int) (x26 : Sl) (x27 : Int) (x28 : Int) (lo : Nat) (H : AH) (κ : Int → AH → Option ρ) : Option ρ := run G k ρ 6 2 [(.sl x0), (.sl x15), (.int .i64 x16), (.int .i64 x17), (.sl x26), (.int .i64 x27), (.int .i64 x28)] lo H (mult_shape_r κ)
noncomputable def mult_failing_r {ρ : Type} (κ : (Int × Int × Int × Bool) → AH → Option ρ) (v : AV) (H : AH) : Option ρ := castTy (.tup [(.lf (.int .i64)), (.lf (.int .i64)), (.lf (.int .i64)), (.lf .bool)]) v fun v' => match v' with | .tup [.int _ r0, .int _ r1, .int _ r2, .bool r3] => κ (r0, r1, r2, r3) H | _ => none
noncomputable def mult_failing {ρ : Type} (k : Nat) (x0 : Sl) (lo : Nat) (H : AH) (κ : (Int × Int × Int × Bool) → AH → Option ρ) : Option ρ := run G k ρ 7 0 [(.sl x0)] lo H (mult_failing_r κ)
noncomputable def mult_failing_1 {ρ : Type} (k : Nat) (x0 : Sl) (x10 : Int) (x11 : Int) (lo : Nat) (H : AH) (κ : (Int × Int × Int × Bool) → AH → Option ρ) : Option ρ := run G k ρ 7 1 [(.sl x0), (.int .i64 x10), (.int .i64 x11)] lo H (mult_failing_r κ)
noncomputable def mult_failing_2 {ρ : Type} (k : Nat) (x0 : Sl) (x6 : Int) (x10 : Int) (x11 : Int) (x15 : Int) (x16 : Int) (lo : Nat) (H : AH) (κ : (Int × Int × Int × Bool) → AH → Option ρ) : Option ρ := run G k ρ 7 2 [(.sl x0), (.int .i64 x6), (.int .i64 x10), (.int .i64 x11), (.int .i64 x15), (.int .i64 x16)] lo H (mult_failing_r κ)
noncomputable def mult_failing_3 {ρ : Type} (k : Nat) (x0 : Sl) (x6 : Int) (x7 : Int) (x10 : Int) (x11 : Int) (x15 : Int) (x16 : Int) (x20 : Int) (x21 : Int) (lo : Nat) (H : AH) (κ : (Int × Int × Int × Bool) → AH → Option ρ) : Option ρ := run G k ρ 7 3 [(.sl x0), (.int .i64 x6), (.int .i64 x7), (.int .i64 x10), (.int .i64 x11), (.int .i64 x15), (.int .i64 x16), (.int .i64 x20), (.int .i64 x21)] lo H (mult_failing_r κ)
noncomputable def mult_Validate_r {ρ : Type} (κ : Int → AH → Option ρ) (v : AV) (H : AH) : Option ρ := castTy (.one (.lf (.int .i64))) v fun v' => match v' with | .int _ r0 => κ r0 H | _ => none
noncomputable def mult_Validate {ρ : Type} (k : Nat) (x0 : Sl) (lo : Nat) (H : AH) (κ : Int → AH → Option ρ) : Option ρ := run G k ρ 8 0 [(.sl x0)] lo H (mult_Validate_r κ)
noncomputable def mult_identity_r {ρ : Type} (κ : Int → AH → Option ρ) (v : AV) (H : AH) : Option ρ := castTy (.one (.lf (.int .i64))) v fun v' => match v' with | .int _ r0 => κ r0 H | _ => none
noncomputable def mult_identity {ρ : Type} (k : Nat) (x0 : Sl) (lo : Nat) (H : AH) (κ : Int → AH → Option ρ) : Option ρ := run G k ρ 9 0 [(.sl x0)] lo H (mult_identity_r κ)
noncomputable def mult_identity_1 {ρ : Type} (k : Nat) (x0 : Sl) (x7 : Int) (x8 : Int) (lo : Nat) (H : AH) (κ : Int → AH → Option ρ) : Option ρ := run G k ρ 9 1 [(.sl x0), (.int .i64 x7), (.int .i64 x8)] lo H (mult_identity_r κ)
noncomputable def mult_identity_2 {ρ : Type} (k : Nat) (x0 : Sl) (x3 : Int) (x4 : Bool) (x7 : Int) (x8 : Int) (x12 : Int) (x13 : Int) (lo : Nat) (H : AH) (κ : Int → AH → Option ρ) : Option ρ := run G k ρ 9 2 [(.sl x0), (.int .i64 x3), (.bool x4), (.int .i64 x7), (.int .i64 x8), (.int .i64 x12), (.int .i64 x13)] lo H (mult_identity_r κ)
noncomputable def mult_Identity_r {ρ : Type} (κ : Int → AH → Option ρ) (v : AV) (H : AH) : Option ρ := castTy (.one (.lf (.int .i64))) v fun v' => match v' with | .int _ r0 => κ r0 H | _ => none
noncomputable def mult_Identity {ρ : Type} (k : Nat) (x0 : Sl) (lo : Nat) (H : AH) (κ : Int → AH → Option ρ) : Option ρ := run G k ρ 10 0 [(.sl x0)] lo H (mult_Identity_r κ)
noncomputable def mult_indexPeriod_r {ρ : Type} (κ : (Int × Int) → AH → Option ρ) (v : AV) (H : AH) : Option ρ := castTy (.tup [(.lf (.int .i64)), (.lf (.int .i64))]) v fun v' => match v' with | .tup [.int _ r0, .int _ r1] => κ (r0, r1) H | _ => none
noncomputable def mult_indexPeriod {ρ : Type} (k : Nat) (x0 : Sl) (x1 : Int) (lo : Nat) (H : AH) (κ : (Int × Int) → AH → Option ρ) : Option ρ := run G k ρ 11 0 [(.sl x0), (.int .i64 x1)] lo H (mult_indexPeriod_r κ)
noncomputable def mult_indexPeriod_1 {ρ : Type} (k : Nat) (x0 : Sl) (x1 : Int) (x6 : Sl) (x7 : Int) (x8 : Int) (lo : Nat) (H : AH) (κ : (Int × Int) → AH → Option ρ) : Option ρ := run G k ρ 11 1 [(.sl x0), (.int .i64 x1), (.sl x6), (.int .i64 x7), (.int .i64 x8)] lo H (mult_indexPeriod_r κ)
noncomputable def mult_power_r {ρ : Type} (κ : Int → AH → Option ρ) (v : AV) (H : AH) : Option ρ := castTy (.one (.lf (.int .i64))) v fun v' => match v' with | .int _ r0 => κ r0 H | _ => none
noncomputable def mult_power {ρ : Type} (k : Nat) (x0 : Sl) (x1 : Int) (x2 : Int) (lo : Nat) (H : AH) (κ : Int → AH → Option ρ) : Option ρ := run G k ρ 12 0 [(.sl x0), (.int .i64 x1), (.int .i64 x2)] lo H (mult_power_r κ)
noncomputable def mult_power_1 {ρ : Type} (k : Nat) (x0 : Sl) (x1 : Int) (x2 : Int) (x7 : Int) (lo : Nat) (H : AH) (κ : Int → AH → Option ρ) : Option ρ := run G k ρ 12 1 [(.sl x0), (.int .i64 x1), (.int .i64 x2), (.int .i64 x7)] lo H (mult_power_r κ)
noncomputable def mult_power_2 {ρ : Type} (k : Nat) (x0 : Sl) (x1 : Int) (x2 : Int) (x7 : Int) (lo : Nat) (H : AH) (κ : Int → AH → Option ρ) : Option ρ := run G k ρ 12 2 [(.sl x0), (.int .i64 x1), (.int .i64 x2), (.int .i64 x7)] lo H (mult_power_r κ)
noncomputable def mult_Omega_r {ρ : Type} (κ : Int → AH → Option ρ) (v : AV) (H : AH) : Option ρ := castTy (.one (.lf (.int .i64))) v fun v' => match v' with | .int _ r0 => κ r0 H | _ => none
noncomputable def mult_Omega {ρ : Type} (k : Nat) (x0 : Sl) (x1 : Int) (lo : Nat) (H : AH) (κ : Int → AH → Option ρ) : Option ρ := run G k ρ 13 0 [(.sl x0), (.int .i64 x1)] lo H (mult_Omega_r κ)
noncomputable def mult_Zero_r {ρ : Type} (κ : Int → AH → Option ρ) (v : AV) (H : AH) : Option ρ := castTy (.one (.lf (.int .i64))) v fun v' => match v' with | .int _ r0 => κ r0 H | _ => none
noncomputable def mult_Zero {ρ : Type} (k : Nat) (x0 : Sl) (lo : Nat) (H : AH) (κ : Int → AH → Option ρ) : Option ρ := run G k ρ 14 0 [(.sl x0)] lo H (mult_Zero_r κ)
noncomputable def mult_Zero_1 {ρ : Type} (k : Nat) (x0 : Sl) (x10 : Int) (x11 : Int) (lo : Nat) (H : AH) (κ : Int → AH → Option ρ) : Option ρ := run G k ρ 14 1 [(.sl x0), (.int .i64 x10), (.int .i64 x11)] lo H (mult_Zero_r κ)
noncomputable def mult_Zero_2 {ρ : Type} (k : Nat) (x0 : Sl) (x3 : Int) (x4 : Bool) (x10 : Int) (x11 : Int) (x15 : Int) (x16 : Int) (lo : Nat) (H : AH) (κ : Int → AH → Option ρ) : Option ρ := run G k ρ 14 2 [(.sl x0), (.int .i64 x3), (.bool x4), (.int .i64 x10), (.int .i64 x11), (.int .i64 x15), (.int .i64 x16)] lo H (mult_Zero_r κ)
noncomputable def semigrouplaw14_awake_r {ρ : Type} (κ : Bool → AH → Option ρ) (v : AV) (H : AH) : Option ρ := castTy (.one (.lf .bool)) v fun v' => match v' with | .bool r0 => κ r0 H | _ => none
noncomputable def semigrouplaw14_awake {ρ : Type} (k : Nat) (lo : Nat) (H : AH) (κ : Bool → AH → Option ρ) : Option ρ := run G k ρ 15 0 [] lo H (semigrouplaw14_awake_r κ)
noncomputable def mult_Power_r {ρ : Type} (κ : Int → AH → Option ρ) (v : AV) (H : AH) : Option ρ := castTy (.one (.lf (.int .i64))) v fun v' => match v' with | .int _ r0 => κ r0 H | _ => none
noncomputable def mult_Power {ρ : Type} (k : Nat) (x0 : Sl) (x1 : Int) (x2 : Int) (lo : Nat) (H : AH) (κ : Int → AH → Option ρ) : Option ρ := run G k ρ 16 0 [(.sl x0), (.int .i64 x1), (.int .i64 x2)] lo H (mult_Power_r κ)
noncomputable def mult_IndexPeriod_r {ρ : Type} (κ : (Int × Int) → AH → Option ρ) (v : AV) (H : AH) : Option ρ := castTy (.tup [(.lf (.int .i64)), (.lf (.int .i64))]) v fun v' => match v' with | .tup [.int _ r0, .int _ r1] => κ (r0, r1) H | _ => none
noncomputable def mult_IndexPeriod {ρ : Type} (k : Nat) (x0 : Sl) (x1 : Int) (lo : Nat) (H : AH) (κ : (Int × Int) → AH → Option ρ) : Option ρ := run G k ρ 17 0 [(.sl x0), (.int .i64 x1)] lo H (mult_IndexPeriod_r κ)
noncomputable def semigrouplaw14_MultExponents_r {ρ : Type} (κ : Bool → AH → Option ρ) (v : AV) (H : AH) : Option ρ := castTy (.one (.lf .bool)) v fun v' => match v' with | .bool r0 => κ r0 H | _ => none
noncomputable def semigrouplaw14_MultExponents {ρ : Type} (k : Nat) (x0 : Sl) (x1 : Int) (x2 : Int) (x3 : Int) (lo : Nat) (H : AH) (κ : Bool → AH → Option ρ) : Option ρ := run G k ρ 18 0 [(.sl x0), (.int .i64 x1), (.int .u8 x2), (.int .u8 x3)] lo H (semigrouplaw14_MultExponents_r κ)
end Go.Ab
