/- The functions that GreenInverts reaches, in labelled pieces, and what each asks of the evaluator. Printed. -/
import Derived.Test.YtmdndoghdbhipaaAbA1
set_option linter.unusedVariables false
namespace Go.Ab
noncomputable def semigroupref14_Shape_fn : Fn := ⟨1, [.tmp 2], [
 ⟨[0], [.code 0],
  .reg (.op 0 (some 2) (.mov (.c (.int .i64 0))) <| .nil) <|
  .reg (.op 0 (some 7) (.mov (.t 0)) <| .op 1 (some 8) (.len (.t 7)) <| .op 2 (some 9) (.bin .gtr .i64 (.t 8) (.c (.int .i64 400))) <| .nil) <|
  .ite (.t 9)
  (.reg (.op 0 (some 2) (.mov (.c (.int .i64 3))) <| .nil) <|
  .ret)
  (.reg (.op 0 (some 10) (.mov (.t 0)) <| .op 1 (some 11) (.len (.t 10)) <| .op 2 (some 12) (.bin .eql .i64 (.t 11) (.c (.int .i64 0))) <| .nil) <|
  .ite (.t 12)
  (.reg (.op 0 (some 2) (.mov (.c (.int .i64 4))) <| .nil) <|
  .ret)
  (.reg (.op 0 (some 13) (.mov (.t 0)) <| .op 1 (some 14) (.len (.t 13)) <| .op 2 (some 15) (.mov (.c (.int .i64 0))) <| .nil) <|
  .jump 1))⟩,
 ⟨[0, 13, 14, 15], [.code 24, .code 25, .inLoop 22, .inBlock 21, .code 64],
  .reg (.op 0 (some 16) (.bin .lss .i64 (.t 15) (.t 14)) <| .nil) <|
  .ite (.t 16)
  (.reg (.op 0 (some 17) (.iadr (.t 13) (.t 15) 1) <| .op 1 (some 18) (.ld (.lf .sl) (.t 17)) <| .op 2 (some 4) (.mov (.t 18)) <| .nil) <|
  .reg (.op 0 (some 19) (.mov (.t 4)) <| .op 1 (some 20) (.len (.t 19)) <| .op 2 (some 21) (.mov (.t 0)) <| .op 3 (some 22) (.len (.t 21)) <| .op 4 (some 23) (.bin .neq .i64 (.t 20) (.t 22)) <| .nil) <|
  .ite (.t 23)
  (.reg (.op 0 (some 2) (.mov (.c (.int .i64 4))) <| .nil) <|
  .ret)
  (.reg (.op 0 (some 24) (.mov (.t 4)) <| .op 1 (some 25) (.len (.t 24)) <| .op 2 (some 26) (.mov (.c (.int .i64 0))) <| .nil) <|
  .jump 2))
  (.reg (.op 0 (some 2) (.mov (.c (.int .i64 0))) <| .nil) <|
  .ret)⟩,
 ⟨[0, 13, 14, 15, 24, 25, 26], [.code 46, .code 47, .inLoop 44, .inBlock 43, .inBlock 30, .code 63, .inLoop 22, .inBlock 21, .code 64],
  .reg (.op 0 (some 27) (.bin .lss .i64 (.t 26) (.t 25)) <| .nil) <|
  .ite (.t 27)
  (.reg (.op 0 (some 28) (.iadr (.t 24) (.t 26) 1) <| .op 1 (some 29) (.ld (.lf (.int .i64)) (.t 28)) <| .op 2 (some 6) (.mov (.t 29)) <| .nil) <|
  .reg (.op 0 (some 30) (.mov (.t 6)) <| .op 1 (some 31) (.bin .lss .i64 (.t 30) (.c (.int .i64 0))) <| .op 2 (some 32) (.mov (.t 31)) <| .grp 32 false (.op 3 (some 33) (.mov (.t 6)) <| .op 4 (some 34) (.mov (.t 0)) <| .op 5 (some 35) (.len (.t 34)) <| .op 6 (some 36) (.bin .geq .i64 (.t 33) (.t 35)) <| .nil) 7 37 (.t 36) <| .nil) <|
  .ite (.t 37)
  (.reg (.op 0 (some 2) (.mov (.c (.int .i64 4))) <| .nil) <|
  .ret)
  (.reg (.op 0 (some 38) (.bin .add .i64 (.t 26) (.c (.int .i64 1))) <| .op 1 (some 26) (.mov (.t 38)) <| .nil) <|
  .jump 2))
  (.reg (.op 0 (some 39) (.bin .add .i64 (.t 15) (.c (.int .i64 1))) <| .op 1 (some 15) (.mov (.t 39)) <| .nil) <|
  .jump 1)⟩]⟩
noncomputable def semigroupref14_Associative_fn : Fn := ⟨1, [.tmp 2, .tmp 3, .tmp 4, .tmp 5], [
 ⟨[0], [.code 0],
  .reg (.op 0 (some 2) (.mov (.c (.int .i64 0))) <| .op 1 (some 3) (.mov (.c (.int .i64 0))) <| .op 2 (some 4) (.mov (.c (.int .i64 0))) <| .op 3 (some 5) (.mov (.c (.int .i64 0))) <| .nil) <|
  .reg (.op 0 (some 10) (.mov (.t 0)) <| .op 1 (some 11) (.call 0 [(.t 10)] true (.one (.lf (.int .i64)))) <| .op 2 (some 6) (.mov (.t 11)) <| .nil) <|
  .reg (.op 0 (some 12) (.mov (.t 6)) <| .op 1 (some 13) (.bin .neq .i64 (.t 12) (.c (.int .i64 0))) <| .nil) <|
  .ite (.t 13)
  (.reg (.op 0 (some 14) (.mov (.t 6)) <| .op 1 (some 2) (.mov (.c (.int .i64 0))) <| .op 2 (some 3) (.mov (.c (.int .i64 0))) <| .op 3 (some 4) (.mov (.c (.int .i64 0))) <| .op 4 (some 5) (.mov (.t 14)) <| .nil) <|
  .ret)
  (.reg (.op 0 (some 15) (.mov (.t 0)) <| .op 1 (some 16) (.len (.t 15)) <| .op 2 (some 17) (.mov (.c (.int .i64 0))) <| .nil) <|
  .jump 1)⟩,
 ⟨[0, 16, 17], [.code 18, .code 19, .inLoop 16, .inBlock 15, .code 65],
  .reg (.op 0 (some 18) (.bin .lss .i64 (.t 17) (.t 16)) <| .nil) <|
  .ite (.t 18)
  (.reg (.op 0 (some 19) (.mov (.t 17)) <| .op 1 (some 7) (.mov (.t 19)) <| .nil) <|
  .reg (.op 0 (some 20) (.mov (.t 0)) <| .op 1 (some 21) (.len (.t 20)) <| .op 2 (some 22) (.mov (.c (.int .i64 0))) <| .nil) <|
  .jump 2)
  (.reg (.op 0 (some 2) (.mov (.c (.int .i64 0))) <| .op 1 (some 3) (.mov (.c (.int .i64 0))) <| .op 2 (some 4) (.mov (.c (.int .i64 0))) <| .op 3 (some 5) (.mov (.c (.int .i64 0))) <| .nil) <|
  .ret)⟩,
 ⟨[0, 7, 16, 17, 21, 22], [.code 32, .code 33, .inLoop 30, .inBlock 29, .inBlock 24, .code 64, .inLoop 16, .inBlock 15, .code 65],
  .reg (.op 0 (some 23) (.bin .lss .i64 (.t 22) (.t 21)) <| .nil) <|
  .ite (.t 23)
  (.reg (.op 0 (some 24) (.mov (.t 22)) <| .op 1 (some 8) (.mov (.t 24)) <| .nil) <|
  .reg (.op 0 (some 25) (.mov (.t 0)) <| .op 1 (some 26) (.len (.t 25)) <| .op 2 (some 27) (.mov (.c (.int .i64 0))) <| .nil) <|
  .jump 3)
  (.reg (.op 0 (some 62) (.bin .add .i64 (.t 17) (.c (.int .i64 1))) <| .op 1 (some 17) (.mov (.t 62)) <| .nil) <|
  .jump 1)⟩,
 ⟨[0, 7, 8, 16, 17, 21, 22, 26, 27], [.code 46, .code 47, .inLoop 44, .inBlock 43, .inBlock 38, .code 63, .inLoop 30, .inBlock 29, .inBlock 24, .code 64, .inLoop 16, .inBlock 15, .code 65],
  .reg (.op 0 (some 28) (.bin .lss .i64 (.t 27) (.t 26)) <| .nil) <|
  .ite (.t 28)
  (.reg (.op 0 (some 29) (.mov (.t 27)) <| .op 1 (some 9) (.mov (.t 29)) <| .nil) <|
  .reg (.op 0 (some 30) (.mov (.t 0)) <| .op 1 (some 31) (.mov (.t 0)) <| .op 2 (some 32) (.mov (.t 7)) <| .op 3 (some 33) (.iadr (.t 31) (.t 32) 1) <| .op 4 (some 34) (.ld (.lf .sl) (.t 33)) <| .op 5 (some 35) (.mov (.t 8)) <| .op 6 (some 36) (.iadr (.t 34) (.t 35) 1) <| .op 7 (some 37) (.ld (.lf (.int .i64)) (.t 36)) <| .op 8 (some 38) (.iadr (.t 30) (.t 37) 1) <| .op 9 (some 39) (.ld (.lf .sl) (.t 38)) <| .op 10 (some 40) (.mov (.t 9)) <| .op 11 (some 41) (.iadr (.t 39) (.t 40) 1) <| .op 12 (some 42) (.ld (.lf (.int .i64)) (.t 41)) <| .op 13 (some 43) (.mov (.t 0)) <| .op 14 (some 44) (.mov (.t 7)) <| .op 15 (some 45) (.iadr (.t 43) (.t 44) 1) <| .op 16 (some 46) (.ld (.lf .sl) (.t 45)) <| .op 17 (some 47) (.mov (.t 0)) <| .op 18 (some 48) (.mov (.t 8)) <| .op 19 (some 49) (.iadr (.t 47) (.t 48) 1) <| .op 20 (some 50) (.ld (.lf .sl) (.t 49)) <| .op 21 (some 51) (.mov (.t 9)) <| .op 22 (some 52) (.iadr (.t 50) (.t 51) 1) <| .op 23 (some 53) (.ld (.lf (.int .i64)) (.t 52)) <| .op 24 (some 54) (.iadr (.t 46) (.t 53) 1) <| .op 25 (some 55) (.ld (.lf (.int .i64)) (.t 54)) <| .op 26 (some 56) (.bin .neq .i64 (.t 42) (.t 55)) <| .nil) <|
  .ite (.t 56)
  (.reg (.op 0 (some 57) (.mov (.t 7)) <| .op 1 (some 58) (.mov (.t 8)) <| .op 2 (some 59) (.mov (.t 9)) <| .op 3 (some 2) (.mov (.t 57)) <| .op 4 (some 3) (.mov (.t 58)) <| .op 5 (some 4) (.mov (.t 59)) <| .op 6 (some 5) (.mov (.c (.int .i64 5))) <| .nil) <|
  .ret)
  (.reg (.op 0 (some 60) (.bin .add .i64 (.t 27) (.c (.int .i64 1))) <| .op 1 (some 27) (.mov (.t 60)) <| .nil) <|
  .jump 3))
  (.reg (.op 0 (some 61) (.bin .add .i64 (.t 22) (.c (.int .i64 1))) <| .op 1 (some 22) (.mov (.t 61)) <| .nil) <|
  .jump 2)⟩]⟩
noncomputable def semigroupref14_Validate_fn : Fn := ⟨1, [.tmp 2], [
 ⟨[0], [.code 0],
  .reg (.op 0 (some 2) (.mov (.c (.int .i64 0))) <| .nil) <|
  .reg (.op 0 (some 8) (.mov (.t 0)) <| .op 1 (some 9) (.call 1 [(.t 8)] true (.tup [(.lf (.int .i64)), (.lf (.int .i64)), (.lf (.int .i64)), (.lf (.int .i64))])) <| .op 2 (some 7) (.mov (.t 9)) <| .op 3 (some 10) (.ext (.t 7) 0) <| .op 4 (some 11) (.ext (.t 7) 1) <| .op 5 (some 12) (.ext (.t 7) 2) <| .op 6 (some 13) (.ext (.t 7) 3) <| .op 7 (some 3) (.mov (.t 10)) <| .op 8 (some 4) (.mov (.t 11)) <| .op 9 (some 5) (.mov (.t 12)) <| .op 10 (some 6) (.mov (.t 13)) <| .nil) <|
  .reg (.op 0 (some 14) (.mov (.t 6)) <| .op 1 (some 2) (.mov (.t 14)) <| .nil) <|
  .ret⟩]⟩
noncomputable def semigroupref14_Valid_fn : Fn := ⟨1, [.tmp 2], [
 ⟨[0], [.code 0],
  .reg (.op 0 (some 2) (.mov (.c (.bool false))) <| .nil) <|
  .reg (.op 0 (some 3) (.mov (.t 0)) <| .op 1 (some 4) (.call 2 [(.t 3)] true (.one (.lf (.int .i64)))) <| .op 2 (some 5) (.bin .eql .i64 (.t 4) (.c (.int .i64 0))) <| .op 3 (some 2) (.mov (.t 5)) <| .nil) <|
  .ret⟩]⟩
noncomputable def semigrouplaw15_small_fn : Fn := ⟨2, [.tmp 4], [
 ⟨[0, 1], [.code 0],
  .reg (.op 0 (some 4) (.mov (.c (.bool false))) <| .nil) <|
  .reg (.op 0 (some 5) (.mov (.t 0)) <| .op 1 (some 6) (.len (.t 5)) <| .op 2 (some 7) (.mov (.t 1)) <| .op 3 (some 8) (.bin .leq .i64 (.t 6) (.t 7)) <| .op 4 (some 9) (.mov (.t 8)) <| .grp 9 true (.op 5 (some 10) (.mov (.t 0)) <| .op 6 (some 11) (.call 3 [(.t 10)] true (.one (.lf .bool))) <| .nil) 7 12 (.t 11) <| .op 8 (some 4) (.mov (.t 12)) <| .nil) <|
  .ret⟩]⟩
noncomputable def semigroupref14_In_fn : Fn := ⟨2, [.tmp 4], [
 ⟨[0, 1], [.code 0],
  .reg (.op 0 (some 4) (.mov (.c (.bool false))) <| .nil) <|
  .reg (.op 0 (some 7) (.mov (.t 1)) <| .op 1 (some 8) (.len (.t 7)) <| .op 2 (some 9) (.mov (.c (.int .i64 0))) <| .nil) <|
  .jump 1⟩,
 ⟨[0, 7, 8, 9], [.code 8, .code 9, .inLoop 6, .inBlock 5, .code 25],
  .reg (.op 0 (some 10) (.bin .lss .i64 (.t 9) (.t 8)) <| .nil) <|
  .ite (.t 10)
  (.reg (.op 0 (some 11) (.iadr (.t 7) (.t 9) 1) <| .op 1 (some 12) (.ld (.lf (.int .i64)) (.t 11)) <| .op 2 (some 6) (.mov (.t 12)) <| .nil) <|
  .reg (.op 0 (some 13) (.mov (.t 6)) <| .op 1 (some 14) (.bin .lss .i64 (.t 13) (.c (.int .i64 0))) <| .op 2 (some 15) (.mov (.t 14)) <| .grp 15 false (.op 3 (some 16) (.mov (.t 6)) <| .op 4 (some 17) (.mov (.t 0)) <| .op 5 (some 18) (.len (.t 17)) <| .op 6 (some 19) (.bin .geq .i64 (.t 16) (.t 18)) <| .nil) 7 20 (.t 19) <| .nil) <|
  .ite (.t 20)
  (.reg (.op 0 (some 4) (.mov (.c (.bool false))) <| .nil) <|
  .ret)
  (.reg (.op 0 (some 21) (.bin .add .i64 (.t 9) (.c (.int .i64 1))) <| .op 1 (some 9) (.mov (.t 21)) <| .nil) <|
  .jump 1))
  (.reg (.op 0 (some 4) (.mov (.c (.bool true))) <| .nil) <|
  .ret)⟩]⟩
noncomputable def semigrouplaw15_flip_fn : Fn := ⟨0, [.tmp 0], [
 ⟨[], [.code 0],
  .reg (.op 0 (some 0) (.mov (.c (.sl ⟨none, 0⟩))) <| .nil) <|
  .reg (.op 0 (some 1) (.bsl 1 [(.int .i64 0), (.int .i64 0), (.int .i64 0)] 3 [(0, 1, (.c (.int .i64 0))), (1, 1, (.c (.int .i64 1))), (2, 1, (.c (.int .i64 2)))]) <| .op 1 (some 2) (.bsl 1 [(.int .i64 0), (.int .i64 0), (.int .i64 0)] 3 [(0, 1, (.c (.int .i64 1))), (1, 1, (.c (.int .i64 0))), (2, 1, (.c (.int .i64 2)))]) <| .op 2 (some 3) (.bsl 1 [(.int .i64 0), (.int .i64 0), (.int .i64 0)] 3 [(0, 1, (.c (.int .i64 2))), (1, 1, (.c (.int .i64 2))), (2, 1, (.c (.int .i64 2)))]) <| .op 3 (some 4) (.bsl 1 [(.sl ⟨none, 0⟩), (.sl ⟨none, 0⟩), (.sl ⟨none, 0⟩)] 3 [(0, 1, (.t 1)), (1, 1, (.t 2)), (2, 1, (.t 3))]) <| .op 4 (some 0) (.mov (.t 4)) <| .nil) <|
  .ret⟩]⟩
noncomputable def mult_shape_fn : Fn := ⟨1, [.tmp 2], [
 ⟨[0], [.code 0],
  .reg (.op 0 (some 2) (.mov (.c (.int .i64 0))) <| .nil) <|
  .reg (.op 0 (some 8) (.mov (.t 0)) <| .op 1 (some 9) (.len (.t 8)) <| .op 2 (some 10) (.bin .gtr .i64 (.t 9) (.c (.int .i64 400))) <| .op 3 (some 7) (.mov (.t 10)) <| .nil) <|
  .ite (.t 7)
  (.reg (.op 0 (some 2) (.mov (.c (.int .i64 3))) <| .nil) <|
  .ret)
  (.reg (.op 0 (some 12) (.mov (.t 0)) <| .op 1 (some 13) (.len (.t 12)) <| .op 2 (some 14) (.bin .eql .i64 (.t 13) (.c (.int .i64 0))) <| .op 3 (some 11) (.mov (.t 14)) <| .nil) <|
  .ite (.t 11)
  (.reg (.op 0 (some 2) (.mov (.c (.int .i64 4))) <| .nil) <|
  .ret)
  (.reg (.op 0 (some 15) (.mov (.t 0)) <| .op 1 (some 16) (.len (.t 15)) <| .op 2 (some 17) (.mov (.c (.int .i64 0))) <| .nil) <|
  .jump 1))⟩,
 ⟨[0, 15, 16, 17], [.code 23, .code 24, .inLoop 21, .inBlock 20, .code 63],
  .reg (.op 0 (some 18) (.bin .lss .i64 (.t 17) (.t 16)) <| .nil) <|
  .ite (.t 18)
  (.reg (.op 0 (some 19) (.iadr (.t 15) (.t 17) 1) <| .op 1 (some 20) (.ld (.lf .sl) (.t 19)) <| .op 2 (some 4) (.mov (.t 20)) <| .nil) <|
  .reg (.op 0 (some 21) (.mov (.t 4)) <| .op 1 (some 22) (.len (.t 21)) <| .op 2 (some 23) (.mov (.t 0)) <| .op 3 (some 24) (.len (.t 23)) <| .op 4 (some 25) (.bin .neq .i64 (.t 22) (.t 24)) <| .nil) <|
  .ite (.t 25)
  (.reg (.op 0 (some 2) (.mov (.c (.int .i64 4))) <| .nil) <|
  .ret)
  (.reg (.op 0 (some 26) (.mov (.t 4)) <| .op 1 (some 27) (.len (.t 26)) <| .op 2 (some 28) (.mov (.c (.int .i64 0))) <| .nil) <|
  .jump 2))
  (.reg (.op 0 (some 2) (.mov (.c (.int .i64 0))) <| .nil) <|
  .ret)⟩,
 ⟨[0, 15, 16, 17, 26, 27, 28], [.code 45, .code 46, .inLoop 43, .inBlock 42, .inBlock 29, .code 62, .inLoop 21, .inBlock 20, .code 63],
  .reg (.op 0 (some 29) (.bin .lss .i64 (.t 28) (.t 27)) <| .nil) <|
  .ite (.t 29)
  (.reg (.op 0 (some 30) (.iadr (.t 26) (.t 28) 1) <| .op 1 (some 31) (.ld (.lf (.int .i64)) (.t 30)) <| .op 2 (some 6) (.mov (.t 31)) <| .nil) <|
  .reg (.op 0 (some 32) (.mov (.t 6)) <| .op 1 (some 33) (.bin .lss .i64 (.t 32) (.c (.int .i64 0))) <| .op 2 (some 34) (.mov (.t 33)) <| .grp 34 false (.op 3 (some 35) (.mov (.t 6)) <| .op 4 (some 36) (.mov (.t 0)) <| .op 5 (some 37) (.len (.t 36)) <| .op 6 (some 38) (.bin .geq .i64 (.t 35) (.t 37)) <| .nil) 7 39 (.t 38) <| .nil) <|
  .ite (.t 39)
  (.reg (.op 0 (some 2) (.mov (.c (.int .i64 4))) <| .nil) <|
  .ret)
  (.reg (.op 0 (some 40) (.bin .add .i64 (.t 28) (.c (.int .i64 1))) <| .op 1 (some 28) (.mov (.t 40)) <| .nil) <|
  .jump 2))
  (.reg (.op 0 (some 41) (.bin .add .i64 (.t 17) (.c (.int .i64 1))) <| .op 1 (some 17) (.mov (.t 41)) <| .nil) <|
  .jump 1)⟩]⟩
noncomputable def mult_failing_fn : Fn := ⟨1, [.tmp 2, .tmp 3, .tmp 4, .tmp 5], [
 ⟨[0], [.code 0],
  .reg (.op 0 (some 2) (.mov (.c (.int .i64 0))) <| .op 1 (some 3) (.mov (.c (.int .i64 0))) <| .op 2 (some 4) (.mov (.c (.int .i64 0))) <| .op 3 (some 5) (.mov (.c (.bool false))) <| .nil) <|
  .reg (.op 0 (some 9) (.mov (.t 0)) <| .op 1 (some 10) (.len (.t 9)) <| .op 2 (some 11) (.mov (.c (.int .i64 0))) <| .nil) <|
  .jump 1⟩,
 ⟨[0, 10, 11], [.code 8, .code 9, .inLoop 6, .inBlock 5, .code 55],
  .reg (.op 0 (some 12) (.bin .lss .i64 (.t 11) (.t 10)) <| .nil) <|
  .ite (.t 12)
  (.reg (.op 0 (some 13) (.mov (.t 11)) <| .op 1 (some 6) (.mov (.t 13)) <| .nil) <|
  .reg (.op 0 (some 14) (.mov (.t 0)) <| .op 1 (some 15) (.len (.t 14)) <| .op 2 (some 16) (.mov (.c (.int .i64 0))) <| .nil) <|
  .jump 2)
  (.reg (.op 0 (some 2) (.mov (.c (.int .i64 0))) <| .op 1 (some 3) (.mov (.c (.int .i64 0))) <| .op 2 (some 4) (.mov (.c (.int .i64 0))) <| .op 3 (some 5) (.mov (.c (.bool false))) <| .nil) <|
  .ret)⟩,
 ⟨[0, 6, 10, 11, 15, 16], [.code 22, .code 23, .inLoop 20, .inBlock 19, .inBlock 14, .code 54, .inLoop 6, .inBlock 5, .code 55],
  .reg (.op 0 (some 17) (.bin .lss .i64 (.t 16) (.t 15)) <| .nil) <|
  .ite (.t 17)
  (.reg (.op 0 (some 18) (.mov (.t 16)) <| .op 1 (some 7) (.mov (.t 18)) <| .nil) <|
  .reg (.op 0 (some 19) (.mov (.t 0)) <| .op 1 (some 20) (.len (.t 19)) <| .op 2 (some 21) (.mov (.c (.int .i64 0))) <| .nil) <|
  .jump 3)
  (.reg (.op 0 (some 56) (.bin .add .i64 (.t 11) (.c (.int .i64 1))) <| .op 1 (some 11) (.mov (.t 56)) <| .nil) <|
  .jump 1)⟩,
 ⟨[0, 6, 7, 10, 11, 15, 16, 20, 21], [.code 36, .code 37, .inLoop 34, .inBlock 33, .inBlock 28, .code 53, .inLoop 20, .inBlock 19, .inBlock 14, .code 54, .inLoop 6, .inBlock 5, .code 55],
  .reg (.op 0 (some 22) (.bin .lss .i64 (.t 21) (.t 20)) <| .nil) <|
  .ite (.t 22)
  (.reg (.op 0 (some 23) (.mov (.t 21)) <| .op 1 (some 8) (.mov (.t 23)) <| .nil) <|
  .reg (.op 0 (some 24) (.mov (.t 0)) <| .op 1 (some 25) (.mov (.t 0)) <| .op 2 (some 26) (.mov (.t 6)) <| .op 3 (some 27) (.iadr (.t 25) (.t 26) 1) <| .op 4 (some 28) (.ld (.lf .sl) (.t 27)) <| .op 5 (some 29) (.mov (.t 7)) <| .op 6 (some 30) (.iadr (.t 28) (.t 29) 1) <| .op 7 (some 31) (.ld (.lf (.int .i64)) (.t 30)) <| .op 8 (some 32) (.iadr (.t 24) (.t 31) 1) <| .op 9 (some 33) (.ld (.lf .sl) (.t 32)) <| .op 10 (some 34) (.mov (.t 8)) <| .op 11 (some 35) (.iadr (.t 33) (.t 34) 1) <| .op 12 (some 36) (.ld (.lf (.int .i64)) (.t 35)) <| .op 13 (some 37) (.mov (.t 0)) <| .op 14 (some 38) (.mov (.t 6)) <| .op 15 (some 39) (.iadr (.t 37) (.t 38) 1) <| .op 16 (some 40) (.ld (.lf .sl) (.t 39)) <| .op 17 (some 41) (.mov (.t 0)) <| .op 18 (some 42) (.mov (.t 7)) <| .op 19 (some 43) (.iadr (.t 41) (.t 42) 1) <| .op 20 (some 44) (.ld (.lf .sl) (.t 43)) <| .op 21 (some 45) (.mov (.t 8)) <| .op 22 (some 46) (.iadr (.t 44) (.t 45) 1) <| .op 23 (some 47) (.ld (.lf (.int .i64)) (.t 46)) <| .op 24 (some 48) (.iadr (.t 40) (.t 47) 1) <| .op 25 (some 49) (.ld (.lf (.int .i64)) (.t 48)) <| .op 26 (some 50) (.bin .neq .i64 (.t 36) (.t 49)) <| .nil) <|
  .ite (.t 50)
  (.reg (.op 0 (some 51) (.mov (.t 6)) <| .op 1 (some 52) (.mov (.t 7)) <| .op 2 (some 53) (.mov (.t 8)) <| .op 3 (some 2) (.mov (.t 51)) <| .op 4 (some 3) (.mov (.t 52)) <| .op 5 (some 4) (.mov (.t 53)) <| .op 6 (some 5) (.mov (.c (.bool true))) <| .nil) <|
  .ret)
  (.reg (.op 0 (some 54) (.bin .add .i64 (.t 21) (.c (.int .i64 1))) <| .op 1 (some 21) (.mov (.t 54)) <| .nil) <|
  .jump 3))
  (.reg (.op 0 (some 55) (.bin .add .i64 (.t 16) (.c (.int .i64 1))) <| .op 1 (some 16) (.mov (.t 55)) <| .nil) <|
  .jump 2)⟩]⟩
noncomputable def mult_Validate_fn : Fn := ⟨1, [.tmp 2], [
 ⟨[0], [.code 0],
  .reg (.op 0 (some 2) (.mov (.c (.int .i64 0))) <| .nil) <|
  .reg (.op 0 (some 8) (.mov (.t 0)) <| .op 1 (some 9) (.call 7 [(.t 8)] true (.one (.lf (.int .i64)))) <| .op 2 (some 3) (.mov (.t 9)) <| .nil) <|
  .reg (.op 0 (some 10) (.mov (.t 3)) <| .op 1 (some 11) (.bin .neq .i64 (.t 10) (.c (.int .i64 0))) <| .nil) <|
  .ite (.t 11)
  (.reg (.op 0 (some 12) (.mov (.t 3)) <| .op 1 (some 2) (.mov (.t 12)) <| .nil) <|
  .ret)
  (.reg (.op 0 (some 14) (.mov (.t 0)) <| .op 1 (some 15) (.call 8 [(.t 14)] true (.tup [(.lf (.int .i64)), (.lf (.int .i64)), (.lf (.int .i64)), (.lf .bool)])) <| .op 2 (some 13) (.mov (.t 15)) <| .op 3 (some 16) (.ext (.t 13) 0) <| .op 4 (some 17) (.ext (.t 13) 1) <| .op 5 (some 18) (.ext (.t 13) 2) <| .op 6 (some 19) (.ext (.t 13) 3) <| .op 7 (some 4) (.mov (.t 16)) <| .op 8 (some 5) (.mov (.t 17)) <| .op 9 (some 6) (.mov (.t 18)) <| .op 10 (some 7) (.mov (.t 19)) <| .nil) <|
  .reg (.op 0 (some 20) (.mov (.t 7)) <| .nil) <|
  .ite (.t 20)
  (.reg (.op 0 (some 2) (.mov (.c (.int .i64 5))) <| .nil) <|
  .ret)
  (.reg (.op 0 (some 2) (.mov (.c (.int .i64 0))) <| .nil) <|
  .ret))⟩]⟩
noncomputable def green_right_fn : Fn := ⟨1, [.tmp 2], [
 ⟨[0], [.code 0],
  .reg (.op 0 (some 2) (.mov (.c (.sl ⟨none, 0⟩))) <| .nil) <|
  .reg (.op 0 (some 6) (.mov (.t 0)) <| .op 1 (some 7) (.len (.t 6)) <| .op 2 (some 8) (.mksl [(.sl ⟨none, 0⟩)] 24 (.t 7) (.t 7)) <| .op 3 (some 3) (.mov (.t 8)) <| .nil) <|
  .reg (.op 0 (some 9) (.mov (.t 0)) <| .op 1 (some 10) (.len (.t 9)) <| .op 2 (some 11) (.mov (.c (.int .i64 0))) <| .nil) <|
  .jump 1⟩,
 ⟨[0, 3, 10, 11], [.code 10, .code 11, .inLoop 8, .inBlock 7, .code 40],
  .reg (.op 0 (some 12) (.bin .lss .i64 (.t 11) (.t 10)) <| .nil) <|
  .ite (.t 12)
  (.reg (.op 0 (some 13) (.mov (.t 11)) <| .op 1 (some 4) (.mov (.t 13)) <| .nil) <|
  .reg (.op 0 (some 14) (.mov (.t 3)) <| .op 1 (some 15) (.mov (.t 4)) <| .op 2 (some 16) (.mov (.t 0)) <| .op 3 (some 17) (.len (.t 16)) <| .op 4 (some 18) (.mksl [(.bool false)] 1 (.t 17) (.t 17)) <| .op 5 (some 19) (.iadr (.t 14) (.t 15) 1) <| .op 6 none (.st none (.t 19) (.t 18)) <| .nil) <|
  .reg (.op 0 (some 20) (.mov (.t 3)) <| .op 1 (some 21) (.mov (.t 4)) <| .op 2 (some 22) (.iadr (.t 20) (.t 21) 1) <| .op 3 (some 23) (.ld (.lf .sl) (.t 22)) <| .op 4 (some 24) (.mov (.t 4)) <| .op 5 (some 25) (.iadr (.t 23) (.t 24) 1) <| .op 6 none (.st none (.t 25) (.c (.bool true))) <| .nil) <|
  .reg (.op 0 (some 26) (.mov (.t 0)) <| .op 1 (some 27) (.len (.t 26)) <| .op 2 (some 28) (.mov (.c (.int .i64 0))) <| .nil) <|
  .jump 2)
  (.reg (.op 0 (some 45) (.mov (.t 3)) <| .op 1 (some 2) (.mov (.t 45)) <| .nil) <|
  .ret)⟩,
 ⟨[0, 3, 4, 10, 11, 27, 28], [.code 28, .code 29, .inLoop 26, .inBlock 25, .inBlock 16, .code 39, .inLoop 8, .inBlock 7, .code 40],
  .reg (.op 0 (some 29) (.bin .lss .i64 (.t 28) (.t 27)) <| .nil) <|
  .ite (.t 29)
  (.reg (.op 0 (some 30) (.mov (.t 28)) <| .op 1 (some 5) (.mov (.t 30)) <| .nil) <|
  .reg (.op 0 (some 31) (.mov (.t 3)) <| .op 1 (some 32) (.mov (.t 4)) <| .op 2 (some 33) (.iadr (.t 31) (.t 32) 1) <| .op 3 (some 34) (.ld (.lf .sl) (.t 33)) <| .op 4 (some 35) (.mov (.t 0)) <| .op 5 (some 36) (.mov (.t 4)) <| .op 6 (some 37) (.iadr (.t 35) (.t 36) 1) <| .op 7 (some 38) (.ld (.lf .sl) (.t 37)) <| .op 8 (some 39) (.mov (.t 5)) <| .op 9 (some 40) (.iadr (.t 38) (.t 39) 1) <| .op 10 (some 41) (.ld (.lf (.int .i64)) (.t 40)) <| .op 11 (some 42) (.iadr (.t 34) (.t 41) 1) <| .op 12 none (.st none (.t 42) (.c (.bool true))) <| .nil) <|
  .reg (.op 0 (some 43) (.bin .add .i64 (.t 28) (.c (.int .i64 1))) <| .op 1 (some 28) (.mov (.t 43)) <| .nil) <|
  .jump 2)
  (.reg (.op 0 (some 44) (.bin .add .i64 (.t 11) (.c (.int .i64 1))) <| .op 1 (some 11) (.mov (.t 44)) <| .nil) <|
  .jump 1)⟩]⟩
noncomputable def green_left_fn : Fn := ⟨1, [.tmp 2], [
 ⟨[0], [.code 0],
  .reg (.op 0 (some 2) (.mov (.c (.sl ⟨none, 0⟩))) <| .nil) <|
  .reg (.op 0 (some 6) (.mov (.t 0)) <| .op 1 (some 7) (.len (.t 6)) <| .op 2 (some 8) (.mksl [(.sl ⟨none, 0⟩)] 24 (.t 7) (.t 7)) <| .op 3 (some 3) (.mov (.t 8)) <| .nil) <|
  .reg (.op 0 (some 9) (.mov (.t 0)) <| .op 1 (some 10) (.len (.t 9)) <| .op 2 (some 11) (.mov (.c (.int .i64 0))) <| .nil) <|
  .jump 1⟩,
 ⟨[0, 3, 10, 11], [.code 10, .code 11, .inLoop 8, .inBlock 7, .code 40],
  .reg (.op 0 (some 12) (.bin .lss .i64 (.t 11) (.t 10)) <| .nil) <|
  .ite (.t 12)
  (.reg (.op 0 (some 13) (.mov (.t 11)) <| .op 1 (some 4) (.mov (.t 13)) <| .nil) <|
  .reg (.op 0 (some 14) (.mov (.t 3)) <| .op 1 (some 15) (.mov (.t 4)) <| .op 2 (some 16) (.mov (.t 0)) <| .op 3 (some 17) (.len (.t 16)) <| .op 4 (some 18) (.mksl [(.bool false)] 1 (.t 17) (.t 17)) <| .op 5 (some 19) (.iadr (.t 14) (.t 15) 1) <| .op 6 none (.st none (.t 19) (.t 18)) <| .nil) <|
  .reg (.op 0 (some 20) (.mov (.t 3)) <| .op 1 (some 21) (.mov (.t 4)) <| .op 2 (some 22) (.iadr (.t 20) (.t 21) 1) <| .op 3 (some 23) (.ld (.lf .sl) (.t 22)) <| .op 4 (some 24) (.mov (.t 4)) <| .op 5 (some 25) (.iadr (.t 23) (.t 24) 1) <| .op 6 none (.st none (.t 25) (.c (.bool true))) <| .nil) <|
  .reg (.op 0 (some 26) (.mov (.t 0)) <| .op 1 (some 27) (.len (.t 26)) <| .op 2 (some 28) (.mov (.c (.int .i64 0))) <| .nil) <|
  .jump 2)
  (.reg (.op 0 (some 45) (.mov (.t 3)) <| .op 1 (some 2) (.mov (.t 45)) <| .nil) <|
  .ret)⟩,
 ⟨[0, 3, 4, 10, 11, 27, 28], [.code 28, .code 29, .inLoop 26, .inBlock 25, .inBlock 16, .code 39, .inLoop 8, .inBlock 7, .code 40],
  .reg (.op 0 (some 29) (.bin .lss .i64 (.t 28) (.t 27)) <| .nil) <|
  .ite (.t 29)
  (.reg (.op 0 (some 30) (.mov (.t 28)) <| .op 1 (some 5) (.mov (.t 30)) <| .nil) <|
  .reg (.op 0 (some 31) (.mov (.t 3)) <| .op 1 (some 32) (.mov (.t 4)) <| .op 2 (some 33) (.iadr (.t 31) (.t 32) 1) <| .op 3 (some 34) (.ld (.lf .sl) (.t 33)) <| .op 4 (some 35) (.mov (.t 0)) <| .op 5 (some 36) (.mov (.t 5)) <| .op 6 (some 37) (.iadr (.t 35) (.t 36) 1) <| .op 7 (some 38) (.ld (.lf .sl) (.t 37)) <| .op 8 (some 39) (.mov (.t 4)) <| .op 9 (some 40) (.iadr (.t 38) (.t 39) 1) <| .op 10 (some 41) (.ld (.lf (.int .i64)) (.t 40)) <| .op 11 (some 42) (.iadr (.t 34) (.t 41) 1) <| .op 12 none (.st none (.t 42) (.c (.bool true))) <| .nil) <|
  .reg (.op 0 (some 43) (.bin .add .i64 (.t 28) (.c (.int .i64 1))) <| .op 1 (some 28) (.mov (.t 43)) <| .nil) <|
  .jump 2)
  (.reg (.op 0 (some 44) (.bin .add .i64 (.t 11) (.c (.int .i64 1))) <| .op 1 (some 11) (.mov (.t 44)) <| .nil) <|
  .jump 1)⟩]⟩
noncomputable def green_two_fn : Fn := ⟨1, [.tmp 2], [
 ⟨[0], [.code 0],
  .reg (.op 0 (some 2) (.mov (.c (.sl ⟨none, 0⟩))) <| .nil) <|
  .reg (.op 0 (some 11) (.mov (.t 0)) <| .op 1 (some 12) (.call 10 [(.t 11)] true (.one (.lf .sl))) <| .op 2 (some 13) (.mov (.t 0)) <| .op 3 (some 14) (.call 11 [(.t 13)] true (.one (.lf .sl))) <| .op 4 (some 3) (.mov (.t 12)) <| .op 5 (some 4) (.mov (.t 14)) <| .nil) <|
  .reg (.op 0 (some 15) (.mov (.t 0)) <| .op 1 (some 16) (.len (.t 15)) <| .op 2 (some 17) (.mksl [(.sl ⟨none, 0⟩)] 24 (.t 16) (.t 16)) <| .op 3 (some 5) (.mov (.t 17)) <| .nil) <|
  .reg (.op 0 (some 18) (.mov (.t 0)) <| .op 1 (some 19) (.len (.t 18)) <| .op 2 (some 20) (.mov (.c (.int .i64 0))) <| .nil) <|
  .jump 1⟩,
 ⟨[0, 3, 4, 5, 19, 20], [.code 12, .code 13, .inLoop 10, .inBlock 9, .code 61],
  .reg (.op 0 (some 21) (.bin .lss .i64 (.t 20) (.t 19)) <| .nil) <|
  .ite (.t 21)
  (.reg (.op 0 (some 22) (.mov (.t 20)) <| .op 1 (some 6) (.mov (.t 22)) <| .nil) <|
  .reg (.op 0 (some 23) (.mov (.t 5)) <| .op 1 (some 24) (.mov (.t 6)) <| .op 2 (some 25) (.mov (.t 0)) <| .op 3 (some 26) (.len (.t 25)) <| .op 4 (some 27) (.mksl [(.bool false)] 1 (.t 26) (.t 26)) <| .op 5 (some 28) (.iadr (.t 23) (.t 24) 1) <| .op 6 none (.st none (.t 28) (.t 27)) <| .nil) <|
  .reg (.op 0 (some 29) (.mov (.t 4)) <| .op 1 (some 30) (.mov (.t 6)) <| .op 2 (some 31) (.iadr (.t 29) (.t 30) 1) <| .op 3 (some 32) (.ld (.lf .sl) (.t 31)) <| .op 4 (some 33) (.len (.t 32)) <| .op 5 (some 34) (.mov (.c (.int .i64 0))) <| .nil) <|
  .jump 2)
  (.reg (.op 0 (some 70) (.mov (.t 5)) <| .op 1 (some 2) (.mov (.t 70)) <| .nil) <|
  .ret)⟩,
 ⟨[0, 3, 4, 5, 6, 19, 20, 32, 33, 34], [.code 28, .code 29, .inLoop 26, .inBlock 25, .inBlock 18, .code 60, .inLoop 10, .inBlock 9, .code 61],
  .reg (.op 0 (some 35) (.bin .lss .i64 (.t 34) (.t 33)) <| .nil) <|
  .ite (.t 35)
  (.reg (.op 0 (some 36) (.mov (.t 34)) <| .op 1 (some 37) (.iadr (.t 32) (.t 34) 1) <| .op 2 (some 38) (.ld (.lf .bool) (.t 37)) <| .op 3 (some 7) (.mov (.t 36)) <| .op 4 (some 8) (.mov (.t 38)) <| .nil) <|
  .reg (.op 0 (some 39) (.mov (.t 8)) <| .op 1 (some 40) (.not (.t 39)) <| .nil) <|
  .ite (.t 40)
  (.jump 4)
  (.reg (.op 0 (some 41) (.mov (.t 3)) <| .op 1 (some 42) (.mov (.t 7)) <| .op 2 (some 43) (.iadr (.t 41) (.t 42) 1) <| .op 3 (some 44) (.ld (.lf .sl) (.t 43)) <| .op 4 (some 45) (.len (.t 44)) <| .op 5 (some 46) (.mov (.c (.int .i64 0))) <| .nil) <|
  .jump 3))
  (.reg (.op 0 (some 69) (.bin .add .i64 (.t 20) (.c (.int .i64 1))) <| .op 1 (some 20) (.mov (.t 69)) <| .nil) <|
  .jump 1)⟩,
 ⟨[0, 3, 4, 5, 6, 19, 20, 32, 33, 34, 44, 45, 46], [.code 48, .code 49, .inLoop 46, .inBlock 45, .inBlock 34, .code 59, .inLoop 26, .inBlock 25, .inBlock 18, .code 60, .inLoop 10, .inBlock 9, .code 61],
  .reg (.op 0 (some 47) (.bin .lss .i64 (.t 46) (.t 45)) <| .nil) <|
  .ite (.t 47)
  (.reg (.op 0 (some 48) (.mov (.t 46)) <| .op 1 (some 49) (.iadr (.t 44) (.t 46) 1) <| .op 2 (some 50) (.ld (.lf .bool) (.t 49)) <| .op 3 (some 9) (.mov (.t 48)) <| .op 4 (some 10) (.mov (.t 50)) <| .nil) <|
  .reg (.op 0 (some 51) (.mov (.t 5)) <| .op 1 (some 52) (.mov (.t 6)) <| .op 2 (some 53) (.iadr (.t 51) (.t 52) 1) <| .op 3 (some 54) (.ld (.lf .sl) (.t 53)) <| .op 4 (some 55) (.mov (.t 9)) <| .op 5 (some 56) (.mov (.t 5)) <| .op 6 (some 57) (.mov (.t 6)) <| .op 7 (some 58) (.iadr (.t 56) (.t 57) 1) <| .op 8 (some 59) (.ld (.lf .sl) (.t 58)) <| .op 9 (some 60) (.mov (.t 9)) <| .op 10 (some 61) (.iadr (.t 59) (.t 60) 1) <| .op 11 (some 62) (.ld (.lf .bool) (.t 61)) <| .op 12 (some 63) (.mov (.t 62)) <| .grp 63 false (.op 13 (some 64) (.mov (.t 10)) <| .nil) 14 65 (.t 64) <| .op 15 (some 66) (.iadr (.t 54) (.t 55) 1) <| .op 16 none (.st none (.t 66) (.t 65)) <| .nil) <|
  .reg (.op 0 (some 67) (.bin .add .i64 (.t 46) (.c (.int .i64 1))) <| .op 1 (some 46) (.mov (.t 67)) <| .nil) <|
  .jump 3)
  (.jump 4)⟩,
 ⟨[0, 3, 4, 5, 6, 19, 20, 32, 33, 34], [.code 59, .inLoop 26, .inBlock 25, .inBlock 18, .code 60, .inLoop 10, .inBlock 9, .code 61],
  .reg (.op 0 (some 68) (.bin .add .i64 (.t 34) (.c (.int .i64 1))) <| .op 1 (some 34) (.mov (.t 68)) <| .nil) <|
  .jump 2⟩]⟩
noncomputable def green_mutual_fn : Fn := ⟨1, [.tmp 2], [
 ⟨[0], [.code 0],
  .reg (.op 0 (some 2) (.mov (.c (.sl ⟨none, 0⟩))) <| .nil) <|
  .reg (.op 0 (some 8) (.mov (.t 0)) <| .op 1 (some 9) (.len (.t 8)) <| .op 2 (some 10) (.mksl [(.int .i64 0)] 8 (.t 9) (.t 9)) <| .op 3 (some 3) (.mov (.t 10)) <| .nil) <|
  .reg (.op 0 (some 11) (.mov (.t 3)) <| .op 1 (some 12) (.len (.t 11)) <| .op 2 (some 13) (.mov (.c (.int .i64 0))) <| .nil) <|
  .jump 1⟩,
 ⟨[0, 3, 12, 13], [.code 10, .code 11, .inLoop 8, .inBlock 7, .code 21],
  .reg (.op 0 (some 14) (.bin .lss .i64 (.t 13) (.t 12)) <| .nil) <|
  .ite (.t 14)
  (.reg (.op 0 (some 15) (.mov (.t 13)) <| .op 1 (some 4) (.mov (.t 15)) <| .nil) <|
  .reg (.op 0 (some 16) (.mov (.t 3)) <| .op 1 (some 17) (.mov (.t 4)) <| .op 2 (some 18) (.iadr (.t 16) (.t 17) 1) <| .op 3 none (.st none (.t 18) (.c (.int .i64 (-1)))) <| .nil) <|
  .reg (.op 0 (some 19) (.bin .add .i64 (.t 13) (.c (.int .i64 1))) <| .op 1 (some 13) (.mov (.t 19)) <| .nil) <|
  .jump 1)
  (.reg (.op 0 (some 5) (.mov (.c (.int .i64 0))) <| .nil) <|
  .reg (.op 0 (some 20) (.mov (.t 3)) <| .op 1 (some 21) (.len (.t 20)) <| .op 2 (some 22) (.mov (.c (.int .i64 0))) <| .nil) <|
  .jump 2)⟩,
 ⟨[0, 3, 5, 21, 22], [.code 29, .code 30, .inLoop 27, .inBlock 26, .code 65],
  .reg (.op 0 (some 23) (.bin .lss .i64 (.t 22) (.t 21)) <| .nil) <|
  .ite (.t 23)
  (.reg (.op 0 (some 24) (.mov (.t 22)) <| .op 1 (some 6) (.mov (.t 24)) <| .nil) <|
  .reg (.op 0 (some 25) (.mov (.t 3)) <| .op 1 (some 26) (.mov (.t 6)) <| .op 2 (some 27) (.iadr (.t 25) (.t 26) 1) <| .op 3 (some 28) (.ld (.lf (.int .i64)) (.t 27)) <| .op 4 (some 29) (.bin .geq .i64 (.t 28) (.c (.int .i64 0))) <| .nil) <|
  .ite (.t 29)
  (.jump 5)
  (.reg (.op 0 (some 30) (.mov (.t 6)) <| .op 1 (some 7) (.mov (.t 30)) <| .nil) <|
  .jump 3))
  (.reg (.op 0 (some 60) (.mov (.t 3)) <| .op 1 (some 2) (.mov (.t 60)) <| .nil) <|
  .ret)⟩,
 ⟨[0, 3, 5, 6, 7, 21, 22], [.code 51, .code 52, .code 55, .inLoop 48, .inBlock 47, .code 63, .inBlock 35, .code 64, .inLoop 27, .inBlock 26, .code 65],
  .reg (.op 0 (some 31) (.mov (.t 7)) <| .op 1 (some 32) (.mov (.t 3)) <| .op 2 (some 33) (.len (.t 32)) <| .op 3 (some 34) (.bin .lss .i64 (.t 31) (.t 33)) <| .nil) <|
  .ite (.t 34)
  (.reg (.op 0 (some 37) (.mov (.t 0)) <| .op 1 (some 38) (.mov (.t 6)) <| .op 2 (some 39) (.iadr (.t 37) (.t 38) 1) <| .op 3 (some 40) (.ld (.lf .sl) (.t 39)) <| .op 4 (some 41) (.mov (.t 7)) <| .op 5 (some 42) (.iadr (.t 40) (.t 41) 1) <| .op 6 (some 43) (.ld (.lf .bool) (.t 42)) <| .op 7 (some 44) (.mov (.t 43)) <| .grp 44 true (.op 8 (some 45) (.mov (.t 0)) <| .op 9 (some 46) (.mov (.t 7)) <| .op 10 (some 47) (.iadr (.t 45) (.t 46) 1) <| .op 11 (some 48) (.ld (.lf .sl) (.t 47)) <| .op 12 (some 49) (.mov (.t 6)) <| .op 13 (some 50) (.iadr (.t 48) (.t 49) 1) <| .op 14 (some 51) (.ld (.lf .bool) (.t 50)) <| .nil) 15 52 (.t 51) <| .nil) <|
  .ite (.t 52)
  (.reg (.op 0 (some 53) (.mov (.t 3)) <| .op 1 (some 54) (.mov (.t 7)) <| .op 2 (some 55) (.mov (.t 5)) <| .op 3 (some 56) (.iadr (.t 53) (.t 54) 1) <| .op 4 none (.st none (.t 56) (.t 55)) <| .nil) <|
  .jump 4)
  (.jump 4))
  (.reg (.op 0 (some 57) (.mov (.t 5)) <| .op 1 (some 58) (.bin .add .i64 (.t 57) (.c (.int .i64 1))) <| .op 2 (some 5) (.mov (.t 58)) <| .nil) <|
  .jump 5)⟩,
 ⟨[0, 3, 5, 6, 7, 21, 22], [.code 62, .inLoop 48, .inBlock 47, .code 63, .inBlock 35, .code 64, .inLoop 27, .inBlock 26, .code 65],
  .reg (.op 0 (some 35) (.mov (.t 7)) <| .op 1 (some 36) (.bin .add .i64 (.t 35) (.c (.int .i64 1))) <| .op 2 (some 7) (.mov (.t 36)) <| .nil) <|
  .jump 3⟩,
 ⟨[0, 3, 5, 21, 22], [.code 64, .inLoop 27, .inBlock 26, .code 65],
  .reg (.op 0 (some 59) (.bin .add .i64 (.t 22) (.c (.int .i64 1))) <| .op 1 (some 22) (.mov (.t 59)) <| .nil) <|
  .jump 2⟩]⟩
noncomputable def partition_Valid_fn : Fn := ⟨1, [.tmp 2], [
 ⟨[0], [.code 0],
  .reg (.op 0 (some 2) (.mov (.c (.bool false))) <| .nil) <|
  .reg (.op 0 (some 6) (.mov (.t 0)) <| .op 1 (some 7) (.len (.t 6)) <| .op 2 (some 8) (.bin .gtr .i64 (.t 7) (.c (.int .i64 4096))) <| .nil) <|
  .ite (.t 8)
  (.reg (.op 0 (some 2) (.mov (.c (.bool false))) <| .nil) <|
  .ret)
  (.reg (.op 0 (some 3) (.mov (.c (.int .i64 0))) <| .nil) <|
  .reg (.op 0 (some 9) (.mov (.t 0)) <| .op 1 (some 10) (.len (.t 9)) <| .op 2 (some 11) (.mov (.c (.int .i64 0))) <| .nil) <|
  .jump 1)⟩,
 ⟨[3, 9, 10, 11], [.code 18, .code 19, .inLoop 16, .inBlock 15, .code 41],
  .reg (.op 0 (some 12) (.bin .lss .i64 (.t 11) (.t 10)) <| .nil) <|
  .ite (.t 12)
  (.reg (.op 0 (some 13) (.iadr (.t 9) (.t 11) 1) <| .op 1 (some 14) (.ld (.lf (.int .i64)) (.t 13)) <| .op 2 (some 5) (.mov (.t 14)) <| .nil) <|
  .reg (.op 0 (some 15) (.mov (.t 5)) <| .op 1 (some 16) (.bin .lss .i64 (.t 15) (.c (.int .i64 0))) <| .op 2 (some 17) (.mov (.t 16)) <| .grp 17 false (.op 3 (some 18) (.mov (.t 5)) <| .op 4 (some 19) (.mov (.t 3)) <| .op 5 (some 20) (.bin .gtr .i64 (.t 18) (.t 19)) <| .nil) 6 21 (.t 20) <| .nil) <|
  .ite (.t 21)
  (.reg (.op 0 (some 2) (.mov (.c (.bool false))) <| .nil) <|
  .ret)
  (.reg (.op 0 (some 22) (.mov (.t 5)) <| .op 1 (some 23) (.mov (.t 3)) <| .op 2 (some 24) (.bin .eql .i64 (.t 22) (.t 23)) <| .nil) <|
  .ite (.t 24)
  (.reg (.op 0 (some 25) (.mov (.t 3)) <| .op 1 (some 26) (.bin .add .i64 (.t 25) (.c (.int .i64 1))) <| .op 2 (some 3) (.mov (.t 26)) <| .nil) <|
  .jump 2)
  (.jump 2)))
  (.reg (.op 0 (some 2) (.mov (.c (.bool true))) <| .nil) <|
  .ret)⟩,
 ⟨[3, 9, 10, 11], [.code 40, .inLoop 16, .inBlock 15, .code 41],
  .reg (.op 0 (some 27) (.bin .add .i64 (.t 11) (.c (.int .i64 1))) <| .op 1 (some 11) (.mov (.t 27)) <| .nil) <|
  .jump 1⟩]⟩
noncomputable def partition_both_fn : Fn := ⟨2, [.tmp 4], [
 ⟨[0, 1], [.code 0],
  .reg (.op 0 (some 4) (.mov (.c (.bool false))) <| .nil) <|
  .reg (.op 0 (some 5) (.mov (.t 0)) <| .op 1 (some 6) (.len (.t 5)) <| .op 2 (some 7) (.mov (.t 1)) <| .op 3 (some 8) (.len (.t 7)) <| .op 4 (some 9) (.bin .eql .i64 (.t 6) (.t 8)) <| .op 5 (some 10) (.mov (.t 9)) <| .grp 10 true (.op 6 (some 11) (.mov (.t 0)) <| .op 7 (some 12) (.call 14 [(.t 11)] true (.one (.lf .bool))) <| .nil) 8 13 (.t 12) <| .op 9 (some 14) (.mov (.t 13)) <| .grp 14 true (.op 10 (some 15) (.mov (.t 1)) <| .op 11 (some 16) (.call 14 [(.t 15)] true (.one (.lf .bool))) <| .nil) 12 17 (.t 16) <| .op 13 (some 4) (.mov (.t 17)) <| .nil) <|
  .ret⟩]⟩
noncomputable def partition_Canonical_fn : Fn := ⟨1, [.tmp 2], [
 ⟨[0], [.code 0],
  .reg (.op 0 (some 2) (.mov (.c (.sl ⟨none, 0⟩))) <| .nil) <|
  .reg (.op 0 (some 9) (.mov (.t 0)) <| .op 1 (some 10) (.len (.t 9)) <| .op 2 (some 11) (.bin .gtr .i64 (.t 10) (.c (.int .i64 4096))) <| .nil) <|
  .ite (.t 11)
  (.reg (.op 0 (some 2) (.mov (.c (.sl ⟨none, 0⟩))) <| .nil) <|
  .ret)
  (.reg (.op 0 (some 12) (.mkm none) <| .op 1 (some 3) (.mov (.t 12)) <| .nil) <|
  .reg (.op 0 (some 13) (.mov (.t 0)) <| .op 1 (some 14) (.len (.t 13)) <| .op 2 (some 15) (.mksl [(.int .i64 0)] 8 (.t 14) (.t 14)) <| .op 3 (some 4) (.mov (.t 15)) <| .nil) <|
  .reg (.op 0 (some 16) (.mov (.t 0)) <| .op 1 (some 17) (.len (.t 16)) <| .op 2 (some 18) (.mov (.c (.int .i64 0))) <| .nil) <|
  .jump 1)⟩,
 ⟨[3, 4, 16, 17, 18], [.code 20, .code 21, .inLoop 18, .inBlock 17, .code 41],
  .reg (.op 0 (some 19) (.bin .lss .i64 (.t 18) (.t 17)) <| .nil) <|
  .ite (.t 19)
  (.reg (.op 0 (some 20) (.mov (.t 18)) <| .op 1 (some 21) (.iadr (.t 16) (.t 18) 1) <| .op 2 (some 22) (.ld (.lf (.int .i64)) (.t 21)) <| .op 3 (some 5) (.mov (.t 20)) <| .op 4 (some 6) (.mov (.t 22)) <| .nil) <|
  .reg (.op 0 (some 24) (.mov (.t 3)) <| .op 1 (some 25) (.mov (.t 6)) <| .op 2 (some 26) (.look false (.int .i64) (.int .i64 0) (.t 24) (.t 25) true) <| .op 3 (some 23) (.mov (.t 26)) <| .op 4 (some 27) (.ext (.t 23) 0) <| .op 5 (some 28) (.ext (.t 23) 1) <| .op 6 (some 7) (.mov (.t 27)) <| .op 7 (some 8) (.mov (.t 28)) <| .nil) <|
  .reg (.op 0 (some 29) (.mov (.t 8)) <| .op 1 (some 30) (.not (.t 29)) <| .nil) <|
  .ite (.t 30)
  (.reg (.op 0 (some 31) (.mov (.t 3)) <| .op 1 (some 32) (.lenm (.t 31)) <| .op 2 (some 7) (.mov (.t 32)) <| .nil) <|
  .reg (.op 0 (some 33) (.mov (.t 3)) <| .op 1 (some 34) (.mov (.t 6)) <| .op 2 (some 35) (.mov (.t 7)) <| .op 3 none (.mupd false (.t 33) (.t 34) (.t 35)) <| .nil) <|
  .jump 2)
  (.jump 2))
  (.reg (.op 0 (some 41) (.mov (.t 4)) <| .op 1 (some 2) (.mov (.t 41)) <| .nil) <|
  .ret)⟩,
 ⟨[3, 4, 5, 7, 16, 17, 18], [.code 39, .inBlock 26, .code 40, .inLoop 18, .inBlock 17, .code 41],
  .reg (.op 0 (some 36) (.mov (.t 4)) <| .op 1 (some 37) (.mov (.t 5)) <| .op 2 (some 38) (.mov (.t 7)) <| .op 3 (some 39) (.iadr (.t 36) (.t 37) 1) <| .op 4 none (.st none (.t 39) (.t 38)) <| .nil) <|
  .reg (.op 0 (some 40) (.bin .add .i64 (.t 18) (.c (.int .i64 1))) <| .op 1 (some 18) (.mov (.t 40)) <| .nil) <|
  .jump 1⟩]⟩
noncomputable def partition_Meet_fn : Fn := ⟨2, [.tmp 4], [
 ⟨[0, 1], [.code 0],
  .reg (.op 0 (some 4) (.mov (.c (.sl ⟨none, 0⟩))) <| .nil) <|
  .reg (.op 0 (some 7) (.mov (.t 0)) <| .op 1 (some 8) (.mov (.t 1)) <| .op 2 (some 9) (.call 15 [(.t 7), (.t 8)] true (.one (.lf .bool))) <| .op 3 (some 10) (.not (.t 9)) <| .nil) <|
  .ite (.t 10)
  (.reg (.op 0 (some 4) (.mov (.c (.sl ⟨none, 0⟩))) <| .nil) <|
  .ret)
  (.reg (.op 0 (some 11) (.mov (.t 0)) <| .op 1 (some 12) (.len (.t 11)) <| .op 2 (some 13) (.mksl [(.int .i64 0)] 8 (.t 12) (.t 12)) <| .op 3 (some 5) (.mov (.t 13)) <| .nil) <|
  .reg (.op 0 (some 14) (.mov (.t 0)) <| .op 1 (some 15) (.len (.t 14)) <| .op 2 (some 16) (.mov (.c (.int .i64 0))) <| .nil) <|
  .jump 1)⟩,
 ⟨[0, 1, 5, 15, 16], [.code 18, .code 19, .inLoop 16, .inBlock 15, .code 29],
  .reg (.op 0 (some 17) (.bin .lss .i64 (.t 16) (.t 15)) <| .nil) <|
  .ite (.t 17)
  (.reg (.op 0 (some 18) (.mov (.t 16)) <| .op 1 (some 6) (.mov (.t 18)) <| .nil) <|
  .reg (.op 0 (some 19) (.mov (.t 5)) <| .op 1 (some 20) (.mov (.t 6)) <| .op 2 (some 21) (.mov (.t 0)) <| .op 3 (some 22) (.mov (.t 6)) <| .op 4 (some 23) (.iadr (.t 21) (.t 22) 1) <| .op 5 (some 24) (.ld (.lf (.int .i64)) (.t 23)) <| .op 6 (some 25) (.bin .mul .i64 (.t 24) (.c (.int .i64 4096))) <| .op 7 (some 26) (.mov (.t 1)) <| .op 8 (some 27) (.mov (.t 6)) <| .op 9 (some 28) (.iadr (.t 26) (.t 27) 1) <| .op 10 (some 29) (.ld (.lf (.int .i64)) (.t 28)) <| .op 11 (some 30) (.bin .add .i64 (.t 25) (.t 29)) <| .op 12 (some 31) (.iadr (.t 19) (.t 20) 1) <| .op 13 none (.st none (.t 31) (.t 30)) <| .nil) <|
  .reg (.op 0 (some 32) (.bin .add .i64 (.t 16) (.c (.int .i64 1))) <| .op 1 (some 16) (.mov (.t 32)) <| .nil) <|
  .jump 1)
  (.reg (.op 0 (some 33) (.mov (.t 5)) <| .op 1 (some 34) (.call 16 [(.t 33)] true (.one (.lf .sl))) <| .op 2 (some 4) (.mov (.t 34)) <| .nil) <|
  .ret)⟩]⟩
noncomputable def green_firsts_fn : Fn := ⟨1, [.tmp 2], [
 ⟨[0], [.code 0],
  .reg (.op 0 (some 2) (.mov (.c (.sl ⟨none, 0⟩))) <| .nil) <|
  .reg (.op 0 (some 3) (.mov (.c (.sl ⟨none, 0⟩))) <| .nil) <|
  .reg (.op 0 (some 6) (.mov (.t 0)) <| .op 1 (some 7) (.len (.t 6)) <| .op 2 (some 8) (.mov (.c (.int .i64 0))) <| .nil) <|
  .jump 1⟩,
 ⟨[3, 6, 7, 8], [.code 10, .code 11, .inLoop 8, .inBlock 7, .code 25],
  .reg (.op 0 (some 9) (.bin .lss .i64 (.t 8) (.t 7)) <| .nil) <|
  .ite (.t 9)
  (.reg (.op 0 (some 10) (.mov (.t 8)) <| .op 1 (some 11) (.iadr (.t 6) (.t 8) 1) <| .op 2 (some 12) (.ld (.lf (.int .i64)) (.t 11)) <| .op 3 (some 4) (.mov (.t 10)) <| .op 4 (some 5) (.mov (.t 12)) <| .nil) <|
  .reg (.op 0 (some 13) (.mov (.t 5)) <| .op 1 (some 14) (.mov (.t 3)) <| .op 2 (some 15) (.len (.t 14)) <| .op 3 (some 16) (.bin .eql .i64 (.t 13) (.t 15)) <| .nil) <|
  .ite (.t 16)
  (.reg (.op 0 (some 17) (.mov (.t 3)) <| .op 1 (some 18) (.mov (.t 4)) <| .op 2 (some 19) (.bsl 1 [(.int .i64 0)] 1 [(0, 1, (.t 18))]) <| .op 3 (some 20) (.app 1 8 (.t 17) (.t 19)) <| .op 4 (some 3) (.mov (.t 20)) <| .nil) <|
  .jump 2)
  (.jump 2))
  (.reg (.op 0 (some 22) (.mov (.t 3)) <| .op 1 (some 2) (.mov (.t 22)) <| .nil) <|
  .ret)⟩,
 ⟨[3, 6, 7, 8], [.code 24, .inLoop 8, .inBlock 7, .code 25],
  .reg (.op 0 (some 21) (.bin .add .i64 (.t 8) (.c (.int .i64 1))) <| .op 1 (some 8) (.mov (.t 21)) <| .nil) <|
  .jump 1⟩]⟩
noncomputable def green_classes_fn : Fn := ⟨1, [.cell 2 (.agg [.sl, .sl, .sl, .sl, .sl])], [
 ⟨[0], [.code 0],
  .reg (.op 0 (some 2) (.alloc [(.sl ⟨none, 0⟩), (.sl ⟨none, 0⟩), (.sl ⟨none, 0⟩), (.sl ⟨none, 0⟩), (.sl ⟨none, 0⟩)]) <| .nil) <|
  .reg (.op 0 (some 10) (.mov (.t 0)) <| .op 1 (some 11) (.call 12 [(.t 10)] true (.one (.lf .sl))) <| .op 2 (some 3) (.mov (.t 11)) <| .nil) <|
  .reg (.op 0 (some 12) (.mov (.t 0)) <| .op 1 (some 13) (.call 10 [(.t 12)] true (.one (.lf .sl))) <| .op 2 (some 14) (.call 13 [(.t 13)] true (.one (.lf .sl))) <| .op 3 (some 15) (.mov (.t 0)) <| .op 4 (some 16) (.call 11 [(.t 15)] true (.one (.lf .sl))) <| .op 5 (some 17) (.call 13 [(.t 16)] true (.one (.lf .sl))) <| .op 6 (some 18) (.mov (.t 3)) <| .op 7 (some 19) (.call 13 [(.t 18)] true (.one (.lf .sl))) <| .op 8 (some 20) (.bld [(.sl ⟨none, 0⟩), (.sl ⟨none, 0⟩), (.sl ⟨none, 0⟩), (.sl ⟨none, 0⟩), (.sl ⟨none, 0⟩)] [(0, 1, (.t 14)), (1, 1, (.t 17)), (2, 1, (.t 19))]) <| .op 9 (some 4) (.alloc [(.sl ⟨none, 0⟩), (.sl ⟨none, 0⟩), (.sl ⟨none, 0⟩), (.sl ⟨none, 0⟩), (.sl ⟨none, 0⟩)]) <| .op 10 none (.st (some 5) (.t 4) (.t 20)) <| .nil) <|
  .reg (.op 0 (some 21) (.fadr (.t 4) 0) <| .op 1 (some 22) (.ld (.lf .sl) (.t 21)) <| .op 2 (some 23) (.fadr (.t 4) 1) <| .op 3 (some 24) (.ld (.lf .sl) (.t 23)) <| .op 4 (some 25) (.call 17 [(.t 22), (.t 24)] true (.one (.lf .sl))) <| .op 5 (some 26) (.fadr (.t 4) 3) <| .op 6 none (.st none (.t 26) (.t 25)) <| .nil) <|
  .reg (.op 0 (some 27) (.fadr (.t 4) 2) <| .op 1 (some 28) (.ld (.lf .sl) (.t 27)) <| .op 2 (some 29) (.call 18 [(.t 28)] true (.one (.lf .sl))) <| .op 3 (some 5) (.mov (.t 29)) <| .nil) <|
  .reg (.op 0 (some 30) (.mov (.t 5)) <| .op 1 (some 31) (.len (.t 30)) <| .op 2 (some 32) (.mksl [(.sl ⟨none, 0⟩)] 24 (.t 31) (.t 31)) <| .op 3 (some 33) (.fadr (.t 4) 4) <| .op 4 none (.st none (.t 33) (.t 32)) <| .nil) <|
  .reg (.op 0 (some 34) (.mov (.t 5)) <| .op 1 (some 35) (.len (.t 34)) <| .op 2 (some 36) (.mov (.c (.int .i64 0))) <| .nil) <|
  .jump 1⟩,
 ⟨[2, 3, 4, 5, 34, 35, 36], [.code 18, .code 19, .inLoop 16, .inBlock 15, .code 46],
  .reg (.op 0 (some 37) (.bin .lss .i64 (.t 36) (.t 35)) <| .nil) <|
  .ite (.t 37)
  (.reg (.op 0 (some 38) (.mov (.t 36)) <| .op 1 (some 39) (.iadr (.t 34) (.t 36) 1) <| .op 2 (some 40) (.ld (.lf (.int .i64)) (.t 39)) <| .op 3 (some 6) (.mov (.t 38)) <| .op 4 (some 7) (.mov (.t 40)) <| .nil) <|
  .reg (.op 0 (some 41) (.fadr (.t 4) 4) <| .op 1 (some 42) (.ld (.lf .sl) (.t 41)) <| .op 2 (some 43) (.mov (.t 6)) <| .op 3 (some 44) (.mov (.t 5)) <| .op 4 (some 45) (.len (.t 44)) <| .op 5 (some 46) (.mksl [(.bool false)] 1 (.t 45) (.t 45)) <| .op 6 (some 47) (.iadr (.t 42) (.t 43) 1) <| .op 7 none (.st none (.t 47) (.t 46)) <| .nil) <|
  .reg (.op 0 (some 48) (.mov (.t 5)) <| .op 1 (some 49) (.len (.t 48)) <| .op 2 (some 50) (.mov (.c (.int .i64 0))) <| .nil) <|
  .jump 2)
  (.reg (.op 0 (some 71) (.ld (.agg [.sl, .sl, .sl, .sl, .sl]) (.t 4)) <| .op 1 none (.st (some 5) (.t 2) (.t 71)) <| .nil) <|
  .ret)⟩,
 ⟨[2, 3, 4, 5, 6, 7, 34, 35, 36, 48, 49, 50], [.code 34, .code 35, .inLoop 32, .inBlock 31, .inBlock 24, .code 45, .inLoop 16, .inBlock 15, .code 46],
  .reg (.op 0 (some 51) (.bin .lss .i64 (.t 50) (.t 49)) <| .nil) <|
  .ite (.t 51)
  (.reg (.op 0 (some 52) (.mov (.t 50)) <| .op 1 (some 53) (.iadr (.t 48) (.t 50) 1) <| .op 2 (some 54) (.ld (.lf (.int .i64)) (.t 53)) <| .op 3 (some 8) (.mov (.t 52)) <| .op 4 (some 9) (.mov (.t 54)) <| .nil) <|
  .reg (.op 0 (some 55) (.fadr (.t 4) 4) <| .op 1 (some 56) (.ld (.lf .sl) (.t 55)) <| .op 2 (some 57) (.mov (.t 6)) <| .op 3 (some 58) (.iadr (.t 56) (.t 57) 1) <| .op 4 (some 59) (.ld (.lf .sl) (.t 58)) <| .op 5 (some 60) (.mov (.t 8)) <| .op 6 (some 61) (.mov (.t 3)) <| .op 7 (some 62) (.mov (.t 9)) <| .op 8 (some 63) (.iadr (.t 61) (.t 62) 1) <| .op 9 (some 64) (.ld (.lf .sl) (.t 63)) <| .op 10 (some 65) (.mov (.t 7)) <| .op 11 (some 66) (.iadr (.t 64) (.t 65) 1) <| .op 12 (some 67) (.ld (.lf .bool) (.t 66)) <| .op 13 (some 68) (.iadr (.t 59) (.t 60) 1) <| .op 14 none (.st none (.t 68) (.t 67)) <| .nil) <|
  .reg (.op 0 (some 69) (.bin .add .i64 (.t 50) (.c (.int .i64 1))) <| .op 1 (some 50) (.mov (.t 69)) <| .nil) <|
  .jump 2)
  (.reg (.op 0 (some 70) (.bin .add .i64 (.t 36) (.c (.int .i64 1))) <| .op 1 (some 36) (.mov (.t 70)) <| .nil) <|
  .jump 1)⟩]⟩
noncomputable def green_Classes_fn : Fn := ⟨1, [.cell 2 (.agg [.sl, .sl, .sl, .sl, .sl])], [
 ⟨[0], [.code 0],
  .reg (.op 0 (some 2) (.alloc [(.sl ⟨none, 0⟩), (.sl ⟨none, 0⟩), (.sl ⟨none, 0⟩), (.sl ⟨none, 0⟩), (.sl ⟨none, 0⟩)]) <| .nil) <|
  .reg (.op 0 (some 3) (.mov (.t 0)) <| .op 1 (some 4) (.call 9 [(.t 3)] true (.one (.lf (.int .i64)))) <| .op 2 (some 5) (.bin .neq .i64 (.t 4) (.c (.int .i64 0))) <| .nil) <|
  .ite (.t 5)
  (.reg (.op 0 (some 6) (.bld [(.sl ⟨none, 0⟩), (.sl ⟨none, 0⟩), (.sl ⟨none, 0⟩), (.sl ⟨none, 0⟩), (.sl ⟨none, 0⟩)] []) <| .op 1 none (.st (some 5) (.t 2) (.t 6)) <| .nil) <|
  .ret)
  (.reg (.op 0 (some 7) (.mov (.t 0)) <| .op 1 (some 8) (.call 19 [(.t 7)] true (.one (.agg [.sl, .sl, .sl, .sl, .sl]))) <| .op 2 none (.st (some 5) (.t 2) (.t 8)) <| .nil) <|
  .ret)⟩]⟩
noncomputable def semigroupref03_Same_fn : Fn := ⟨2, [.tmp 4], [
 ⟨[0, 1], [.code 0],
  .reg (.op 0 (some 4) (.mov (.c (.bool false))) <| .nil) <|
  .reg (.op 0 (some 6) (.mov (.t 0)) <| .op 1 (some 7) (.len (.t 6)) <| .op 2 (some 8) (.mov (.t 1)) <| .op 3 (some 9) (.len (.t 8)) <| .op 4 (some 10) (.bin .neq .i64 (.t 7) (.t 9)) <| .nil) <|
  .ite (.t 10)
  (.reg (.op 0 (some 4) (.mov (.c (.bool false))) <| .nil) <|
  .ret)
  (.reg (.op 0 (some 11) (.mov (.t 0)) <| .op 1 (some 12) (.len (.t 11)) <| .op 2 (some 13) (.mov (.c (.int .i64 0))) <| .nil) <|
  .jump 1)⟩,
 ⟨[0, 1, 12, 13], [.code 16, .code 17, .inLoop 14, .inBlock 13, .code 33],
  .reg (.op 0 (some 14) (.bin .lss .i64 (.t 13) (.t 12)) <| .nil) <|
  .ite (.t 14)
  (.reg (.op 0 (some 15) (.mov (.t 13)) <| .op 1 (some 5) (.mov (.t 15)) <| .nil) <|
  .reg (.op 0 (some 16) (.mov (.t 0)) <| .op 1 (some 17) (.mov (.t 5)) <| .op 2 (some 18) (.iadr (.t 16) (.t 17) 1) <| .op 3 (some 19) (.ld (.lf (.int .i64)) (.t 18)) <| .op 4 (some 20) (.mov (.t 1)) <| .op 5 (some 21) (.mov (.t 5)) <| .op 6 (some 22) (.iadr (.t 20) (.t 21) 1) <| .op 7 (some 23) (.ld (.lf (.int .i64)) (.t 22)) <| .op 8 (some 24) (.bin .neq .i64 (.t 19) (.t 23)) <| .nil) <|
  .ite (.t 24)
  (.reg (.op 0 (some 4) (.mov (.c (.bool false))) <| .nil) <|
  .ret)
  (.reg (.op 0 (some 25) (.bin .add .i64 (.t 13) (.c (.int .i64 1))) <| .op 1 (some 13) (.mov (.t 25)) <| .nil) <|
  .jump 1))
  (.reg (.op 0 (some 4) (.mov (.c (.bool true))) <| .nil) <|
  .ret)⟩]⟩
noncomputable def green_Heights_fn : Fn := ⟨1, [.tmp 2], [
 ⟨[0], [.code 0],
  .reg (.op 0 (some 2) (.mov (.c (.sl ⟨none, 0⟩))) <| .nil) <|
  .reg (.op 0 (some 8) (.mov (.t 0)) <| .op 1 (some 9) (.call 9 [(.t 8)] true (.one (.lf (.int .i64)))) <| .op 2 (some 10) (.bin .neq .i64 (.t 9) (.c (.int .i64 0))) <| .nil) <|
  .ite (.t 10)
  (.reg (.op 0 (some 2) (.mov (.c (.sl ⟨none, 0⟩))) <| .nil) <|
  .ret)
  (.reg (.op 0 (some 11) (.mov (.t 0)) <| .op 1 (some 12) (.call 19 [(.t 11)] true (.one (.agg [.sl, .sl, .sl, .sl, .sl]))) <| .op 2 (some 3) (.alloc [(.sl ⟨none, 0⟩), (.sl ⟨none, 0⟩), (.sl ⟨none, 0⟩), (.sl ⟨none, 0⟩), (.sl ⟨none, 0⟩)]) <| .op 3 none (.st (some 5) (.t 3) (.t 12)) <| .nil) <|
  .reg (.op 0 (some 13) (.fadr (.t 3) 4) <| .op 1 (some 14) (.ld (.lf .sl) (.t 13)) <| .op 2 (some 15) (.len (.t 14)) <| .op 3 (some 16) (.mksl [(.int .i64 0)] 8 (.t 15) (.t 15)) <| .op 4 (some 4) (.mov (.t 16)) <| .nil) <|
  .reg (.op 0 (some 5) (.mov (.c (.bool true))) <| .nil) <|
  .jump 1)⟩,
 ⟨[3, 4, 5], [.code 21, .code 22, .code 25, .inLoop 18, .inBlock 17, .code 63],
  .reg (.op 0 (some 17) (.mov (.t 5)) <| .nil) <|
  .ite (.t 17)
  (.reg (.op 0 (some 5) (.mov (.c (.bool false))) <| .nil) <|
  .reg (.op 0 (some 18) (.mov (.t 4)) <| .op 1 (some 19) (.len (.t 18)) <| .op 2 (some 20) (.mov (.c (.int .i64 0))) <| .nil) <|
  .jump 2)
  (.reg (.op 0 (some 63) (.mov (.t 4)) <| .op 1 (some 2) (.mov (.t 63)) <| .nil) <|
  .ret)⟩,
 ⟨[3, 4, 5, 19, 20], [.code 33, .code 34, .inLoop 31, .inBlock 30, .inBlock 25, .inLoop 18, .inBlock 17, .code 63],
  .reg (.op 0 (some 21) (.bin .lss .i64 (.t 20) (.t 19)) <| .nil) <|
  .ite (.t 21)
  (.reg (.op 0 (some 22) (.mov (.t 20)) <| .op 1 (some 6) (.mov (.t 22)) <| .nil) <|
  .reg (.op 0 (some 23) (.mov (.t 4)) <| .op 1 (some 24) (.len (.t 23)) <| .op 2 (some 25) (.mov (.c (.int .i64 0))) <| .nil) <|
  .jump 3)
  (.jump 1)⟩,
 ⟨[3, 4, 5, 6, 19, 20, 24, 25], [.code 47, .code 48, .inLoop 45, .inBlock 44, .inBlock 39, .code 62, .inLoop 31, .inBlock 30, .inBlock 25, .inLoop 18, .inBlock 17, .code 63],
  .reg (.op 0 (some 26) (.bin .lss .i64 (.t 25) (.t 24)) <| .nil) <|
  .ite (.t 26)
  (.reg (.op 0 (some 27) (.mov (.t 25)) <| .op 1 (some 7) (.mov (.t 27)) <| .nil) <|
  .reg (.op 0 (some 28) (.mov (.t 6)) <| .op 1 (some 29) (.mov (.t 7)) <| .op 2 (some 30) (.bin .neq .i64 (.t 28) (.t 29)) <| .op 3 (some 31) (.mov (.t 30)) <| .grp 31 true (.op 4 (some 32) (.fadr (.t 3) 4) <| .op 5 (some 33) (.ld (.lf .sl) (.t 32)) <| .op 6 (some 34) (.mov (.t 6)) <| .op 7 (some 35) (.iadr (.t 33) (.t 34) 1) <| .op 8 (some 36) (.ld (.lf .sl) (.t 35)) <| .op 9 (some 37) (.mov (.t 7)) <| .op 10 (some 38) (.iadr (.t 36) (.t 37) 1) <| .op 11 (some 39) (.ld (.lf .bool) (.t 38)) <| .nil) 12 40 (.t 39) <| .op 13 (some 41) (.mov (.t 40)) <| .grp 41 true (.op 14 (some 42) (.mov (.t 4)) <| .op 15 (some 43) (.mov (.t 6)) <| .op 16 (some 44) (.iadr (.t 42) (.t 43) 1) <| .op 17 (some 45) (.ld (.lf (.int .i64)) (.t 44)) <| .op 18 (some 46) (.mov (.t 4)) <| .op 19 (some 47) (.mov (.t 7)) <| .op 20 (some 48) (.iadr (.t 46) (.t 47) 1) <| .op 21 (some 49) (.ld (.lf (.int .i64)) (.t 48)) <| .op 22 (some 50) (.bin .add .i64 (.t 49) (.c (.int .i64 1))) <| .op 23 (some 51) (.bin .lss .i64 (.t 45) (.t 50)) <| .nil) 24 52 (.t 51) <| .nil) <|
  .ite (.t 52)
  (.reg (.op 0 (some 53) (.mov (.t 4)) <| .op 1 (some 54) (.mov (.t 6)) <| .op 2 (some 55) (.mov (.t 4)) <| .op 3 (some 56) (.mov (.t 7)) <| .op 4 (some 57) (.iadr (.t 55) (.t 56) 1) <| .op 5 (some 58) (.ld (.lf (.int .i64)) (.t 57)) <| .op 6 (some 59) (.bin .add .i64 (.t 58) (.c (.int .i64 1))) <| .op 7 (some 60) (.iadr (.t 53) (.t 54) 1) <| .op 8 none (.st none (.t 60) (.t 59)) <| .op 9 (some 5) (.mov (.c (.bool true))) <| .nil) <|
  .jump 4)
  (.jump 4))
  (.reg (.op 0 (some 62) (.bin .add .i64 (.t 20) (.c (.int .i64 1))) <| .op 1 (some 20) (.mov (.t 62)) <| .nil) <|
  .jump 2)⟩,
 ⟨[3, 4, 5, 6, 19, 20, 24, 25], [.code 61, .inLoop 45, .inBlock 44, .inBlock 39, .code 62, .inLoop 31, .inBlock 30, .inBlock 25, .inLoop 18, .inBlock 17, .code 63],
  .reg (.op 0 (some 61) (.bin .add .i64 (.t 25) (.c (.int .i64 1))) <| .op 1 (some 25) (.mov (.t 61)) <| .nil) <|
  .jump 3⟩]⟩
noncomputable def semigrouplaw15_awake_fn : Fn := ⟨0, [.tmp 0], [
 ⟨[], [.code 0],
  .reg (.op 0 (some 0) (.mov (.c (.bool false))) <| .nil) <|
  .reg (.op 0 (some 2) (.call 6 [] true (.one (.lf .sl))) <| .op 1 (some 3) (.call 20 [(.t 2)] true (.one (.agg [.sl, .sl, .sl, .sl, .sl]))) <| .op 2 (some 1) (.alloc [(.sl ⟨none, 0⟩), (.sl ⟨none, 0⟩), (.sl ⟨none, 0⟩), (.sl ⟨none, 0⟩), (.sl ⟨none, 0⟩)]) <| .op 3 none (.st (some 5) (.t 1) (.t 3)) <| .nil) <|
  .reg (.op 0 (some 4) (.fadr (.t 1) 2) <| .op 1 (some 5) (.ld (.lf .sl) (.t 4)) <| .op 2 (some 6) (.bsl 1 [(.int .i64 0), (.int .i64 0), (.int .i64 0)] 3 [(0, 1, (.c (.int .i64 0))), (1, 1, (.c (.int .i64 0))), (2, 1, (.c (.int .i64 1)))]) <| .op 3 (some 7) (.call 21 [(.t 5), (.t 6)] true (.one (.lf .bool))) <| .op 4 (some 8) (.mov (.t 7)) <| .grp 8 true (.op 5 (some 9) (.fadr (.t 1) 4) <| .op 6 (some 10) (.ld (.lf .sl) (.t 9)) <| .op 7 (some 11) (.len (.t 10)) <| .op 8 (some 12) (.bin .eql .i64 (.t 11) (.c (.int .i64 2))) <| .nil) 9 13 (.t 12) <| .op 10 (some 14) (.mov (.t 13)) <| .grp 14 true (.op 11 (some 15) (.call 6 [] true (.one (.lf .sl))) <| .op 12 (some 16) (.call 22 [(.t 15)] true (.one (.lf .sl))) <| .op 13 (some 17) (.bsl 1 [(.int .i64 0), (.int .i64 0)] 2 [(0, 1, (.c (.int .i64 0))), (1, 1, (.c (.int .i64 1)))]) <| .op 14 (some 18) (.call 21 [(.t 16), (.t 17)] true (.one (.lf .bool))) <| .nil) 15 19 (.t 18) <| .op 16 (some 0) (.mov (.t 19)) <| .nil) <|
  .ret⟩]⟩
noncomputable def green_Regular_fn : Fn := ⟨1, [.tmp 2], [
 ⟨[0], [.code 0],
  .reg (.op 0 (some 2) (.mov (.c (.sl ⟨none, 0⟩))) <| .nil) <|
  .reg (.op 0 (some 7) (.mov (.t 0)) <| .op 1 (some 8) (.call 9 [(.t 7)] true (.one (.lf (.int .i64)))) <| .op 2 (some 9) (.bin .neq .i64 (.t 8) (.c (.int .i64 0))) <| .nil) <|
  .ite (.t 9)
  (.reg (.op 0 (some 2) (.mov (.c (.sl ⟨none, 0⟩))) <| .nil) <|
  .ret)
  (.reg (.op 0 (some 10) (.mov (.t 0)) <| .op 1 (some 11) (.call 19 [(.t 10)] true (.one (.agg [.sl, .sl, .sl, .sl, .sl]))) <| .op 2 (some 3) (.alloc [(.sl ⟨none, 0⟩), (.sl ⟨none, 0⟩), (.sl ⟨none, 0⟩), (.sl ⟨none, 0⟩), (.sl ⟨none, 0⟩)]) <| .op 3 none (.st (some 5) (.t 3) (.t 11)) <| .nil) <|
  .reg (.op 0 (some 12) (.fadr (.t 3) 4) <| .op 1 (some 13) (.ld (.lf .sl) (.t 12)) <| .op 2 (some 14) (.len (.t 13)) <| .op 3 (some 15) (.mksl [(.bool false)] 1 (.t 14) (.t 14)) <| .op 4 (some 4) (.mov (.t 15)) <| .nil) <|
  .reg (.op 0 (some 16) (.fadr (.t 3) 2) <| .op 1 (some 17) (.ld (.lf .sl) (.t 16)) <| .op 2 (some 18) (.len (.t 17)) <| .op 3 (some 19) (.mov (.c (.int .i64 0))) <| .nil) <|
  .jump 1)⟩,
 ⟨[0, 4, 17, 18, 19], [.code 20, .code 21, .inLoop 18, .inBlock 17, .code 31],
  .reg (.op 0 (some 20) (.bin .lss .i64 (.t 19) (.t 18)) <| .nil) <|
  .ite (.t 20)
  (.reg (.op 0 (some 21) (.mov (.t 19)) <| .op 1 (some 22) (.iadr (.t 17) (.t 19) 1) <| .op 2 (some 23) (.ld (.lf (.int .i64)) (.t 22)) <| .op 3 (some 5) (.mov (.t 21)) <| .op 4 (some 6) (.mov (.t 23)) <| .nil) <|
  .reg (.op 0 (some 24) (.mov (.t 4)) <| .op 1 (some 25) (.mov (.t 6)) <| .op 2 (some 26) (.mov (.t 4)) <| .op 3 (some 27) (.mov (.t 6)) <| .op 4 (some 28) (.iadr (.t 26) (.t 27) 1) <| .op 5 (some 29) (.ld (.lf .bool) (.t 28)) <| .op 6 (some 30) (.mov (.t 29)) <| .grp 30 false (.op 7 (some 31) (.mov (.t 0)) <| .op 8 (some 32) (.mov (.t 5)) <| .op 9 (some 33) (.iadr (.t 31) (.t 32) 1) <| .op 10 (some 34) (.ld (.lf .sl) (.t 33)) <| .op 11 (some 35) (.mov (.t 5)) <| .op 12 (some 36) (.iadr (.t 34) (.t 35) 1) <| .op 13 (some 37) (.ld (.lf (.int .i64)) (.t 36)) <| .op 14 (some 38) (.mov (.t 5)) <| .op 15 (some 39) (.bin .eql .i64 (.t 37) (.t 38)) <| .nil) 16 40 (.t 39) <| .op 17 (some 41) (.iadr (.t 24) (.t 25) 1) <| .op 18 none (.st none (.t 41) (.t 40)) <| .nil) <|
  .reg (.op 0 (some 42) (.bin .add .i64 (.t 19) (.c (.int .i64 1))) <| .op 1 (some 19) (.mov (.t 42)) <| .nil) <|
  .jump 1)
  (.reg (.op 0 (some 43) (.mov (.t 4)) <| .op 1 (some 2) (.mov (.t 43)) <| .nil) <|
  .ret)⟩]⟩
noncomputable def green_Inverses_fn : Fn := ⟨2, [.tmp 4], [
 ⟨[0, 1], [.code 0],
  .reg (.op 0 (some 4) (.mov (.c (.sl ⟨none, 0⟩))) <| .nil) <|
  .reg (.op 0 (some 7) (.mov (.t 0)) <| .op 1 (some 8) (.call 9 [(.t 7)] true (.one (.lf (.int .i64)))) <| .op 2 (some 9) (.bin .neq .i64 (.t 8) (.c (.int .i64 0))) <| .op 3 (some 10) (.mov (.t 9)) <| .grp 10 false (.op 4 (some 11) (.mov (.t 1)) <| .op 5 (some 12) (.bin .lss .i64 (.t 11) (.c (.int .i64 0))) <| .nil) 6 13 (.t 12) <| .op 7 (some 14) (.mov (.t 13)) <| .grp 14 false (.op 8 (some 15) (.mov (.t 1)) <| .op 9 (some 16) (.mov (.t 0)) <| .op 10 (some 17) (.len (.t 16)) <| .op 11 (some 18) (.bin .geq .i64 (.t 15) (.t 17)) <| .nil) 12 19 (.t 18) <| .nil) <|
  .ite (.t 19)
  (.reg (.op 0 (some 4) (.mov (.c (.sl ⟨none, 0⟩))) <| .nil) <|
  .ret)
  (.reg (.op 0 (some 5) (.mov (.c (.sl ⟨none, 0⟩))) <| .nil) <|
  .reg (.op 0 (some 20) (.mov (.t 0)) <| .op 1 (some 21) (.len (.t 20)) <| .op 2 (some 22) (.mov (.c (.int .i64 0))) <| .nil) <|
  .jump 1)⟩,
 ⟨[0, 1, 5, 21, 22], [.code 18, .code 19, .inLoop 16, .inBlock 15, .code 33],
  .reg (.op 0 (some 23) (.bin .lss .i64 (.t 22) (.t 21)) <| .nil) <|
  .ite (.t 23)
  (.reg (.op 0 (some 24) (.mov (.t 22)) <| .op 1 (some 6) (.mov (.t 24)) <| .nil) <|
  .reg (.op 0 (some 25) (.mov (.t 0)) <| .op 1 (some 26) (.mov (.t 0)) <| .op 2 (some 27) (.mov (.t 1)) <| .op 3 (some 28) (.iadr (.t 26) (.t 27) 1) <| .op 4 (some 29) (.ld (.lf .sl) (.t 28)) <| .op 5 (some 30) (.mov (.t 6)) <| .op 6 (some 31) (.iadr (.t 29) (.t 30) 1) <| .op 7 (some 32) (.ld (.lf (.int .i64)) (.t 31)) <| .op 8 (some 33) (.iadr (.t 25) (.t 32) 1) <| .op 9 (some 34) (.ld (.lf .sl) (.t 33)) <| .op 10 (some 35) (.mov (.t 1)) <| .op 11 (some 36) (.iadr (.t 34) (.t 35) 1) <| .op 12 (some 37) (.ld (.lf (.int .i64)) (.t 36)) <| .op 13 (some 38) (.mov (.t 1)) <| .op 14 (some 39) (.bin .eql .i64 (.t 37) (.t 38)) <| .op 15 (some 40) (.mov (.t 39)) <| .grp 40 true (.op 16 (some 41) (.mov (.t 0)) <| .op 17 (some 42) (.mov (.t 0)) <| .op 18 (some 43) (.mov (.t 6)) <| .op 19 (some 44) (.iadr (.t 42) (.t 43) 1) <| .op 20 (some 45) (.ld (.lf .sl) (.t 44)) <| .op 21 (some 46) (.mov (.t 1)) <| .op 22 (some 47) (.iadr (.t 45) (.t 46) 1) <| .op 23 (some 48) (.ld (.lf (.int .i64)) (.t 47)) <| .op 24 (some 49) (.iadr (.t 41) (.t 48) 1) <| .op 25 (some 50) (.ld (.lf .sl) (.t 49)) <| .op 26 (some 51) (.mov (.t 6)) <| .op 27 (some 52) (.iadr (.t 50) (.t 51) 1) <| .op 28 (some 53) (.ld (.lf (.int .i64)) (.t 52)) <| .op 29 (some 54) (.mov (.t 6)) <| .op 30 (some 55) (.bin .eql .i64 (.t 53) (.t 54)) <| .nil) 31 56 (.t 55) <| .nil) <|
  .ite (.t 56)
  (.reg (.op 0 (some 57) (.mov (.t 5)) <| .op 1 (some 58) (.mov (.t 6)) <| .op 2 (some 59) (.bsl 1 [(.int .i64 0)] 1 [(0, 1, (.t 58))]) <| .op 3 (some 60) (.app 1 8 (.t 57) (.t 59)) <| .op 4 (some 5) (.mov (.t 60)) <| .nil) <|
  .jump 2)
  (.jump 2))
  (.reg (.op 0 (some 62) (.mov (.t 5)) <| .op 1 (some 4) (.mov (.t 62)) <| .nil) <|
  .ret)⟩,
 ⟨[0, 1, 5, 21, 22], [.code 32, .inLoop 16, .inBlock 15, .code 33],
  .reg (.op 0 (some 61) (.bin .add .i64 (.t 22) (.c (.int .i64 1))) <| .op 1 (some 22) (.mov (.t 61)) <| .nil) <|
  .jump 1⟩]⟩
noncomputable def mult_Idempotents_fn : Fn := ⟨1, [.tmp 2], [
 ⟨[0], [.code 0],
  .reg (.op 0 (some 2) (.mov (.c (.sl ⟨none, 0⟩))) <| .nil) <|
  .reg (.op 0 (some 5) (.mov (.t 0)) <| .op 1 (some 6) (.call 9 [(.t 5)] true (.one (.lf (.int .i64)))) <| .op 2 (some 7) (.bin .neq .i64 (.t 6) (.c (.int .i64 0))) <| .nil) <|
  .ite (.t 7)
  (.reg (.op 0 (some 2) (.mov (.c (.sl ⟨none, 0⟩))) <| .nil) <|
  .ret)
  (.reg (.op 0 (some 3) (.mov (.c (.sl ⟨none, 0⟩))) <| .nil) <|
  .reg (.op 0 (some 8) (.mov (.t 0)) <| .op 1 (some 9) (.len (.t 8)) <| .op 2 (some 10) (.mov (.c (.int .i64 0))) <| .nil) <|
  .jump 1)⟩,
 ⟨[0, 3, 9, 10], [.code 18, .code 19, .inLoop 16, .inBlock 15, .code 33],
  .reg (.op 0 (some 11) (.bin .lss .i64 (.t 10) (.t 9)) <| .nil) <|
  .ite (.t 11)
  (.reg (.op 0 (some 12) (.mov (.t 10)) <| .op 1 (some 4) (.mov (.t 12)) <| .nil) <|
  .reg (.op 0 (some 13) (.mov (.t 0)) <| .op 1 (some 14) (.mov (.t 4)) <| .op 2 (some 15) (.iadr (.t 13) (.t 14) 1) <| .op 3 (some 16) (.ld (.lf .sl) (.t 15)) <| .op 4 (some 17) (.mov (.t 4)) <| .op 5 (some 18) (.iadr (.t 16) (.t 17) 1) <| .op 6 (some 19) (.ld (.lf (.int .i64)) (.t 18)) <| .op 7 (some 20) (.mov (.t 4)) <| .op 8 (some 21) (.bin .eql .i64 (.t 19) (.t 20)) <| .nil) <|
  .ite (.t 21)
  (.reg (.op 0 (some 22) (.mov (.t 3)) <| .op 1 (some 23) (.mov (.t 4)) <| .op 2 (some 24) (.bsl 1 [(.int .i64 0)] 1 [(0, 1, (.t 23))]) <| .op 3 (some 25) (.app 1 8 (.t 22) (.t 24)) <| .op 4 (some 3) (.mov (.t 25)) <| .nil) <|
  .jump 2)
  (.jump 2))
  (.reg (.op 0 (some 27) (.mov (.t 3)) <| .op 1 (some 2) (.mov (.t 27)) <| .nil) <|
  .ret)⟩,
 ⟨[0, 3, 9, 10], [.code 32, .inLoop 16, .inBlock 15, .code 33],
  .reg (.op 0 (some 26) (.bin .add .i64 (.t 10) (.c (.int .i64 1))) <| .op 1 (some 10) (.mov (.t 26)) <| .nil) <|
  .jump 1⟩]⟩
noncomputable def semigrouplaw15_GreenInverts_fn : Fn := ⟨2, [.tmp 4], [
 ⟨[0, 1], [.code 0],
  .reg (.op 0 (some 4) (.mov (.c (.bool false))) <| .nil) <|
  .reg (.op 0 (some 12) (.mov (.t 0)) <| .op 1 (some 13) (.call 4 [(.t 12), (.c (.int .i64 16))] true (.one (.lf .bool))) <| .op 2 (some 14) (.not (.t 13)) <| .op 3 (some 15) (.mov (.t 14)) <| .grp 15 false (.op 4 (some 16) (.mov (.t 0)) <| .op 5 (some 17) (.mov (.t 1)) <| .op 6 (some 18) (.bsl 1 [(.int .i64 0)] 1 [(0, 1, (.t 17))]) <| .op 7 (some 19) (.call 5 [(.t 16), (.t 18)] true (.one (.lf .bool))) <| .op 8 (some 20) (.not (.t 19)) <| .nil) 9 21 (.t 20) <| .nil) <|
  .ite (.t 21)
  (.reg (.op 0 (some 22) (.call 23 [] true (.one (.lf .bool))) <| .op 1 (some 4) (.mov (.t 22)) <| .nil) <|
  .ret)
  (.reg (.op 0 (some 23) (.mov (.t 0)) <| .op 1 (some 24) (.call 20 [(.t 23)] true (.one (.agg [.sl, .sl, .sl, .sl, .sl]))) <| .op 2 (some 25) (.mov (.t 0)) <| .op 3 (some 26) (.call 24 [(.t 25)] true (.one (.lf .sl))) <| .op 4 (some 27) (.mov (.t 0)) <| .op 5 (some 28) (.mov (.t 1)) <| .op 6 (some 29) (.call 25 [(.t 27), (.t 28)] true (.one (.lf .sl))) <| .op 7 (some 5) (.alloc [(.sl ⟨none, 0⟩), (.sl ⟨none, 0⟩), (.sl ⟨none, 0⟩), (.sl ⟨none, 0⟩), (.sl ⟨none, 0⟩)]) <| .op 8 none (.st (some 5) (.t 5) (.t 24)) <| .op 9 (some 6) (.mov (.t 26)) <| .op 10 (some 7) (.mov (.t 29)) <| .nil) <|
  .reg (.op 0 (some 30) (.fadr (.t 5) 2) <| .op 1 (some 31) (.ld (.lf .sl) (.t 30)) <| .op 2 (some 32) (.len (.t 31)) <| .op 3 (some 33) (.mov (.t 0)) <| .op 4 (some 34) (.len (.t 33)) <| .op 5 (some 35) (.bin .neq .i64 (.t 32) (.t 34)) <| .op 6 (some 36) (.mov (.t 35)) <| .grp 36 false (.op 7 (some 37) (.fadr (.t 5) 2) <| .op 8 (some 38) (.ld (.lf .sl) (.t 37)) <| .op 9 (some 39) (.mov (.t 1)) <| .op 10 (some 40) (.iadr (.t 38) (.t 39) 1) <| .op 11 (some 41) (.ld (.lf (.int .i64)) (.t 40)) <| .op 12 (some 42) (.mov (.t 6)) <| .op 13 (some 43) (.len (.t 42)) <| .op 14 (some 44) (.bin .geq .i64 (.t 41) (.t 43)) <| .nil) 15 45 (.t 44) <| .nil) <|
  .ite (.t 45)
  (.reg (.op 0 (some 4) (.mov (.c (.bool false))) <| .nil) <|
  .ret)
  (.reg (.op 0 (some 8) (.mov (.c (.int .i64 0))) <| .op 1 (some 9) (.mov (.c (.int .i64 0))) <| .nil) <|
  .reg (.op 0 (some 46) (.mov (.t 0)) <| .op 1 (some 47) (.call 26 [(.t 46)] true (.one (.lf .sl))) <| .op 2 (some 48) (.len (.t 47)) <| .op 3 (some 49) (.mov (.c (.int .i64 0))) <| .nil) <|
  .jump 1))⟩,
 ⟨[1, 5, 6, 7, 8, 9, 47, 48, 49], [.code 28, .code 29, .inLoop 26, .inBlock 25, .code 49],
  .reg (.op 0 (some 50) (.bin .lss .i64 (.t 49) (.t 48)) <| .nil) <|
  .ite (.t 50)
  (.reg (.op 0 (some 51) (.iadr (.t 47) (.t 49) 1) <| .op 1 (some 52) (.ld (.lf (.int .i64)) (.t 51)) <| .op 2 (some 11) (.mov (.t 52)) <| .nil) <|
  .reg (.op 0 (some 53) (.fadr (.t 5) 1) <| .op 1 (some 54) (.ld (.lf .sl) (.t 53)) <| .op 2 (some 55) (.mov (.t 11)) <| .op 3 (some 56) (.iadr (.t 54) (.t 55) 1) <| .op 4 (some 57) (.ld (.lf (.int .i64)) (.t 56)) <| .op 5 (some 58) (.fadr (.t 5) 1) <| .op 6 (some 59) (.ld (.lf .sl) (.t 58)) <| .op 7 (some 60) (.mov (.t 1)) <| .op 8 (some 61) (.iadr (.t 59) (.t 60) 1) <| .op 9 (some 62) (.ld (.lf (.int .i64)) (.t 61)) <| .op 10 (some 63) (.bin .eql .i64 (.t 57) (.t 62)) <| .nil) <|
  .ite (.t 63)
  (.reg (.op 0 (some 64) (.mov (.t 8)) <| .op 1 (some 65) (.bin .add .i64 (.t 64) (.c (.int .i64 1))) <| .op 2 (some 8) (.mov (.t 65)) <| .nil) <|
  .jump 2)
  (.jump 2))
  (.reg (.op 0 (some 80) (.mov (.t 7)) <| .op 1 (some 81) (.len (.t 80)) <| .op 2 (some 82) (.mov (.t 8)) <| .op 3 (some 83) (.mov (.t 9)) <| .op 4 (some 84) (.bin .mul .i64 (.t 82) (.t 83)) <| .op 5 (some 85) (.bin .eql .i64 (.t 81) (.t 84)) <| .op 6 (some 86) (.mov (.t 85)) <| .grp 86 true (.op 7 (some 87) (.mov (.t 7)) <| .op 8 (some 88) (.len (.t 87)) <| .op 9 (some 89) (.bin .gtr .i64 (.t 88) (.c (.int .i64 0))) <| .op 10 (some 90) (.mov (.t 6)) <| .op 11 (some 91) (.fadr (.t 5) 2) <| .op 12 (some 92) (.ld (.lf .sl) (.t 91)) <| .op 13 (some 93) (.mov (.t 1)) <| .op 14 (some 94) (.iadr (.t 92) (.t 93) 1) <| .op 15 (some 95) (.ld (.lf (.int .i64)) (.t 94)) <| .op 16 (some 96) (.iadr (.t 90) (.t 95) 1) <| .op 17 (some 97) (.ld (.lf .bool) (.t 96)) <| .op 18 (some 98) (.beq false (.t 89) (.t 97)) <| .nil) 19 99 (.t 98) <| .op 20 (some 100) (.mov (.t 99)) <| .grp 100 true (.op 21 (some 101) (.call 23 [] true (.one (.lf .bool))) <| .nil) 22 102 (.t 101) <| .op 23 (some 4) (.mov (.t 102)) <| .nil) <|
  .ret)⟩,
 ⟨[1, 5, 6, 7, 8, 9, 11, 47, 48, 49], [.code 44, .code 45, .inBlock 34, .code 48, .inLoop 26, .inBlock 25, .code 49],
  .reg (.op 0 (some 66) (.fadr (.t 5) 0) <| .op 1 (some 67) (.ld (.lf .sl) (.t 66)) <| .op 2 (some 68) (.mov (.t 11)) <| .op 3 (some 69) (.iadr (.t 67) (.t 68) 1) <| .op 4 (some 70) (.ld (.lf (.int .i64)) (.t 69)) <| .op 5 (some 71) (.fadr (.t 5) 0) <| .op 6 (some 72) (.ld (.lf .sl) (.t 71)) <| .op 7 (some 73) (.mov (.t 1)) <| .op 8 (some 74) (.iadr (.t 72) (.t 73) 1) <| .op 9 (some 75) (.ld (.lf (.int .i64)) (.t 74)) <| .op 10 (some 76) (.bin .eql .i64 (.t 70) (.t 75)) <| .nil) <|
  .ite (.t 76)
  (.reg (.op 0 (some 77) (.mov (.t 9)) <| .op 1 (some 78) (.bin .add .i64 (.t 77) (.c (.int .i64 1))) <| .op 2 (some 9) (.mov (.t 78)) <| .nil) <|
  .jump 3)
  (.jump 3)⟩,
 ⟨[1, 5, 6, 7, 8, 9, 47, 48, 49], [.code 48, .inLoop 26, .inBlock 25, .code 49],
  .reg (.op 0 (some 79) (.bin .add .i64 (.t 49) (.c (.int .i64 1))) <| .op 1 (some 49) (.mov (.t 79)) <| .nil) <|
  .jump 1⟩]⟩
noncomputable def G : Pg := [semigroupref14_Shape_fn, semigroupref14_Associative_fn, semigroupref14_Validate_fn, semigroupref14_Valid_fn, semigrouplaw15_small_fn, semigroupref14_In_fn, semigrouplaw15_flip_fn, mult_shape_fn, mult_failing_fn, mult_Validate_fn, green_right_fn, green_left_fn, green_two_fn, green_mutual_fn, partition_Valid_fn, partition_both_fn, partition_Canonical_fn, partition_Meet_fn, green_firsts_fn, green_classes_fn, green_Classes_fn, semigroupref03_Same_fn, green_Heights_fn, semigrouplaw15_awake_fn, green_Regular_fn, green_Inverses_fn, mult_Idempotents_fn, semigrouplaw15_GreenInverts_fn]
def ldA_sssss {ρ : Type} (H : AH) (p : Pt) (κ : Sl → Sl → Sl → Sl → Sl → Option ρ) : Option ρ := ldn H p 5 fun vs => castLfs [.sl, .sl, .sl, .sl, .sl] vs fun vs' => match vs' with | [.sl a0, .sl a1, .sl a2, .sl a3, .sl a4] => κ a0 a1 a2 a3 a4 | _ => none
noncomputable def semigroupref14_Shape_r {ρ : Type} (κ : Int → AH → Option ρ) (v : AV) (H : AH) : Option ρ := castTy (.one (.lf (.int .i64))) v fun v' => match v' with | .int _ r0 => κ r0 H | _ => none
noncomputable def semigroupref14_Shape {ρ : Type} (k : Nat) (x0 : Sl) (lo : Nat) (H : AH) (κ : Int → AH → Option ρ) : Option ρ := run G k ρ 0 0 [(.sl x0)] lo H (semigroupref14_Shape_r κ)
noncomputable def semigroupref14_Shape_1 {ρ : Type} (k : Nat) (x0 : Sl) (x13 : Sl) (x14 : Int) (x15 : Int) (lo : Nat) (H : AH) (κ : Int → AH → Option ρ) : Option ρ := run G k ρ 0 1 [(.sl x0), (.sl x13), (.int .i64 x14), (.int .i64 x15)] lo H (semigroupref14_Shape_r κ)
noncomputable def semigroupref14_Shape_2 {ρ : Type} (k : Nat) (x0 : Sl) (x13 : Sl) (x14 : Int) (x15 : Int) (x24 : Sl) (x25 : Int) (x26 : Int) (lo : Nat) (H : AH) (κ : Int → AH → Option ρ) : Option ρ := run G k ρ 0 2 [(.sl x0), (.sl x13), (.int .i64 x14), (.int .i64 x15), (.sl x24), (.int .i64 x25), (.int .i64 x26)] lo H (semigroupref14_Shape_r κ)
noncomputable def semigroupref14_Associative_r {ρ : Type} (κ : (Int × Int × Int × Int) → AH → Option ρ) (v : AV) (H : AH) : Option ρ := castTy (.tup [(.lf (.int .i64)), (.lf (.int .i64)), (.lf (.int .i64)), (.lf (.int .i64))]) v fun v' => match v' with | .tup [.int _ r0, .int _ r1, .int _ r2, .int _ r3] => κ (r0, r1, r2, r3) H | _ => none
noncomputable def semigroupref14_Associative {ρ : Type} (k : Nat) (x0 : Sl) (lo : Nat) (H : AH) (κ : (Int × Int × Int × Int) → AH → Option ρ) : Option ρ := run G k ρ 1 0 [(.sl x0)] lo H (semigroupref14_Associative_r κ)
noncomputable def semigroupref14_Associative_1 {ρ : Type} (k : Nat) (x0 : Sl) (x16 : Int) (x17 : Int) (lo : Nat) (H : AH) (κ : (Int × Int × Int × Int) → AH → Option ρ) : Option ρ := run G k ρ 1 1 [(.sl x0), (.int .i64 x16), (.int .i64 x17)] lo H (semigroupref14_Associative_r κ)
noncomputable def semigroupref14_Associative_2 {ρ : Type} (k : Nat) (x0 : Sl) (x7 : Int) (x16 : Int) (x17 : Int) (x21 : Int) (x22 : Int) (lo : Nat) (H : AH) (κ : (Int × Int × Int × Int) → AH → Option ρ) : Option ρ := run G k ρ 1 2 [(.sl x0), (.int .i64 x7), (.int .i64 x16), (.int .i64 x17), (.int .i64 x21), (.int .i64 x22)] lo H (semigroupref14_Associative_r κ)
noncomputable def semigroupref14_Associative_3 {ρ : Type} (k : Nat) (x0 : Sl) (x7 : Int) (x8 : Int) (x16 : Int) (x17 : Int) (x21 : Int) (x22 : Int) (x26 : Int) (x27 : Int) (lo : Nat) (H : AH) (κ : (Int × Int × Int × Int) → AH → Option ρ) : Option ρ := run G k ρ 1 3 [(.sl x0), (.int .i64 x7), (.int .i64 x8), (.int .i64 x16), (.int .i64 x17), (.int .i64 x21), (.int .i64 x22), (.int .i64 x26), (.int .i64 x27)] lo H (semigroupref14_Associative_r κ)
noncomputable def semigroupref14_Validate_r {ρ : Type} (κ : Int → AH → Option ρ) (v : AV) (H : AH) : Option ρ := castTy (.one (.lf (.int .i64))) v fun v' => match v' with | .int _ r0 => κ r0 H | _ => none
noncomputable def semigroupref14_Validate {ρ : Type} (k : Nat) (x0 : Sl) (lo : Nat) (H : AH) (κ : Int → AH → Option ρ) : Option ρ := run G k ρ 2 0 [(.sl x0)] lo H (semigroupref14_Validate_r κ)
noncomputable def semigroupref14_Valid_r {ρ : Type} (κ : Bool → AH → Option ρ) (v : AV) (H : AH) : Option ρ := castTy (.one (.lf .bool)) v fun v' => match v' with | .bool r0 => κ r0 H | _ => none
noncomputable def semigroupref14_Valid {ρ : Type} (k : Nat) (x0 : Sl) (lo : Nat) (H : AH) (κ : Bool → AH → Option ρ) : Option ρ := run G k ρ 3 0 [(.sl x0)] lo H (semigroupref14_Valid_r κ)
noncomputable def semigrouplaw15_small_r {ρ : Type} (κ : Bool → AH → Option ρ) (v : AV) (H : AH) : Option ρ := castTy (.one (.lf .bool)) v fun v' => match v' with | .bool r0 => κ r0 H | _ => none
noncomputable def semigrouplaw15_small {ρ : Type} (k : Nat) (x0 : Sl) (x1 : Int) (lo : Nat) (H : AH) (κ : Bool → AH → Option ρ) : Option ρ := run G k ρ 4 0 [(.sl x0), (.int .i64 x1)] lo H (semigrouplaw15_small_r κ)
noncomputable def semigroupref14_In_r {ρ : Type} (κ : Bool → AH → Option ρ) (v : AV) (H : AH) : Option ρ := castTy (.one (.lf .bool)) v fun v' => match v' with | .bool r0 => κ r0 H | _ => none
noncomputable def semigroupref14_In {ρ : Type} (k : Nat) (x0 : Sl) (x1 : Sl) (lo : Nat) (H : AH) (κ : Bool → AH → Option ρ) : Option ρ := run G k ρ 5 0 [(.sl x0), (.sl x1)] lo H (semigroupref14_In_r κ)
noncomputable def semigroupref14_In_1 {ρ : Type} (k : Nat) (x0 : Sl) (x7 : Sl) (x8 : Int) (x9 : Int) (lo : Nat) (H : AH) (κ : Bool → AH → Option ρ) : Option ρ := run G k ρ 5 1 [(.sl x0), (.sl x7), (.int .i64 x8), (.int .i64 x9)] lo H (semigroupref14_In_r κ)
noncomputable def semigrouplaw15_flip_r {ρ : Type} (κ : Sl → AH → Option ρ) (v : AV) (H : AH) : Option ρ := castTy (.one (.lf .sl)) v fun v' => match v' with | .sl r0 => κ r0 H | _ => none
noncomputable def semigrouplaw15_flip {ρ : Type} (k : Nat) (lo : Nat) (H : AH) (κ : Sl → AH → Option ρ) : Option ρ := run G k ρ 6 0 [] lo H (semigrouplaw15_flip_r κ)
noncomputable def mult_shape_r {ρ : Type} (κ : Int → AH → Option ρ) (v : AV) (H : AH) : Option ρ := castTy (.one (.lf (.int .i64))) v fun v' => match v' with | .int _ r0 => κ r0 H | _ => none
noncomputable def mult_shape {ρ : Type} (k : Nat) (x0 : Sl) (lo : Nat) (H : AH) (κ : Int → AH → Option ρ) : Option ρ := run G k ρ 7 0 [(.sl x0)] lo H (mult_shape_r κ)
noncomputable def mult_shape_1 {ρ : Type} (k : Nat) (x0 : Sl) (x15 : Sl) (x16 : Int) (x17 : Int) (lo : Nat) (H : AH) (κ : Int → AH → Option ρ) : Option ρ := run G k ρ 7 1 [(.sl x0), (.sl x15), (.int .i64 x16), (.int .i64 x17)] lo H (mult_shape_r κ)
noncomputable def mult_shape_2 {ρ : Type} (k : Nat) (x0 : Sl) (x15 : Sl) (x16 : Int) (x17 : Int) (x26 : Sl) (x27 : Int) (x28 : Int) (lo : Nat) (H : AH) (κ : Int → AH → Option ρ) : Option ρ := run G k ρ 7 2 [(.sl x0), (.sl x15), (.int .i64 x16), (.int .i64 x17), (.sl x26), (.int .i64 x27), (.int .i64 x28)] lo H (mult_shape_r κ)
noncomputable def mult_failing_r {ρ : Type} (κ : (Int × Int × Int × Bool) → AH → Option ρ) (v : AV) (H : AH) : Option ρ := castTy (.tup [(.lf (.int .i64)), (.lf (.int .i64)), (.lf (.int .i64)), (.lf .bool)]) v fun v' => match v' with | .tup [.int _ r0, .int _ r1, .int _ r2, .bool r3] => κ (r0, r1, r2, r3) H | _ => none
noncomputable def mult_failing {ρ : Type} (k : Nat) (x0 : Sl) (lo : Nat) (H : AH) (κ : (Int × Int × Int × Bool) → AH → Option ρ) : Option ρ := run G k ρ 8 0 [(.sl x0)] lo H (mult_failing_r κ)
noncomputable def mult_failing_1 {ρ : Type} (k : Nat) (x0 : Sl) (x10 : Int) (x11 : Int) (lo : Nat) (H : AH) (κ : (Int × Int × Int × Bool) → AH → Option ρ) : Option ρ := run G k ρ 8 1 [(.sl x0), (.int .i64 x10), (.int .i64 x11)] lo H (mult_failing_r κ)
noncomputable def mult_failing_2 {ρ : Type} (k : Nat) (x0 : Sl) (x6 : Int) (x10 : Int) (x11 : Int) (x15 : Int) (x16 : Int) (lo : Nat) (H : AH) (κ : (Int × Int × Int × Bool) → AH → Option ρ) : Option ρ := run G k ρ 8 2 [(.sl x0), (.int .i64 x6), (.int .i64 x10), (.int .i64 x11), (.int .i64 x15), (.int .i64 x16)] lo H (mult_failing_r κ)
noncomputable def mult_failing_3 {ρ : Type} (k : Nat) (x0 : Sl) (x6 : Int) (x7 : Int) (x10 : Int) (x11 : Int) (x15 : Int) (x16 : Int) (x20 : Int) (x21 : Int) (lo : Nat) (H : AH) (κ : (Int × Int × Int × Bool) → AH → Option ρ) : Option ρ := run G k ρ 8 3 [(.sl x0), (.int .i64 x6), (.int .i64 x7), (.int .i64 x10), (.int .i64 x11), (.int .i64 x15), (.int .i64 x16), (.int .i64 x20), (.int .i64 x21)] lo H (mult_failing_r κ)
noncomputable def mult_Validate_r {ρ : Type} (κ : Int → AH → Option ρ) (v : AV) (H : AH) : Option ρ := castTy (.one (.lf (.int .i64))) v fun v' => match v' with | .int _ r0 => κ r0 H | _ => none
noncomputable def mult_Validate {ρ : Type} (k : Nat) (x0 : Sl) (lo : Nat) (H : AH) (κ : Int → AH → Option ρ) : Option ρ := run G k ρ 9 0 [(.sl x0)] lo H (mult_Validate_r κ)
noncomputable def green_right_r {ρ : Type} (κ : Sl → AH → Option ρ) (v : AV) (H : AH) : Option ρ := castTy (.one (.lf .sl)) v fun v' => match v' with | .sl r0 => κ r0 H | _ => none
noncomputable def green_right {ρ : Type} (k : Nat) (x0 : Sl) (lo : Nat) (H : AH) (κ : Sl → AH → Option ρ) : Option ρ := run G k ρ 10 0 [(.sl x0)] lo H (green_right_r κ)
noncomputable def green_right_1 {ρ : Type} (k : Nat) (x0 : Sl) (x3 : Sl) (x10 : Int) (x11 : Int) (lo : Nat) (H : AH) (κ : Sl → AH → Option ρ) : Option ρ := run G k ρ 10 1 [(.sl x0), (.sl x3), (.int .i64 x10), (.int .i64 x11)] lo H (green_right_r κ)
noncomputable def green_right_2 {ρ : Type} (k : Nat) (x0 : Sl) (x3 : Sl) (x4 : Int) (x10 : Int) (x11 : Int) (x27 : Int) (x28 : Int) (lo : Nat) (H : AH) (κ : Sl → AH → Option ρ) : Option ρ := run G k ρ 10 2 [(.sl x0), (.sl x3), (.int .i64 x4), (.int .i64 x10), (.int .i64 x11), (.int .i64 x27), (.int .i64 x28)] lo H (green_right_r κ)
noncomputable def green_left_r {ρ : Type} (κ : Sl → AH → Option ρ) (v : AV) (H : AH) : Option ρ := castTy (.one (.lf .sl)) v fun v' => match v' with | .sl r0 => κ r0 H | _ => none
noncomputable def green_left {ρ : Type} (k : Nat) (x0 : Sl) (lo : Nat) (H : AH) (κ : Sl → AH → Option ρ) : Option ρ := run G k ρ 11 0 [(.sl x0)] lo H (green_left_r κ)
noncomputable def green_left_1 {ρ : Type} (k : Nat) (x0 : Sl) (x3 : Sl) (x10 : Int) (x11 : Int) (lo : Nat) (H : AH) (κ : Sl → AH → Option ρ) : Option ρ := run G k ρ 11 1 [(.sl x0), (.sl x3), (.int .i64 x10), (.int .i64 x11)] lo H (green_left_r κ)
noncomputable def green_left_2 {ρ : Type} (k : Nat) (x0 : Sl) (x3 : Sl) (x4 : Int) (x10 : Int) (x11 : Int) (x27 : Int) (x28 : Int) (lo : Nat) (H : AH) (κ : Sl → AH → Option ρ) : Option ρ := run G k ρ 11 2 [(.sl x0), (.sl x3), (.int .i64 x4), (.int .i64 x10), (.int .i64 x11), (.int .i64 x27), (.int .i64 x28)] lo H (green_left_r κ)
noncomputable def green_two_r {ρ : Type} (κ : Sl → AH → Option ρ) (v : AV) (H : AH) : Option ρ := castTy (.one (.lf .sl)) v fun v' => match v' with | .sl r0 => κ r0 H | _ => none
noncomputable def green_two {ρ : Type} (k : Nat) (x0 : Sl) (lo : Nat) (H : AH) (κ : Sl → AH → Option ρ) : Option ρ := run G k ρ 12 0 [(.sl x0)] lo H (green_two_r κ)
noncomputable def green_two_1 {ρ : Type} (k : Nat) (x0 : Sl) (x3 : Sl) (x4 : Sl) (x5 : Sl) (x19 : Int) (x20 : Int) (lo : Nat) (H : AH) (κ : Sl → AH → Option ρ) : Option ρ := run G k ρ 12 1 [(.sl x0), (.sl x3), (.sl x4), (.sl x5), (.int .i64 x19), (.int .i64 x20)] lo H (green_two_r κ)
noncomputable def green_two_2 {ρ : Type} (k : Nat) (x0 : Sl) (x3 : Sl) (x4 : Sl) (x5 : Sl) (x6 : Int) (x19 : Int) (x20 : Int) (x32 : Sl) (x33 : Int) (x34 : Int) (lo : Nat) (H : AH) (κ : Sl → AH → Option ρ) : Option ρ := run G k ρ 12 2 [(.sl x0), (.sl x3), (.sl x4), (.sl x5), (.int .i64 x6), (.int .i64 x19), (.int .i64 x20), (.sl x32), (.int .i64 x33), (.int .i64 x34)] lo H (green_two_r κ)
noncomputable def green_two_3 {ρ : Type} (k : Nat) (x0 : Sl) (x3 : Sl) (x4 : Sl) (x5 : Sl) (x6 : Int) (x19 : Int) (x20 : Int) (x32 : Sl) (x33 : Int) (x34 : Int) (x44 : Sl) (x45 : Int) (x46 : Int) (lo : Nat) (H : AH) (κ : Sl → AH → Option ρ) : Option ρ := run G k ρ 12 3 [(.sl x0), (.sl x3), (.sl x4), (.sl x5), (.int .i64 x6), (.int .i64 x19), (.int .i64 x20), (.sl x32), (.int .i64 x33), (.int .i64 x34), (.sl x44), (.int .i64 x45), (.int .i64 x46)] lo H (green_two_r κ)
noncomputable def green_two_4 {ρ : Type} (k : Nat) (x0 : Sl) (x3 : Sl) (x4 : Sl) (x5 : Sl) (x6 : Int) (x19 : Int) (x20 : Int) (x32 : Sl) (x33 : Int) (x34 : Int) (lo : Nat) (H : AH) (κ : Sl → AH → Option ρ) : Option ρ := run G k ρ 12 4 [(.sl x0), (.sl x3), (.sl x4), (.sl x5), (.int .i64 x6), (.int .i64 x19), (.int .i64 x20), (.sl x32), (.int .i64 x33), (.int .i64 x34)] lo H (green_two_r κ)
noncomputable def green_mutual_r {ρ : Type} (κ : Sl → AH → Option ρ) (v : AV) (H : AH) : Option ρ := castTy (.one (.lf .sl)) v fun v' => match v' with | .sl r0 => κ r0 H | _ => none
noncomputable def green_mutual {ρ : Type} (k : Nat) (x0 : Sl) (lo : Nat) (H : AH) (κ : Sl → AH → Option ρ) : Option ρ := run G k ρ 13 0 [(.sl x0)] lo H (green_mutual_r κ)
noncomputable def green_mutual_1 {ρ : Type} (k : Nat) (x0 : Sl) (x3 : Sl) (x12 : Int) (x13 : Int) (lo : Nat) (H : AH) (κ : Sl → AH → Option ρ) : Option ρ := run G k ρ 13 1 [(.sl x0), (.sl x3), (.int .i64 x12), (.int .i64 x13)] lo H (green_mutual_r κ)
noncomputable def green_mutual_2 {ρ : Type} (k : Nat) (x0 : Sl) (x3 : Sl) (x5 : Int) (x21 : Int) (x22 : Int) (lo : Nat) (H : AH) (κ : Sl → AH → Option ρ) : Option ρ := run G k ρ 13 2 [(.sl x0), (.sl x3), (.int .i64 x5), (.int .i64 x21), (.int .i64 x22)] lo H (green_mutual_r κ)
noncomputable def green_mutual_3 {ρ : Type} (k : Nat) (x0 : Sl) (x3 : Sl) (x5 : Int) (x6 : Int) (x7 : Int) (x21 : Int) (x22 : Int) (lo : Nat) (H : AH) (κ : Sl → AH → Option ρ) : Option ρ := run G k ρ 13 3 [(.sl x0), (.sl x3), (.int .i64 x5), (.int .i64 x6), (.int .i64 x7), (.int .i64 x21), (.int .i64 x22)] lo H (green_mutual_r κ)
noncomputable def green_mutual_4 {ρ : Type} (k : Nat) (x0 : Sl) (x3 : Sl) (x5 : Int) (x6 : Int) (x7 : Int) (x21 : Int) (x22 : Int) (lo : Nat) (H : AH) (κ : Sl → AH → Option ρ) : Option ρ := run G k ρ 13 4 [(.sl x0), (.sl x3), (.int .i64 x5), (.int .i64 x6), (.int .i64 x7), (.int .i64 x21), (.int .i64 x22)] lo H (green_mutual_r κ)
noncomputable def green_mutual_5 {ρ : Type} (k : Nat) (x0 : Sl) (x3 : Sl) (x5 : Int) (x21 : Int) (x22 : Int) (lo : Nat) (H : AH) (κ : Sl → AH → Option ρ) : Option ρ := run G k ρ 13 5 [(.sl x0), (.sl x3), (.int .i64 x5), (.int .i64 x21), (.int .i64 x22)] lo H (green_mutual_r κ)
noncomputable def partition_Valid_r {ρ : Type} (κ : Bool → AH → Option ρ) (v : AV) (H : AH) : Option ρ := castTy (.one (.lf .bool)) v fun v' => match v' with | .bool r0 => κ r0 H | _ => none
noncomputable def partition_Valid {ρ : Type} (k : Nat) (x0 : Sl) (lo : Nat) (H : AH) (κ : Bool → AH → Option ρ) : Option ρ := run G k ρ 14 0 [(.sl x0)] lo H (partition_Valid_r κ)
noncomputable def partition_Valid_1 {ρ : Type} (k : Nat) (x3 : Int) (x9 : Sl) (x10 : Int) (x11 : Int) (lo : Nat) (H : AH) (κ : Bool → AH → Option ρ) : Option ρ := run G k ρ 14 1 [(.int .i64 x3), (.sl x9), (.int .i64 x10), (.int .i64 x11)] lo H (partition_Valid_r κ)
noncomputable def partition_Valid_2 {ρ : Type} (k : Nat) (x3 : Int) (x9 : Sl) (x10 : Int) (x11 : Int) (lo : Nat) (H : AH) (κ : Bool → AH → Option ρ) : Option ρ := run G k ρ 14 2 [(.int .i64 x3), (.sl x9), (.int .i64 x10), (.int .i64 x11)] lo H (partition_Valid_r κ)
noncomputable def partition_both_r {ρ : Type} (κ : Bool → AH → Option ρ) (v : AV) (H : AH) : Option ρ := castTy (.one (.lf .bool)) v fun v' => match v' with | .bool r0 => κ r0 H | _ => none
noncomputable def partition_both {ρ : Type} (k : Nat) (x0 : Sl) (x1 : Sl) (lo : Nat) (H : AH) (κ : Bool → AH → Option ρ) : Option ρ := run G k ρ 15 0 [(.sl x0), (.sl x1)] lo H (partition_both_r κ)
noncomputable def partition_Canonical_r {ρ : Type} (κ : Sl → AH → Option ρ) (v : AV) (H : AH) : Option ρ := castTy (.one (.lf .sl)) v fun v' => match v' with | .sl r0 => κ r0 H | _ => none
noncomputable def partition_Canonical {ρ : Type} (k : Nat) (x0 : Sl) (lo : Nat) (H : AH) (κ : Sl → AH → Option ρ) : Option ρ := run G k ρ 16 0 [(.sl x0)] lo H (partition_Canonical_r κ)
noncomputable def partition_Canonical_1 {ρ : Type} (k : Nat) (x3 : Option Nat) (x4 : Sl) (x16 : Sl) (x17 : Int) (x18 : Int) (lo : Nat) (H : AH) (κ : Sl → AH → Option ρ) : Option ρ := run G k ρ 16 1 [(.map x3), (.sl x4), (.sl x16), (.int .i64 x17), (.int .i64 x18)] lo H (partition_Canonical_r κ)
noncomputable def partition_Canonical_2 {ρ : Type} (k : Nat) (x3 : Option Nat) (x4 : Sl) (x5 : Int) (x7 : Int) (x16 : Sl) (x17 : Int) (x18 : Int) (lo : Nat) (H : AH) (κ : Sl → AH → Option ρ) : Option ρ := run G k ρ 16 2 [(.map x3), (.sl x4), (.int .i64 x5), (.int .i64 x7), (.sl x16), (.int .i64 x17), (.int .i64 x18)] lo H (partition_Canonical_r κ)
noncomputable def partition_Meet_r {ρ : Type} (κ : Sl → AH → Option ρ) (v : AV) (H : AH) : Option ρ := castTy (.one (.lf .sl)) v fun v' => match v' with | .sl r0 => κ r0 H | _ => none
noncomputable def partition_Meet {ρ : Type} (k : Nat) (x0 : Sl) (x1 : Sl) (lo : Nat) (H : AH) (κ : Sl → AH → Option ρ) : Option ρ := run G k ρ 17 0 [(.sl x0), (.sl x1)] lo H (partition_Meet_r κ)
noncomputable def partition_Meet_1 {ρ : Type} (k : Nat) (x0 : Sl) (x1 : Sl) (x5 : Sl) (x15 : Int) (x16 : Int) (lo : Nat) (H : AH) (κ : Sl → AH → Option ρ) : Option ρ := run G k ρ 17 1 [(.sl x0), (.sl x1), (.sl x5), (.int .i64 x15), (.int .i64 x16)] lo H (partition_Meet_r κ)
noncomputable def green_firsts_r {ρ : Type} (κ : Sl → AH → Option ρ) (v : AV) (H : AH) : Option ρ := castTy (.one (.lf .sl)) v fun v' => match v' with | .sl r0 => κ r0 H | _ => none
noncomputable def green_firsts {ρ : Type} (k : Nat) (x0 : Sl) (lo : Nat) (H : AH) (κ : Sl → AH → Option ρ) : Option ρ := run G k ρ 18 0 [(.sl x0)] lo H (green_firsts_r κ)
noncomputable def green_firsts_1 {ρ : Type} (k : Nat) (x3 : Sl) (x6 : Sl) (x7 : Int) (x8 : Int) (lo : Nat) (H : AH) (κ : Sl → AH → Option ρ) : Option ρ := run G k ρ 18 1 [(.sl x3), (.sl x6), (.int .i64 x7), (.int .i64 x8)] lo H (green_firsts_r κ)
noncomputable def green_firsts_2 {ρ : Type} (k : Nat) (x3 : Sl) (x6 : Sl) (x7 : Int) (x8 : Int) (lo : Nat) (H : AH) (κ : Sl → AH → Option ρ) : Option ρ := run G k ρ 18 2 [(.sl x3), (.sl x6), (.int .i64 x7), (.int .i64 x8)] lo H (green_firsts_r κ)
noncomputable def green_classes_r {ρ : Type} (κ : (Sl × Sl × Sl × Sl × Sl) → AH → Option ρ) (v : AV) (H : AH) : Option ρ := castTy (.one (.agg [.sl, .sl, .sl, .sl, .sl])) v fun v' => match v' with | .agg [.sl r0, .sl r1, .sl r2, .sl r3, .sl r4] => κ (r0, r1, r2, r3, r4) H | _ => none
noncomputable def green_classes {ρ : Type} (k : Nat) (x0 : Sl) (lo : Nat) (H : AH) (κ : (Sl × Sl × Sl × Sl × Sl) → AH → Option ρ) : Option ρ := run G k ρ 19 0 [(.sl x0)] lo H (green_classes_r κ)
noncomputable def green_classes_1 {ρ : Type} (k : Nat) (x2 : Option Pt) (x3 : Sl) (x4 : Option Pt) (x5 : Sl) (x34 : Sl) (x35 : Int) (x36 : Int) (lo : Nat) (H : AH) (κ : (Sl × Sl × Sl × Sl × Sl) → AH → Option ρ) : Option ρ := run G k ρ 19 1 [(.ptr x2), (.sl x3), (.ptr x4), (.sl x5), (.sl x34), (.int .i64 x35), (.int .i64 x36)] lo H (green_classes_r κ)
noncomputable def green_classes_2 {ρ : Type} (k : Nat) (x2 : Option Pt) (x3 : Sl) (x4 : Option Pt) (x5 : Sl) (x6 : Int) (x7 : Int) (x34 : Sl) (x35 : Int) (x36 : Int) (x48 : Sl) (x49 : Int) (x50 : Int) (lo : Nat) (H : AH) (κ : (Sl × Sl × Sl × Sl × Sl) → AH → Option ρ) : Option ρ := run G k ρ 19 2 [(.ptr x2), (.sl x3), (.ptr x4), (.sl x5), (.int .i64 x6), (.int .i64 x7), (.sl x34), (.int .i64 x35), (.int .i64 x36), (.sl x48), (.int .i64 x49), (.int .i64 x50)] lo H (green_classes_r κ)
noncomputable def green_Classes_r {ρ : Type} (κ : (Sl × Sl × Sl × Sl × Sl) → AH → Option ρ) (v : AV) (H : AH) : Option ρ := castTy (.one (.agg [.sl, .sl, .sl, .sl, .sl])) v fun v' => match v' with | .agg [.sl r0, .sl r1, .sl r2, .sl r3, .sl r4] => κ (r0, r1, r2, r3, r4) H | _ => none
noncomputable def green_Classes {ρ : Type} (k : Nat) (x0 : Sl) (lo : Nat) (H : AH) (κ : (Sl × Sl × Sl × Sl × Sl) → AH → Option ρ) : Option ρ := run G k ρ 20 0 [(.sl x0)] lo H (green_Classes_r κ)
noncomputable def semigroupref03_Same_r {ρ : Type} (κ : Bool → AH → Option ρ) (v : AV) (H : AH) : Option ρ := castTy (.one (.lf .bool)) v fun v' => match v' with | .bool r0 => κ r0 H | _ => none
noncomputable def semigroupref03_Same {ρ : Type} (k : Nat) (x0 : Sl) (x1 : Sl) (lo : Nat) (H : AH) (κ : Bool → AH → Option ρ) : Option ρ := run G k ρ 21 0 [(.sl x0), (.sl x1)] lo H (semigroupref03_Same_r κ)
noncomputable def semigroupref03_Same_1 {ρ : Type} (k : Nat) (x0 : Sl) (x1 : Sl) (x12 : Int) (x13 : Int) (lo : Nat) (H : AH) (κ : Bool → AH → Option ρ) : Option ρ := run G k ρ 21 1 [(.sl x0), (.sl x1), (.int .i64 x12), (.int .i64 x13)] lo H (semigroupref03_Same_r κ)
noncomputable def green_Heights_r {ρ : Type} (κ : Sl → AH → Option ρ) (v : AV) (H : AH) : Option ρ := castTy (.one (.lf .sl)) v fun v' => match v' with | .sl r0 => κ r0 H | _ => none
noncomputable def green_Heights {ρ : Type} (k : Nat) (x0 : Sl) (lo : Nat) (H : AH) (κ : Sl → AH → Option ρ) : Option ρ := run G k ρ 22 0 [(.sl x0)] lo H (green_Heights_r κ)
noncomputable def green_Heights_1 {ρ : Type} (k : Nat) (x3 : Option Pt) (x4 : Sl) (x5 : Bool) (lo : Nat) (H : AH) (κ : Sl → AH → Option ρ) : Option ρ := run G k ρ 22 1 [(.ptr x3), (.sl x4), (.bool x5)] lo H (green_Heights_r κ)
noncomputable def green_Heights_2 {ρ : Type} (k : Nat) (x3 : Option Pt) (x4 : Sl) (x5 : Bool) (x19 : Int) (x20 : Int) (lo : Nat) (H : AH) (κ : Sl → AH → Option ρ) : Option ρ := run G k ρ 22 2 [(.ptr x3), (.sl x4), (.bool x5), (.int .i64 x19), (.int .i64 x20)] lo H (green_Heights_r κ)
noncomputable def green_Heights_3 {ρ : Type} (k : Nat) (x3 : Option Pt) (x4 : Sl) (x5 : Bool) (x6 : Int) (x19 : Int) (x20 : Int) (x24 : Int) (x25 : Int) (lo : Nat) (H : AH) (κ : Sl → AH → Option ρ) : Option ρ := run G k ρ 22 3 [(.ptr x3), (.sl x4), (.bool x5), (.int .i64 x6), (.int .i64 x19), (.int .i64 x20), (.int .i64 x24), (.int .i64 x25)] lo H (green_Heights_r κ)
noncomputable def green_Heights_4 {ρ : Type} (k : Nat) (x3 : Option Pt) (x4 : Sl) (x5 : Bool) (x6 : Int) (x19 : Int) (x20 : Int) (x24 : Int) (x25 : Int) (lo : Nat) (H : AH) (κ : Sl → AH → Option ρ) : Option ρ := run G k ρ 22 4 [(.ptr x3), (.sl x4), (.bool x5), (.int .i64 x6), (.int .i64 x19), (.int .i64 x20), (.int .i64 x24), (.int .i64 x25)] lo H (green_Heights_r κ)
noncomputable def semigrouplaw15_awake_r {ρ : Type} (κ : Bool → AH → Option ρ) (v : AV) (H : AH) : Option ρ := castTy (.one (.lf .bool)) v fun v' => match v' with | .bool r0 => κ r0 H | _ => none
noncomputable def semigrouplaw15_awake {ρ : Type} (k : Nat) (lo : Nat) (H : AH) (κ : Bool → AH → Option ρ) : Option ρ := run G k ρ 23 0 [] lo H (semigrouplaw15_awake_r κ)
noncomputable def green_Regular_r {ρ : Type} (κ : Sl → AH → Option ρ) (v : AV) (H : AH) : Option ρ := castTy (.one (.lf .sl)) v fun v' => match v' with | .sl r0 => κ r0 H | _ => none
noncomputable def green_Regular {ρ : Type} (k : Nat) (x0 : Sl) (lo : Nat) (H : AH) (κ : Sl → AH → Option ρ) : Option ρ := run G k ρ 24 0 [(.sl x0)] lo H (green_Regular_r κ)
noncomputable def green_Regular_1 {ρ : Type} (k : Nat) (x0 : Sl) (x4 : Sl) (x17 : Sl) (x18 : Int) (x19 : Int) (lo : Nat) (H : AH) (κ : Sl → AH → Option ρ) : Option ρ := run G k ρ 24 1 [(.sl x0), (.sl x4), (.sl x17), (.int .i64 x18), (.int .i64 x19)] lo H (green_Regular_r κ)
noncomputable def green_Inverses_r {ρ : Type} (κ : Sl → AH → Option ρ) (v : AV) (H : AH) : Option ρ := castTy (.one (.lf .sl)) v fun v' => match v' with | .sl r0 => κ r0 H | _ => none
noncomputable def green_Inverses {ρ : Type} (k : Nat) (x0 : Sl) (x1 : Int) (lo : Nat) (H : AH) (κ : Sl → AH → Option ρ) : Option ρ := run G k ρ 25 0 [(.sl x0), (.int .i64 x1)] lo H (green_Inverses_r κ)
noncomputable def green_Inverses_1 {ρ : Type} (k : Nat) (x0 : Sl) (x1 : Int) (x5 : Sl) (x21 : Int) (x22 : Int) (lo : Nat) (H : AH) (κ : Sl → AH → Option ρ) : Option ρ := run G k ρ 25 1 [(.sl x0), (.int .i64 x1), (.sl x5), (.int .i64 x21), (.int .i64 x22)] lo H (green_Inverses_r κ)
noncomputable def green_Inverses_2 {ρ : Type} (k : Nat) (x0 : Sl) (x1 : Int) (x5 : Sl) (x21 : Int) (x22 : Int) (lo : Nat) (H : AH) (κ : Sl → AH → Option ρ) : Option ρ := run G k ρ 25 2 [(.sl x0), (.int .i64 x1), (.sl x5), (.int .i64 x21), (.int .i64 x22)] lo H (green_Inverses_r κ)
noncomputable def mult_Idempotents_r {ρ : Type} (κ : Sl → AH → Option ρ) (v : AV) (H : AH) : Option ρ := castTy (.one (.lf .sl)) v fun v' => match v' with | .sl r0 => κ r0 H | _ => none
noncomputable def mult_Idempotents {ρ : Type} (k : Nat) (x0 : Sl) (lo : Nat) (H : AH) (κ : Sl → AH → Option ρ) : Option ρ := run G k ρ 26 0 [(.sl x0)] lo H (mult_Idempotents_r κ)
noncomputable def mult_Idempotents_1 {ρ : Type} (k : Nat) (x0 : Sl) (x3 : Sl) (x9 : Int) (x10 : Int) (lo : Nat) (H : AH) (κ : Sl → AH → Option ρ) : Option ρ := run G k ρ 26 1 [(.sl x0), (.sl x3), (.int .i64 x9), (.int .i64 x10)] lo H (mult_Idempotents_r κ)
noncomputable def mult_Idempotents_2 {ρ : Type} (k : Nat) (x0 : Sl) (x3 : Sl) (x9 : Int) (x10 : Int) (lo : Nat) (H : AH) (κ : Sl → AH → Option ρ) : Option ρ := run G k ρ 26 2 [(.sl x0), (.sl x3), (.int .i64 x9), (.int .i64 x10)] lo H (mult_Idempotents_r κ)
noncomputable def semigrouplaw15_GreenInverts_r {ρ : Type} (κ : Bool → AH → Option ρ) (v : AV) (H : AH) : Option ρ := castTy (.one (.lf .bool)) v fun v' => match v' with | .bool r0 => κ r0 H | _ => none
noncomputable def semigrouplaw15_GreenInverts {ρ : Type} (k : Nat) (x0 : Sl) (x1 : Int) (lo : Nat) (H : AH) (κ : Bool → AH → Option ρ) : Option ρ := run G k ρ 27 0 [(.sl x0), (.int .i64 x1)] lo H (semigrouplaw15_GreenInverts_r κ)
noncomputable def semigrouplaw15_GreenInverts_1 {ρ : Type} (k : Nat) (x1 : Int) (x5 : Option Pt) (x6 : Sl) (x7 : Sl) (x8 : Int) (x9 : Int) (x47 : Sl) (x48 : Int) (x49 : Int) (lo : Nat) (H : AH) (κ : Bool → AH → Option ρ) : Option ρ := run G k ρ 27 1 [(.int .i64 x1), (.ptr x5), (.sl x6), (.sl x7), (.int .i64 x8), (.int .i64 x9), (.sl x47), (.int .i64 x48), (.int .i64 x49)] lo H (semigrouplaw15_GreenInverts_r κ)
noncomputable def semigrouplaw15_GreenInverts_2 {ρ : Type} (k : Nat) (x1 : Int) (x5 : Option Pt) (x6 : Sl) (x7 : Sl) (x8 : Int) (x9 : Int) (x11 : Int) (x47 : Sl) (x48 : Int) (x49 : Int) (lo : Nat) (H : AH) (κ : Bool → AH → Option ρ) : Option ρ := run G k ρ 27 2 [(.int .i64 x1), (.ptr x5), (.sl x6), (.sl x7), (.int .i64 x8), (.int .i64 x9), (.int .i64 x11), (.sl x47), (.int .i64 x48), (.int .i64 x49)] lo H (semigrouplaw15_GreenInverts_r κ)
noncomputable def semigrouplaw15_GreenInverts_3 {ρ : Type} (k : Nat) (x1 : Int) (x5 : Option Pt) (x6 : Sl) (x7 : Sl) (x8 : Int) (x9 : Int) (x47 : Sl) (x48 : Int) (x49 : Int) (lo : Nat) (H : AH) (κ : Bool → AH → Option ρ) : Option ρ := run G k ρ 27 3 [(.int .i64 x1), (.ptr x5), (.sl x6), (.sl x7), (.int .i64 x8), (.int .i64 x9), (.sl x47), (.int .i64 x48), (.int .i64 x49)] lo H (semigrouplaw15_GreenInverts_r κ)
end Go.Ab
