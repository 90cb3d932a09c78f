/- The functions that MorphRenames reaches, in labelled pieces, and what each asks of the evaluator. Printed. -/
import Derived.Test.YtdoggefpmamoiaaAbA1
set_option linter.unusedVariables false
namespace Go.Ab
noncomputable def semigroupref14_Shape_fn : Fn := ⟨1, [.tmp 2], [
 ⟨[0], [.code 0],
  .reg (.op 0 (some 2) (.mov (.c (.int .i64 0))) <| .nil) <|
  .reg (.op 0 (some 7) (.mov (.t 0)) <| .op 1 (some 8) (.len (.t 7)) <| .op 2 (some 9) (.bin .gtr .i64 (.t 8) (.c (.int .i64 400))) <| .nil) <|
  .ite (.t 9)
  (.reg (.op 0 (some 2) (.mov (.c (.int .i64 3))) <| .nil) <|
  .ret)
  (.reg (.op 0 (some 10) (.mov (.t 0)) <| .op 1 (some 11) (.len (.t 10)) <| .op 2 (some 12) (.bin .eql .i64 (.t 11) (.c (.int .i64 0))) <| .nil) <|
  .ite (.t 12)
  (.reg (.op 0 (some 2) (.mov (.c (.int .i64 4))) <| .nil) <|
  .ret)
  (.reg (.op 0 (some 13) (.mov (.t 0)) <| .op 1 (some 14) (.len (.t 13)) <| .op 2 (some 15) (.mov (.c (.int .i64 0))) <| .nil) <|
  .jump 1))⟩,
 ⟨[0, 13, 14, 15], [.code 24, .code 25, .inLoop 22, .inBlock 21, .code 64],
  .reg (.op 0 (some 16) (.bin .lss .i64 (.t 15) (.t 14)) <| .nil) <|
  .ite (.t 16)
  (.reg (.op 0 (some 17) (.iadr (.t 13) (.t 15) 1) <| .op 1 (some 18) (.ld (.lf .sl) (.t 17)) <| .op 2 (some 4) (.mov (.t 18)) <| .nil) <|
  .reg (.op 0 (some 19) (.mov (.t 4)) <| .op 1 (some 20) (.len (.t 19)) <| .op 2 (some 21) (.mov (.t 0)) <| .op 3 (some 22) (.len (.t 21)) <| .op 4 (some 23) (.bin .neq .i64 (.t 20) (.t 22)) <| .nil) <|
  .ite (.t 23)
  (.reg (.op 0 (some 2) (.mov (.c (.int .i64 4))) <| .nil) <|
  .ret)
  (.reg (.op 0 (some 24) (.mov (.t 4)) <| .op 1 (some 25) (.len (.t 24)) <| .op 2 (some 26) (.mov (.c (.int .i64 0))) <| .nil) <|
  .jump 2))
  (.reg (.op 0 (some 2) (.mov (.c (.int .i64 0))) <| .nil) <|
  .ret)⟩,
 ⟨[0, 13, 14, 15, 24, 25, 26], [.code 46, .code 47, .inLoop 44, .inBlock 43, .inBlock 30, .code 63, .inLoop 22, .inBlock 21, .code 64],
  .reg (.op 0 (some 27) (.bin .lss .i64 (.t 26) (.t 25)) <| .nil) <|
  .ite (.t 27)
  (.reg (.op 0 (some 28) (.iadr (.t 24) (.t 26) 1) <| .op 1 (some 29) (.ld (.lf (.int .i64)) (.t 28)) <| .op 2 (some 6) (.mov (.t 29)) <| .nil) <|
  .reg (.op 0 (some 30) (.mov (.t 6)) <| .op 1 (some 31) (.bin .lss .i64 (.t 30) (.c (.int .i64 0))) <| .op 2 (some 32) (.mov (.t 31)) <| .grp 32 false (.op 3 (some 33) (.mov (.t 6)) <| .op 4 (some 34) (.mov (.t 0)) <| .op 5 (some 35) (.len (.t 34)) <| .op 6 (some 36) (.bin .geq .i64 (.t 33) (.t 35)) <| .nil) 7 37 (.t 36) <| .nil) <|
  .ite (.t 37)
  (.reg (.op 0 (some 2) (.mov (.c (.int .i64 4))) <| .nil) <|
  .ret)
  (.reg (.op 0 (some 38) (.bin .add .i64 (.t 26) (.c (.int .i64 1))) <| .op 1 (some 26) (.mov (.t 38)) <| .nil) <|
  .jump 2))
  (.reg (.op 0 (some 39) (.bin .add .i64 (.t 15) (.c (.int .i64 1))) <| .op 1 (some 15) (.mov (.t 39)) <| .nil) <|
  .jump 1)⟩]⟩
noncomputable def semigroupref14_Associative_fn : Fn := ⟨1, [.tmp 2, .tmp 3, .tmp 4, .tmp 5], [
 ⟨[0], [.code 0],
  .reg (.op 0 (some 2) (.mov (.c (.int .i64 0))) <| .op 1 (some 3) (.mov (.c (.int .i64 0))) <| .op 2 (some 4) (.mov (.c (.int .i64 0))) <| .op 3 (some 5) (.mov (.c (.int .i64 0))) <| .nil) <|
  .reg (.op 0 (some 10) (.mov (.t 0)) <| .op 1 (some 11) (.call 0 [(.t 10)] true (.one (.lf (.int .i64)))) <| .op 2 (some 6) (.mov (.t 11)) <| .nil) <|
  .reg (.op 0 (some 12) (.mov (.t 6)) <| .op 1 (some 13) (.bin .neq .i64 (.t 12) (.c (.int .i64 0))) <| .nil) <|
  .ite (.t 13)
  (.reg (.op 0 (some 14) (.mov (.t 6)) <| .op 1 (some 2) (.mov (.c (.int .i64 0))) <| .op 2 (some 3) (.mov (.c (.int .i64 0))) <| .op 3 (some 4) (.mov (.c (.int .i64 0))) <| .op 4 (some 5) (.mov (.t 14)) <| .nil) <|
  .ret)
  (.reg (.op 0 (some 15) (.mov (.t 0)) <| .op 1 (some 16) (.len (.t 15)) <| .op 2 (some 17) (.mov (.c (.int .i64 0))) <| .nil) <|
  .jump 1)⟩,
 ⟨[0, 16, 17], [.code 18, .code 19, .inLoop 16, .inBlock 15, .code 65],
  .reg (.op 0 (some 18) (.bin .lss .i64 (.t 17) (.t 16)) <| .nil) <|
  .ite (.t 18)
  (.reg (.op 0 (some 19) (.mov (.t 17)) <| .op 1 (some 7) (.mov (.t 19)) <| .nil) <|
  .reg (.op 0 (some 20) (.mov (.t 0)) <| .op 1 (some 21) (.len (.t 20)) <| .op 2 (some 22) (.mov (.c (.int .i64 0))) <| .nil) <|
  .jump 2)
  (.reg (.op 0 (some 2) (.mov (.c (.int .i64 0))) <| .op 1 (some 3) (.mov (.c (.int .i64 0))) <| .op 2 (some 4) (.mov (.c (.int .i64 0))) <| .op 3 (some 5) (.mov (.c (.int .i64 0))) <| .nil) <|
  .ret)⟩,
 ⟨[0, 7, 16, 17, 21, 22], [.code 32, .code 33, .inLoop 30, .inBlock 29, .inBlock 24, .code 64, .inLoop 16, .inBlock 15, .code 65],
  .reg (.op 0 (some 23) (.bin .lss .i64 (.t 22) (.t 21)) <| .nil) <|
  .ite (.t 23)
  (.reg (.op 0 (some 24) (.mov (.t 22)) <| .op 1 (some 8) (.mov (.t 24)) <| .nil) <|
  .reg (.op 0 (some 25) (.mov (.t 0)) <| .op 1 (some 26) (.len (.t 25)) <| .op 2 (some 27) (.mov (.c (.int .i64 0))) <| .nil) <|
  .jump 3)
  (.reg (.op 0 (some 62) (.bin .add .i64 (.t 17) (.c (.int .i64 1))) <| .op 1 (some 17) (.mov (.t 62)) <| .nil) <|
  .jump 1)⟩,
 ⟨[0, 7, 8, 16, 17, 21, 22, 26, 27], [.code 46, .code 47, .inLoop 44, .inBlock 43, .inBlock 38, .code 63, .inLoop 30, .inBlock 29, .inBlock 24, .code 64, .inLoop 16, .inBlock 15, .code 65],
  .reg (.op 0 (some 28) (.bin .lss .i64 (.t 27) (.t 26)) <| .nil) <|
  .ite (.t 28)
  (.reg (.op 0 (some 29) (.mov (.t 27)) <| .op 1 (some 9) (.mov (.t 29)) <| .nil) <|
  .reg (.op 0 (some 30) (.mov (.t 0)) <| .op 1 (some 31) (.mov (.t 0)) <| .op 2 (some 32) (.mov (.t 7)) <| .op 3 (some 33) (.iadr (.t 31) (.t 32) 1) <| .op 4 (some 34) (.ld (.lf .sl) (.t 33)) <| .op 5 (some 35) (.mov (.t 8)) <| .op 6 (some 36) (.iadr (.t 34) (.t 35) 1) <| .op 7 (some 37) (.ld (.lf (.int .i64)) (.t 36)) <| .op 8 (some 38) (.iadr (.t 30) (.t 37) 1) <| .op 9 (some 39) (.ld (.lf .sl) (.t 38)) <| .op 10 (some 40) (.mov (.t 9)) <| .op 11 (some 41) (.iadr (.t 39) (.t 40) 1) <| .op 12 (some 42) (.ld (.lf (.int .i64)) (.t 41)) <| .op 13 (some 43) (.mov (.t 0)) <| .op 14 (some 44) (.mov (.t 7)) <| .op 15 (some 45) (.iadr (.t 43) (.t 44) 1) <| .op 16 (some 46) (.ld (.lf .sl) (.t 45)) <| .op 17 (some 47) (.mov (.t 0)) <| .op 18 (some 48) (.mov (.t 8)) <| .op 19 (some 49) (.iadr (.t 47) (.t 48) 1) <| .op 20 (some 50) (.ld (.lf .sl) (.t 49)) <| .op 21 (some 51) (.mov (.t 9)) <| .op 22 (some 52) (.iadr (.t 50) (.t 51) 1) <| .op 23 (some 53) (.ld (.lf (.int .i64)) (.t 52)) <| .op 24 (some 54) (.iadr (.t 46) (.t 53) 1) <| .op 25 (some 55) (.ld (.lf (.int .i64)) (.t 54)) <| .op 26 (some 56) (.bin .neq .i64 (.t 42) (.t 55)) <| .nil) <|
  .ite (.t 56)
  (.reg (.op 0 (some 57) (.mov (.t 7)) <| .op 1 (some 58) (.mov (.t 8)) <| .op 2 (some 59) (.mov (.t 9)) <| .op 3 (some 2) (.mov (.t 57)) <| .op 4 (some 3) (.mov (.t 58)) <| .op 5 (some 4) (.mov (.t 59)) <| .op 6 (some 5) (.mov (.c (.int .i64 5))) <| .nil) <|
  .ret)
  (.reg (.op 0 (some 60) (.bin .add .i64 (.t 27) (.c (.int .i64 1))) <| .op 1 (some 27) (.mov (.t 60)) <| .nil) <|
  .jump 3))
  (.reg (.op 0 (some 61) (.bin .add .i64 (.t 22) (.c (.int .i64 1))) <| .op 1 (some 22) (.mov (.t 61)) <| .nil) <|
  .jump 2)⟩]⟩
noncomputable def semigroupref14_Validate_fn : Fn := ⟨1, [.tmp 2], [
 ⟨[0], [.code 0],
  .reg (.op 0 (some 2) (.mov (.c (.int .i64 0))) <| .nil) <|
  .reg (.op 0 (some 8) (.mov (.t 0)) <| .op 1 (some 9) (.call 1 [(.t 8)] true (.tup [(.lf (.int .i64)), (.lf (.int .i64)), (.lf (.int .i64)), (.lf (.int .i64))])) <| .op 2 (some 7) (.mov (.t 9)) <| .op 3 (some 10) (.ext (.t 7) 0) <| .op 4 (some 11) (.ext (.t 7) 1) <| .op 5 (some 12) (.ext (.t 7) 2) <| .op 6 (some 13) (.ext (.t 7) 3) <| .op 7 (some 3) (.mov (.t 10)) <| .op 8 (some 4) (.mov (.t 11)) <| .op 9 (some 5) (.mov (.t 12)) <| .op 10 (some 6) (.mov (.t 13)) <| .nil) <|
  .reg (.op 0 (some 14) (.mov (.t 6)) <| .op 1 (some 2) (.mov (.t 14)) <| .nil) <|
  .ret⟩]⟩
noncomputable def semigroupref14_Valid_fn : Fn := ⟨1, [.tmp 2], [
 ⟨[0], [.code 0],
  .reg (.op 0 (some 2) (.mov (.c (.bool false))) <| .nil) <|
  .reg (.op 0 (some 3) (.mov (.t 0)) <| .op 1 (some 4) (.call 2 [(.t 3)] true (.one (.lf (.int .i64)))) <| .op 2 (some 5) (.bin .eql .i64 (.t 4) (.c (.int .i64 0))) <| .op 3 (some 2) (.mov (.t 5)) <| .nil) <|
  .ret⟩]⟩
noncomputable def semigrouplaw20_small_fn : Fn := ⟨2, [.tmp 4], [
 ⟨[0, 1], [.code 0],
  .reg (.op 0 (some 4) (.mov (.c (.bool false))) <| .nil) <|
  .reg (.op 0 (some 5) (.mov (.t 0)) <| .op 1 (some 6) (.len (.t 5)) <| .op 2 (some 7) (.mov (.t 1)) <| .op 3 (some 8) (.bin .leq .i64 (.t 6) (.t 7)) <| .op 4 (some 9) (.mov (.t 8)) <| .grp 9 true (.op 5 (some 10) (.mov (.t 0)) <| .op 6 (some 11) (.call 3 [(.t 10)] true (.one (.lf .bool))) <| .nil) 7 12 (.t 11) <| .op 8 (some 4) (.mov (.t 12)) <| .nil) <|
  .ret⟩]⟩
noncomputable def semigrouplaw20_two_fn : Fn := ⟨0, [.tmp 0], [
 ⟨[], [.code 0],
  .reg (.op 0 (some 0) (.mov (.c (.sl ⟨none, 0⟩))) <| .nil) <|
  .reg (.op 0 (some 1) (.bsl 1 [(.int .i64 0), (.int .i64 0)] 2 [(0, 1, (.c (.int .i64 0))), (1, 1, (.c (.int .i64 1)))]) <| .op 1 (some 2) (.bsl 1 [(.int .i64 0), (.int .i64 0)] 2 [(0, 1, (.c (.int .i64 1))), (1, 1, (.c (.int .i64 0)))]) <| .op 2 (some 3) (.bsl 1 [(.sl ⟨none, 0⟩), (.sl ⟨none, 0⟩)] 2 [(0, 1, (.t 1)), (1, 1, (.t 2))]) <| .op 3 (some 0) (.mov (.t 3)) <| .nil) <|
  .ret⟩]⟩
noncomputable def mult_shape_fn : Fn := ⟨1, [.tmp 2], [
 ⟨[0], [.code 0],
  .reg (.op 0 (some 2) (.mov (.c (.int .i64 0))) <| .nil) <|
  .reg (.op 0 (some 8) (.mov (.t 0)) <| .op 1 (some 9) (.len (.t 8)) <| .op 2 (some 10) (.bin .gtr .i64 (.t 9) (.c (.int .i64 400))) <| .op 3 (some 7) (.mov (.t 10)) <| .nil) <|
  .ite (.t 7)
  (.reg (.op 0 (some 2) (.mov (.c (.int .i64 3))) <| .nil) <|
  .ret)
  (.reg (.op 0 (some 12) (.mov (.t 0)) <| .op 1 (some 13) (.len (.t 12)) <| .op 2 (some 14) (.bin .eql .i64 (.t 13) (.c (.int .i64 0))) <| .op 3 (some 11) (.mov (.t 14)) <| .nil) <|
  .ite (.t 11)
  (.reg (.op 0 (some 2) (.mov (.c (.int .i64 4))) <| .nil) <|
  .ret)
  (.reg (.op 0 (some 15) (.mov (.t 0)) <| .op 1 (some 16) (.len (.t 15)) <| .op 2 (some 17) (.mov (.c (.int .i64 0))) <| .nil) <|
  .jump 1))⟩,
 ⟨[0, 15, 16, 17], [.code 23, .code 24, .inLoop 21, .inBlock 20, .code 63],
  .reg (.op 0 (some 18) (.bin .lss .i64 (.t 17) (.t 16)) <| .nil) <|
  .ite (.t 18)
  (.reg (.op 0 (some 19) (.iadr (.t 15) (.t 17) 1) <| .op 1 (some 20) (.ld (.lf .sl) (.t 19)) <| .op 2 (some 4) (.mov (.t 20)) <| .nil) <|
  .reg (.op 0 (some 21) (.mov (.t 4)) <| .op 1 (some 22) (.len (.t 21)) <| .op 2 (some 23) (.mov (.t 0)) <| .op 3 (some 24) (.len (.t 23)) <| .op 4 (some 25) (.bin .neq .i64 (.t 22) (.t 24)) <| .nil) <|
  .ite (.t 25)
  (.reg (.op 0 (some 2) (.mov (.c (.int .i64 4))) <| .nil) <|
  .ret)
  (.reg (.op 0 (some 26) (.mov (.t 4)) <| .op 1 (some 27) (.len (.t 26)) <| .op 2 (some 28) (.mov (.c (.int .i64 0))) <| .nil) <|
  .jump 2))
  (.reg (.op 0 (some 2) (.mov (.c (.int .i64 0))) <| .nil) <|
  .ret)⟩,
 ⟨[0, 15, 16, 17, 26, 27, 28], [.code 45, .code 46, .inLoop 43, .inBlock 42, .inBlock 29, .code 62, .inLoop 21, .inBlock 20, .code 63],
  .reg (.op 0 (some 29) (.bin .lss .i64 (.t 28) (.t 27)) <| .nil) <|
  .ite (.t 29)
  (.reg (.op 0 (some 30) (.iadr (.t 26) (.t 28) 1) <| .op 1 (some 31) (.ld (.lf (.int .i64)) (.t 30)) <| .op 2 (some 6) (.mov (.t 31)) <| .nil) <|
  .reg (.op 0 (some 32) (.mov (.t 6)) <| .op 1 (some 33) (.bin .lss .i64 (.t 32) (.c (.int .i64 0))) <| .op 2 (some 34) (.mov (.t 33)) <| .grp 34 false (.op 3 (some 35) (.mov (.t 6)) <| .op 4 (some 36) (.mov (.t 0)) <| .op 5 (some 37) (.len (.t 36)) <| .op 6 (some 38) (.bin .geq .i64 (.t 35) (.t 37)) <| .nil) 7 39 (.t 38) <| .nil) <|
  .ite (.t 39)
  (.reg (.op 0 (some 2) (.mov (.c (.int .i64 4))) <| .nil) <|
  .ret)
  (.reg (.op 0 (some 40) (.bin .add .i64 (.t 28) (.c (.int .i64 1))) <| .op 1 (some 28) (.mov (.t 40)) <| .nil) <|
  .jump 2))
  (.reg (.op 0 (some 41) (.bin .add .i64 (.t 17) (.c (.int .i64 1))) <| .op 1 (some 17) (.mov (.t 41)) <| .nil) <|
  .jump 1)⟩]⟩
noncomputable def mult_failing_fn : Fn := ⟨1, [.tmp 2, .tmp 3, .tmp 4, .tmp 5], [
 ⟨[0], [.code 0],
  .reg (.op 0 (some 2) (.mov (.c (.int .i64 0))) <| .op 1 (some 3) (.mov (.c (.int .i64 0))) <| .op 2 (some 4) (.mov (.c (.int .i64 0))) <| .op 3 (some 5) (.mov (.c (.bool false))) <| .nil) <|
  .reg (.op 0 (some 9) (.mov (.t 0)) <| .op 1 (some 10) (.len (.t 9)) <| .op 2 (some 11) (.mov (.c (.int .i64 0))) <| .nil) <|
  .jump 1⟩,
 ⟨[0, 10, 11], [.code 8, .code 9, .inLoop 6, .inBlock 5, .code 55],
  .reg (.op 0 (some 12) (.bin .lss .i64 (.t 11) (.t 10)) <| .nil) <|
  .ite (.t 12)
  (.reg (.op 0 (some 13) (.mov (.t 11)) <| .op 1 (some 6) (.mov (.t 13)) <| .nil) <|
  .reg (.op 0 (some 14) (.mov (.t 0)) <| .op 1 (some 15) (.len (.t 14)) <| .op 2 (some 16) (.mov (.c (.int .i64 0))) <| .nil) <|
  .jump 2)
  (.reg (.op 0 (some 2) (.mov (.c (.int .i64 0))) <| .op 1 (some 3) (.mov (.c (.int .i64 0))) <| .op 2 (some 4) (.mov (.c (.int .i64 0))) <| .op 3 (some 5) (.mov (.c (.bool false))) <| .nil) <|
  .ret)⟩,
 ⟨[0, 6, 10, 11, 15, 16], [.code 22, .code 23, .inLoop 20, .inBlock 19, .inBlock 14, .code 54, .inLoop 6, .inBlock 5, .code 55],
  .reg (.op 0 (some 17) (.bin .lss .i64 (.t 16) (.t 15)) <| .nil) <|
  .ite (.t 17)
  (.reg (.op 0 (some 18) (.mov (.t 16)) <| .op 1 (some 7) (.mov (.t 18)) <| .nil) <|
  .reg (.op 0 (some 19) (.mov (.t 0)) <| .op 1 (some 20) (.len (.t 19)) <| .op 2 (some 21) (.mov (.c (.int .i64 0))) <| .nil) <|
  .jump 3)
  (.reg (.op 0 (some 56) (.bin .add .i64 (.t 11) (.c (.int .i64 1))) <| .op 1 (some 11) (.mov (.t 56)) <| .nil) <|
  .jump 1)⟩,
 ⟨[0, 6, 7, 10, 11, 15, 16, 20, 21], [.code 36, .code 37, .inLoop 34, .inBlock 33, .inBlock 28, .code 53, .inLoop 20, .inBlock 19, .inBlock 14, .code 54, .inLoop 6, .inBlock 5, .code 55],
  .reg (.op 0 (some 22) (.bin .lss .i64 (.t 21) (.t 20)) <| .nil) <|
  .ite (.t 22)
  (.reg (.op 0 (some 23) (.mov (.t 21)) <| .op 1 (some 8) (.mov (.t 23)) <| .nil) <|
  .reg (.op 0 (some 24) (.mov (.t 0)) <| .op 1 (some 25) (.mov (.t 0)) <| .op 2 (some 26) (.mov (.t 6)) <| .op 3 (some 27) (.iadr (.t 25) (.t 26) 1) <| .op 4 (some 28) (.ld (.lf .sl) (.t 27)) <| .op 5 (some 29) (.mov (.t 7)) <| .op 6 (some 30) (.iadr (.t 28) (.t 29) 1) <| .op 7 (some 31) (.ld (.lf (.int .i64)) (.t 30)) <| .op 8 (some 32) (.iadr (.t 24) (.t 31) 1) <| .op 9 (some 33) (.ld (.lf .sl) (.t 32)) <| .op 10 (some 34) (.mov (.t 8)) <| .op 11 (some 35) (.iadr (.t 33) (.t 34) 1) <| .op 12 (some 36) (.ld (.lf (.int .i64)) (.t 35)) <| .op 13 (some 37) (.mov (.t 0)) <| .op 14 (some 38) (.mov (.t 6)) <| .op 15 (some 39) (.iadr (.t 37) (.t 38) 1) <| .op 16 (some 40) (.ld (.lf .sl) (.t 39)) <| .op 17 (some 41) (.mov (.t 0)) <| .op 18 (some 42) (.mov (.t 7)) <| .op 19 (some 43) (.iadr (.t 41) (.t 42) 1) <| .op 20 (some 44) (.ld (.lf .sl) (.t 43)) <| .op 21 (some 45) (.mov (.t 8)) <| .op 22 (some 46) (.iadr (.t 44) (.t 45) 1) <| .op 23 (some 47) (.ld (.lf (.int .i64)) (.t 46)) <| .op 24 (some 48) (.iadr (.t 40) (.t 47) 1) <| .op 25 (some 49) (.ld (.lf (.int .i64)) (.t 48)) <| .op 26 (some 50) (.bin .neq .i64 (.t 36) (.t 49)) <| .nil) <|
  .ite (.t 50)
  (.reg (.op 0 (some 51) (.mov (.t 6)) <| .op 1 (some 52) (.mov (.t 7)) <| .op 2 (some 53) (.mov (.t 8)) <| .op 3 (some 2) (.mov (.t 51)) <| .op 4 (some 3) (.mov (.t 52)) <| .op 5 (some 4) (.mov (.t 53)) <| .op 6 (some 5) (.mov (.c (.bool true))) <| .nil) <|
  .ret)
  (.reg (.op 0 (some 54) (.bin .add .i64 (.t 21) (.c (.int .i64 1))) <| .op 1 (some 21) (.mov (.t 54)) <| .nil) <|
  .jump 3))
  (.reg (.op 0 (some 55) (.bin .add .i64 (.t 16) (.c (.int .i64 1))) <| .op 1 (some 16) (.mov (.t 55)) <| .nil) <|
  .jump 2)⟩]⟩
noncomputable def mult_Validate_fn : Fn := ⟨1, [.tmp 2], [
 ⟨[0], [.code 0],
  .reg (.op 0 (some 2) (.mov (.c (.int .i64 0))) <| .nil) <|
  .reg (.op 0 (some 8) (.mov (.t 0)) <| .op 1 (some 9) (.call 6 [(.t 8)] true (.one (.lf (.int .i64)))) <| .op 2 (some 3) (.mov (.t 9)) <| .nil) <|
  .reg (.op 0 (some 10) (.mov (.t 3)) <| .op 1 (some 11) (.bin .neq .i64 (.t 10) (.c (.int .i64 0))) <| .nil) <|
  .ite (.t 11)
  (.reg (.op 0 (some 12) (.mov (.t 3)) <| .op 1 (some 2) (.mov (.t 12)) <| .nil) <|
  .ret)
  (.reg (.op 0 (some 14) (.mov (.t 0)) <| .op 1 (some 15) (.call 7 [(.t 14)] true (.tup [(.lf (.int .i64)), (.lf (.int .i64)), (.lf (.int .i64)), (.lf .bool)])) <| .op 2 (some 13) (.mov (.t 15)) <| .op 3 (some 16) (.ext (.t 13) 0) <| .op 4 (some 17) (.ext (.t 13) 1) <| .op 5 (some 18) (.ext (.t 13) 2) <| .op 6 (some 19) (.ext (.t 13) 3) <| .op 7 (some 4) (.mov (.t 16)) <| .op 8 (some 5) (.mov (.t 17)) <| .op 9 (some 6) (.mov (.t 18)) <| .op 10 (some 7) (.mov (.t 19)) <| .nil) <|
  .reg (.op 0 (some 20) (.mov (.t 7)) <| .nil) <|
  .ite (.t 20)
  (.reg (.op 0 (some 2) (.mov (.c (.int .i64 5))) <| .nil) <|
  .ret)
  (.reg (.op 0 (some 2) (.mov (.c (.int .i64 0))) <| .nil) <|
  .ret))⟩]⟩
noncomputable def morph_check_fn : Fn := ⟨2, [.tmp 4], [
 ⟨[0, 1], [.code 0],
  .reg (.op 0 (some 4) (.mov (.c (.int .i64 0))) <| .nil) <|
  .reg (.op 0 (some 7) (.mov (.t 0)) <| .op 1 (some 8) (.call 8 [(.t 7)] true (.one (.lf (.int .i64)))) <| .op 2 (some 5) (.mov (.t 8)) <| .nil) <|
  .reg (.op 0 (some 9) (.mov (.t 5)) <| .op 1 (some 10) (.bin .neq .i64 (.t 9) (.c (.int .i64 0))) <| .nil) <|
  .ite (.t 10)
  (.reg (.op 0 (some 11) (.mov (.t 5)) <| .op 1 (some 4) (.mov (.t 11)) <| .nil) <|
  .ret)
  (.reg (.op 0 (some 12) (.mov (.t 1)) <| .op 1 (some 13) (.call 8 [(.t 12)] true (.one (.lf (.int .i64)))) <| .op 2 (some 6) (.mov (.t 13)) <| .nil) <|
  .reg (.op 0 (some 14) (.mov (.t 6)) <| .op 1 (some 15) (.bin .neq .i64 (.t 14) (.c (.int .i64 0))) <| .nil) <|
  .ite (.t 15)
  (.reg (.op 0 (some 16) (.mov (.t 6)) <| .op 1 (some 4) (.mov (.t 16)) <| .nil) <|
  .ret)
  (.reg (.op 0 (some 17) (.mov (.t 0)) <| .op 1 (some 18) (.len (.t 17)) <| .op 2 (some 19) (.bin .gtr .i64 (.t 18) (.c (.int .i64 8))) <| .op 3 (some 20) (.mov (.t 19)) <| .grp 20 false (.op 4 (some 21) (.mov (.t 1)) <| .op 5 (some 22) (.len (.t 21)) <| .op 6 (some 23) (.bin .gtr .i64 (.t 22) (.c (.int .i64 8))) <| .nil) 7 24 (.t 23) <| .nil) <|
  .ite (.t 24)
  (.reg (.op 0 (some 4) (.mov (.c (.int .i64 3))) <| .nil) <|
  .ret)
  (.reg (.op 0 (some 4) (.mov (.c (.int .i64 0))) <| .nil) <|
  .ret)))⟩]⟩
noncomputable def semigroup_morph_search_set_fn : Fn := ⟨4, [.tmp 8, .tmp 9], [
 ⟨[0, 1, 2, 3], [.code 0],
  .reg (.op 0 (some 8) (.mov (.c (.sl ⟨none, 0⟩))) <| .op 1 (some 9) (.mov (.c (.bool false))) <| .nil) <|
  .reg (.op 0 (some 16) (.bsl 1 [] 0 []) <| .op 1 (some 17) (.mov (.t 1)) <| .op 2 (some 18) (.app 1 8 (.t 16) (.t 17)) <| .op 3 (some 1) (.mov (.t 18)) <| .nil) <|
  .reg (.op 0 (some 19) (.mov (.t 2)) <| .op 1 (some 20) (.mov (.t 3)) <| .op 2 (some 21) (.bld [(.int .i64 0), (.int .i64 0)] [(0, 1, (.t 19)), (1, 1, (.t 20))]) <| .op 3 (some 22) (.bsl 2 [(.int .i64 0), (.int .i64 0)] 1 [(0, 2, (.t 21))]) <| .op 4 (some 10) (.mov (.t 22)) <| .nil) <|
  .jump 1⟩,
 ⟨[0, 1, 10], [.code 11, .code 12, .code 15, .inLoop 8, .inBlock 7, .code 79],
  .reg (.op 0 (some 23) (.mov (.t 10)) <| .op 1 (some 24) (.len (.t 23)) <| .op 2 (some 25) (.bin .gtr .i64 (.t 24) (.c (.int .i64 0))) <| .nil) <|
  .ite (.t 25)
  (.reg (.op 0 (some 26) (.mov (.t 10)) <| .op 1 (some 27) (.mov (.t 10)) <| .op 2 (some 28) (.len (.t 27)) <| .op 3 (some 29) (.bin .sub .i64 (.t 28) (.c (.int .i64 1))) <| .op 4 (some 30) (.iadr (.t 26) (.t 29) 2) <| .op 5 (some 31) (.ld (.agg [(.int .i64), (.int .i64)]) (.t 30)) <| .op 6 (some 11) (.alloc [(.int .i64 0), (.int .i64 0)]) <| .op 7 none (.st (some 2) (.t 11) (.t 31)) <| .nil) <|
  .reg (.op 0 (some 32) (.mov (.t 10)) <| .op 1 (some 33) (.mov (.t 10)) <| .op 2 (some 34) (.len (.t 33)) <| .op 3 (some 35) (.bin .sub .i64 (.t 34) (.c (.int .i64 1))) <| .op 4 (some 36) (.pf (.slc 2) [(.t 32), (.c (.int .i64 0)), (.t 35)]) <| .op 5 (some 10) (.mov (.t 36)) <| .nil) <|
  .reg (.op 0 (some 37) (.mov (.t 1)) <| .op 1 (some 38) (.aadr (.t 11) (.c (.int .i64 0)) 2 1) <| .op 2 (some 39) (.ld (.lf (.int .i64)) (.t 38)) <| .op 3 (some 40) (.iadr (.t 37) (.t 39) 1) <| .op 4 (some 41) (.ld (.lf (.int .i64)) (.t 40)) <| .op 5 (some 42) (.bin .geq .i64 (.t 41) (.c (.int .i64 0))) <| .nil) <|
  .ite (.t 42)
  (.reg (.op 0 (some 43) (.mov (.t 1)) <| .op 1 (some 44) (.aadr (.t 11) (.c (.int .i64 0)) 2 1) <| .op 2 (some 45) (.ld (.lf (.int .i64)) (.t 44)) <| .op 3 (some 46) (.iadr (.t 43) (.t 45) 1) <| .op 4 (some 47) (.ld (.lf (.int .i64)) (.t 46)) <| .op 5 (some 48) (.aadr (.t 11) (.c (.int .i64 1)) 2 1) <| .op 6 (some 49) (.ld (.lf (.int .i64)) (.t 48)) <| .op 7 (some 50) (.bin .neq .i64 (.t 47) (.t 49)) <| .nil) <|
  .ite (.t 50)
  (.reg (.op 0 (some 8) (.mov (.c (.sl ⟨none, 0⟩))) <| .op 1 (some 9) (.mov (.c (.bool false))) <| .nil) <|
  .ret)
  (.jump 1))
  (.reg (.op 0 (some 51) (.mov (.t 1)) <| .op 1 (some 52) (.len (.t 51)) <| .op 2 (some 53) (.mov (.c (.int .i64 0))) <| .nil) <|
  .jump 2))
  (.reg (.op 0 (some 133) (.mov (.t 1)) <| .op 1 (some 8) (.mov (.t 133)) <| .op 2 (some 9) (.mov (.c (.bool true))) <| .nil) <|
  .ret)⟩,
 ⟨[0, 1, 10, 11, 51, 52, 53], [.code 40, .code 41, .inLoop 38, .inBlock 37, .code 57, .inBlock 15, .inLoop 8, .inBlock 7, .code 79],
  .reg (.op 0 (some 54) (.bin .lss .i64 (.t 53) (.t 52)) <| .nil) <|
  .ite (.t 54)
  (.reg (.op 0 (some 55) (.iadr (.t 51) (.t 53) 1) <| .op 1 (some 56) (.ld (.lf (.int .i64)) (.t 55)) <| .op 2 (some 13) (.mov (.t 56)) <| .nil) <|
  .reg (.op 0 (some 57) (.mov (.t 0)) <| .op 1 (some 58) (.nilck (.t 57)) <| .op 2 (some 59) (.fadr (.t 58) 2) <| .op 3 (some 60) (.ld (.lf .bool) (.t 59)) <| .op 4 (some 61) (.mov (.t 60)) <| .grp 61 true (.op 5 (some 62) (.mov (.t 13)) <| .op 6 (some 63) (.aadr (.t 11) (.c (.int .i64 1)) 2 1) <| .op 7 (some 64) (.ld (.lf (.int .i64)) (.t 63)) <| .op 8 (some 65) (.bin .eql .i64 (.t 62) (.t 64)) <| .nil) 9 66 (.t 65) <| .nil) <|
  .ite (.t 66)
  (.reg (.op 0 (some 8) (.mov (.c (.sl ⟨none, 0⟩))) <| .op 1 (some 9) (.mov (.c (.bool false))) <| .nil) <|
  .ret)
  (.reg (.op 0 (some 67) (.bin .add .i64 (.t 53) (.c (.int .i64 1))) <| .op 1 (some 53) (.mov (.t 67)) <| .nil) <|
  .jump 2))
  (.reg (.op 0 (some 68) (.mov (.t 1)) <| .op 1 (some 69) (.aadr (.t 11) (.c (.int .i64 0)) 2 1) <| .op 2 (some 70) (.ld (.lf (.int .i64)) (.t 69)) <| .op 3 (some 71) (.aadr (.t 11) (.c (.int .i64 1)) 2 1) <| .op 4 (some 72) (.ld (.lf (.int .i64)) (.t 71)) <| .op 5 (some 73) (.iadr (.t 68) (.t 70) 1) <| .op 6 none (.st none (.t 73) (.t 72)) <| .nil) <|
  .reg (.op 0 (some 74) (.mov (.t 1)) <| .op 1 (some 75) (.len (.t 74)) <| .op 2 (some 76) (.mov (.c (.int .i64 0))) <| .nil) <|
  .jump 3)⟩,
 ⟨[0, 1, 10, 11, 74, 75, 76], [.code 64, .code 65, .inLoop 62, .inBlock 61, .inBlock 15, .inLoop 8, .inBlock 7, .code 79],
  .reg (.op 0 (some 77) (.bin .lss .i64 (.t 76) (.t 75)) <| .nil) <|
  .ite (.t 77)
  (.reg (.op 0 (some 78) (.mov (.t 76)) <| .op 1 (some 79) (.iadr (.t 74) (.t 76) 1) <| .op 2 (some 80) (.ld (.lf (.int .i64)) (.t 79)) <| .op 3 (some 14) (.mov (.t 78)) <| .op 4 (some 15) (.mov (.t 80)) <| .nil) <|
  .reg (.op 0 (some 81) (.mov (.t 15)) <| .op 1 (some 82) (.bin .geq .i64 (.t 81) (.c (.int .i64 0))) <| .nil) <|
  .ite (.t 82)
  (.reg (.op 0 (some 83) (.mov (.t 10)) <| .op 1 (some 84) (.mov (.t 0)) <| .op 2 (some 85) (.nilck (.t 84)) <| .op 3 (some 86) (.fadr (.t 85) 0) <| .op 4 (some 87) (.ld (.lf .sl) (.t 86)) <| .op 5 (some 88) (.aadr (.t 11) (.c (.int .i64 0)) 2 1) <| .op 6 (some 89) (.ld (.lf (.int .i64)) (.t 88)) <| .op 7 (some 90) (.iadr (.t 87) (.t 89) 1) <| .op 8 (some 91) (.ld (.lf .sl) (.t 90)) <| .op 9 (some 92) (.mov (.t 14)) <| .op 10 (some 93) (.iadr (.t 91) (.t 92) 1) <| .op 11 (some 94) (.ld (.lf (.int .i64)) (.t 93)) <| .op 12 (some 95) (.mov (.t 0)) <| .op 13 (some 96) (.nilck (.t 95)) <| .op 14 (some 97) (.fadr (.t 96) 1) <| .op 15 (some 98) (.ld (.lf .sl) (.t 97)) <| .op 16 (some 99) (.aadr (.t 11) (.c (.int .i64 1)) 2 1) <| .op 17 (some 100) (.ld (.lf (.int .i64)) (.t 99)) <| .op 18 (some 101) (.iadr (.t 98) (.t 100) 1) <| .op 19 (some 102) (.ld (.lf .sl) (.t 101)) <| .op 20 (some 103) (.mov (.t 15)) <| .op 21 (some 104) (.iadr (.t 102) (.t 103) 1) <| .op 22 (some 105) (.ld (.lf (.int .i64)) (.t 104)) <| .op 23 (some 106) (.bld [(.int .i64 0), (.int .i64 0)] [(0, 1, (.t 94)), (1, 1, (.t 105))]) <| .op 24 (some 107) (.mov (.t 0)) <| .op 25 (some 108) (.nilck (.t 107)) <| .op 26 (some 109) (.fadr (.t 108) 0) <| .op 27 (some 110) (.ld (.lf .sl) (.t 109)) <| .op 28 (some 111) (.mov (.t 14)) <| .op 29 (some 112) (.iadr (.t 110) (.t 111) 1) <| .op 30 (some 113) (.ld (.lf .sl) (.t 112)) <| .op 31 (some 114) (.aadr (.t 11) (.c (.int .i64 0)) 2 1) <| .op 32 (some 115) (.ld (.lf (.int .i64)) (.t 114)) <| .op 33 (some 116) (.iadr (.t 113) (.t 115) 1) <| .op 34 (some 117) (.ld (.lf (.int .i64)) (.t 116)) <| .op 35 (some 118) (.mov (.t 0)) <| .op 36 (some 119) (.nilck (.t 118)) <| .op 37 (some 120) (.fadr (.t 119) 1) <| .op 38 (some 121) (.ld (.lf .sl) (.t 120)) <| .op 39 (some 122) (.mov (.t 15)) <| .op 40 (some 123) (.iadr (.t 121) (.t 122) 1) <| .op 41 (some 124) (.ld (.lf .sl) (.t 123)) <| .op 42 (some 125) (.aadr (.t 11) (.c (.int .i64 1)) 2 1) <| .op 43 (some 126) (.ld (.lf (.int .i64)) (.t 125)) <| .op 44 (some 127) (.iadr (.t 124) (.t 126) 1) <| .op 45 (some 128) (.ld (.lf (.int .i64)) (.t 127)) <| .op 46 (some 129) (.bld [(.int .i64 0), (.int .i64 0)] [(0, 1, (.t 117)), (1, 1, (.t 128))]) <| .op 47 (some 130) (.bsl 2 [(.int .i64 0), (.int .i64 0), (.int .i64 0), (.int .i64 0)] 2 [(0, 2, (.t 106)), (2, 2, (.t 129))]) <| .op 48 (some 131) (.app 2 16 (.t 83) (.t 130)) <| .op 49 (some 10) (.mov (.t 131)) <| .nil) <|
  .jump 4)
  (.jump 4))
  (.jump 1)⟩,
 ⟨[0, 1, 10, 11, 74, 75, 76], [.code 78, .inLoop 62, .inBlock 61, .inBlock 15, .inLoop 8, .inBlock 7, .code 79],
  .reg (.op 0 (some 132) (.bin .add .i64 (.t 76) (.c (.int .i64 1))) <| .op 1 (some 76) (.mov (.t 132)) <| .nil) <|
  .jump 3⟩]⟩
noncomputable def semigroup_morph_search_extend_fn : Fn := ⟨2, [], [
 ⟨[0, 1], [.code 0],
  .reg (.op 0 (some 4) (.mov (.c (.int .i64 0))) <| .nil) <|
  .jump 1⟩,
 ⟨[0, 1, 4], [.code 7, .code 8, .code 11, .inLoop 4, .inBlock 3, .code 13],
  .reg (.op 0 (some 8) (.mov (.t 4)) <| .op 1 (some 9) (.mov (.t 1)) <| .op 2 (some 10) (.len (.t 9)) <| .op 3 (some 11) (.bin .lss .i64 (.t 8) (.t 10)) <| .op 4 (some 12) (.mov (.t 11)) <| .grp 12 true (.op 5 (some 13) (.mov (.t 1)) <| .op 6 (some 14) (.mov (.t 4)) <| .op 7 (some 15) (.iadr (.t 13) (.t 14) 1) <| .op 8 (some 16) (.ld (.lf (.int .i64)) (.t 15)) <| .op 9 (some 17) (.bin .geq .i64 (.t 16) (.c (.int .i64 0))) <| .nil) 10 18 (.t 17) <| .nil) <|
  .ite (.t 18)
  (.reg (.op 0 (some 19) (.mov (.t 4)) <| .op 1 (some 20) (.bin .add .i64 (.t 19) (.c (.int .i64 1))) <| .op 2 (some 4) (.mov (.t 20)) <| .nil) <|
  .jump 1)
  (.reg (.op 0 (some 21) (.mov (.t 4)) <| .op 1 (some 22) (.mov (.t 1)) <| .op 2 (some 23) (.len (.t 22)) <| .op 3 (some 24) (.bin .eql .i64 (.t 21) (.t 23)) <| .nil) <|
  .ite (.t 24)
  (.reg (.op 0 (some 25) (.mov (.t 0)) <| .op 1 (some 26) (.mov (.t 0)) <| .op 2 (some 27) (.nilck (.t 26)) <| .op 3 (some 28) (.fadr (.t 27) 4) <| .op 4 (some 29) (.ld (.lf .sl) (.t 28)) <| .op 5 (some 30) (.mov (.t 1)) <| .op 6 (some 31) (.bsl 1 [(.sl ⟨none, 0⟩)] 1 [(0, 1, (.t 30))]) <| .op 7 (some 32) (.app 1 24 (.t 29) (.t 31)) <| .op 8 (some 33) (.nilck (.t 25)) <| .op 9 (some 34) (.fadr (.t 33) 4) <| .op 10 none (.st none (.t 34) (.t 32)) <| .nil) <|
  .ret)
  (.reg (.op 0 (some 35) (.mov (.t 0)) <| .op 1 (some 36) (.nilck (.t 35)) <| .op 2 (some 37) (.fadr (.t 36) 1) <| .op 3 (some 38) (.ld (.lf .sl) (.t 37)) <| .op 4 (some 39) (.len (.t 38)) <| .op 5 (some 40) (.mov (.c (.int .i64 0))) <| .nil) <|
  .jump 2))⟩,
 ⟨[0, 1, 4, 39, 40], [.code 26, .code 27, .inLoop 24, .inBlock 23],
  .reg (.op 0 (some 41) (.bin .lss .i64 (.t 40) (.t 39)) <| .nil) <|
  .ite (.t 41)
  (.reg (.op 0 (some 42) (.mov (.t 40)) <| .op 1 (some 5) (.mov (.t 42)) <| .nil) <|
  .reg (.op 0 (some 43) (.mov (.t 0)) <| .op 1 (some 44) (.nilck (.t 43)) <| .op 2 (some 45) (.fadr (.t 44) 4) <| .op 3 (some 46) (.ld (.lf .sl) (.t 45)) <| .op 4 (some 47) (.len (.t 46)) <| .op 5 (some 48) (.mov (.t 0)) <| .op 6 (some 49) (.nilck (.t 48)) <| .op 7 (some 50) (.fadr (.t 49) 3) <| .op 8 (some 51) (.ld (.lf (.int .i64)) (.t 50)) <| .op 9 (some 52) (.bin .gtr .i64 (.t 47) (.t 51)) <| .nil) <|
  .ite (.t 52)
  (.ret)
  (.reg (.op 0 (some 54) (.mov (.t 0)) <| .op 1 (some 55) (.mov (.t 1)) <| .op 2 (some 56) (.mov (.t 4)) <| .op 3 (some 57) (.mov (.t 5)) <| .op 4 (some 58) (.call 10 [(.t 54), (.t 55), (.t 56), (.t 57)] false (.tup [(.lf .sl), (.lf .bool)])) <| .op 5 (some 53) (.mov (.t 58)) <| .op 6 (some 59) (.ext (.t 53) 0) <| .op 7 (some 60) (.ext (.t 53) 1) <| .op 8 (some 6) (.mov (.t 59)) <| .op 9 (some 7) (.mov (.t 60)) <| .nil) <|
  .reg (.op 0 (some 61) (.mov (.t 7)) <| .nil) <|
  .ite (.t 61)
  (.reg (.op 0 (some 62) (.mov (.t 0)) <| .op 1 (some 63) (.mov (.t 6)) <| .op 2 (some 64) (.call 11 [(.t 62), (.t 63)] false (.tup [])) <| .nil) <|
  .jump 3)
  (.jump 3)))
  (.ret)⟩,
 ⟨[0, 1, 4, 39, 40], [.code 48, .inLoop 24, .inBlock 23],
  .reg (.op 0 (some 65) (.bin .add .i64 (.t 40) (.c (.int .i64 1))) <| .op 1 (some 40) (.mov (.t 65)) <| .nil) <|
  .jump 2⟩]⟩
noncomputable def morph_find_fn : Fn := ⟨4, [.tmp 8], [
 ⟨[0, 1, 2, 3], [.code 0],
  .reg (.op 0 (some 8) (.mov (.c (.sl ⟨none, 0⟩))) <| .nil) <|
  .reg (.op 0 (some 12) (.mov (.t 0)) <| .op 1 (some 13) (.mov (.t 1)) <| .op 2 (some 14) (.mov (.t 2)) <| .op 3 (some 15) (.mov (.t 3)) <| .op 4 (some 16) (.bld [(.sl ⟨none, 0⟩), (.sl ⟨none, 0⟩), (.bool false), (.int .i64 0), (.sl ⟨none, 0⟩)] [(0, 1, (.t 12)), (1, 1, (.t 13)), (2, 1, (.t 14)), (3, 1, (.t 15))]) <| .op 5 (some 17) (.box 5 (.t 16)) <| .op 6 (some 9) (.mov (.t 17)) <| .nil) <|
  .reg (.op 0 (some 18) (.mov (.t 0)) <| .op 1 (some 19) (.len (.t 18)) <| .op 2 (some 20) (.mksl [(.int .i64 0)] 8 (.t 19) (.t 19)) <| .op 3 (some 10) (.mov (.t 20)) <| .nil) <|
  .reg (.op 0 (some 21) (.mov (.t 10)) <| .op 1 (some 22) (.len (.t 21)) <| .op 2 (some 23) (.mov (.c (.int .i64 0))) <| .nil) <|
  .jump 1⟩,
 ⟨[9, 10, 22, 23], [.code 12, .code 13, .inLoop 10, .inBlock 9, .code 23],
  .reg (.op 0 (some 24) (.bin .lss .i64 (.t 23) (.t 22)) <| .nil) <|
  .ite (.t 24)
  (.reg (.op 0 (some 25) (.mov (.t 23)) <| .op 1 (some 11) (.mov (.t 25)) <| .nil) <|
  .reg (.op 0 (some 26) (.mov (.t 10)) <| .op 1 (some 27) (.mov (.t 11)) <| .op 2 (some 28) (.iadr (.t 26) (.t 27) 1) <| .op 3 none (.st none (.t 28) (.c (.int .i64 (-1)))) <| .nil) <|
  .reg (.op 0 (some 29) (.bin .add .i64 (.t 23) (.c (.int .i64 1))) <| .op 1 (some 23) (.mov (.t 29)) <| .nil) <|
  .jump 1)
  (.reg (.op 0 (some 30) (.mov (.t 9)) <| .op 1 (some 31) (.mov (.t 10)) <| .op 2 (some 32) (.call 11 [(.t 30), (.t 31)] false (.tup [])) <| .nil) <|
  .reg (.op 0 (some 33) (.mov (.t 9)) <| .op 1 (some 34) (.nilck (.t 33)) <| .op 2 (some 35) (.fadr (.t 34) 4) <| .op 3 (some 36) (.ld (.lf .sl) (.t 35)) <| .op 4 (some 8) (.mov (.t 36)) <| .nil) <|
  .ret)⟩]⟩
noncomputable def morph_Homs_fn : Fn := ⟨2, [.tmp 4, .tmp 5], [
 ⟨[0, 1], [.code 0],
  .reg (.op 0 (some 4) (.mov (.c (.sl ⟨none, 0⟩))) <| .op 1 (some 5) (.mov (.c (.int .i64 0))) <| .nil) <|
  .reg (.op 0 (some 8) (.mov (.t 0)) <| .op 1 (some 9) (.mov (.t 1)) <| .op 2 (some 10) (.call 9 [(.t 8), (.t 9)] true (.one (.lf (.int .i64)))) <| .op 3 (some 6) (.mov (.t 10)) <| .nil) <|
  .reg (.op 0 (some 11) (.mov (.t 6)) <| .op 1 (some 12) (.bin .neq .i64 (.t 11) (.c (.int .i64 0))) <| .nil) <|
  .ite (.t 12)
  (.reg (.op 0 (some 13) (.mov (.t 6)) <| .op 1 (some 4) (.mov (.c (.sl ⟨none, 0⟩))) <| .op 2 (some 5) (.mov (.t 13)) <| .nil) <|
  .ret)
  (.reg (.op 0 (some 14) (.mov (.t 0)) <| .op 1 (some 15) (.mov (.t 1)) <| .op 2 (some 16) (.call 12 [(.t 14), (.t 15), (.c (.bool false)), (.c (.int .i64 2000))] true (.one (.lf .sl))) <| .op 3 (some 7) (.mov (.t 16)) <| .nil) <|
  .reg (.op 0 (some 17) (.mov (.t 7)) <| .op 1 (some 18) (.len (.t 17)) <| .op 2 (some 19) (.bin .gtr .i64 (.t 18) (.c (.int .i64 2000))) <| .nil) <|
  .ite (.t 19)
  (.reg (.op 0 (some 4) (.mov (.c (.sl ⟨none, 0⟩))) <| .op 1 (some 5) (.mov (.c (.int .i64 3))) <| .nil) <|
  .ret)
  (.reg (.op 0 (some 20) (.mov (.t 7)) <| .op 1 (some 4) (.mov (.t 20)) <| .op 2 (some 5) (.mov (.c (.int .i64 0))) <| .nil) <|
  .ret))⟩]⟩
noncomputable def semigroupref03_Same_fn : Fn := ⟨2, [.tmp 4], [
 ⟨[0, 1], [.code 0],
  .reg (.op 0 (some 4) (.mov (.c (.bool false))) <| .nil) <|
  .reg (.op 0 (some 6) (.mov (.t 0)) <| .op 1 (some 7) (.len (.t 6)) <| .op 2 (some 8) (.mov (.t 1)) <| .op 3 (some 9) (.len (.t 8)) <| .op 4 (some 10) (.bin .neq .i64 (.t 7) (.t 9)) <| .nil) <|
  .ite (.t 10)
  (.reg (.op 0 (some 4) (.mov (.c (.bool false))) <| .nil) <|
  .ret)
  (.reg (.op 0 (some 11) (.mov (.t 0)) <| .op 1 (some 12) (.len (.t 11)) <| .op 2 (some 13) (.mov (.c (.int .i64 0))) <| .nil) <|
  .jump 1)⟩,
 ⟨[0, 1, 12, 13], [.code 16, .code 17, .inLoop 14, .inBlock 13, .code 33],
  .reg (.op 0 (some 14) (.bin .lss .i64 (.t 13) (.t 12)) <| .nil) <|
  .ite (.t 14)
  (.reg (.op 0 (some 15) (.mov (.t 13)) <| .op 1 (some 5) (.mov (.t 15)) <| .nil) <|
  .reg (.op 0 (some 16) (.mov (.t 0)) <| .op 1 (some 17) (.mov (.t 5)) <| .op 2 (some 18) (.iadr (.t 16) (.t 17) 1) <| .op 3 (some 19) (.ld (.lf (.int .i64)) (.t 18)) <| .op 4 (some 20) (.mov (.t 1)) <| .op 5 (some 21) (.mov (.t 5)) <| .op 6 (some 22) (.iadr (.t 20) (.t 21) 1) <| .op 7 (some 23) (.ld (.lf (.int .i64)) (.t 22)) <| .op 8 (some 24) (.bin .neq .i64 (.t 19) (.t 23)) <| .nil) <|
  .ite (.t 24)
  (.reg (.op 0 (some 4) (.mov (.c (.bool false))) <| .nil) <|
  .ret)
  (.reg (.op 0 (some 25) (.bin .add .i64 (.t 13) (.c (.int .i64 1))) <| .op 1 (some 13) (.mov (.t 25)) <| .nil) <|
  .jump 1))
  (.reg (.op 0 (some 4) (.mov (.c (.bool true))) <| .nil) <|
  .ret)⟩]⟩
noncomputable def semigroupref03_SameRows_fn : Fn := ⟨2, [.tmp 4], [
 ⟨[0, 1], [.code 0],
  .reg (.op 0 (some 4) (.mov (.c (.bool false))) <| .nil) <|
  .reg (.op 0 (some 6) (.mov (.t 0)) <| .op 1 (some 7) (.len (.t 6)) <| .op 2 (some 8) (.mov (.t 1)) <| .op 3 (some 9) (.len (.t 8)) <| .op 4 (some 10) (.bin .neq .i64 (.t 7) (.t 9)) <| .nil) <|
  .ite (.t 10)
  (.reg (.op 0 (some 4) (.mov (.c (.bool false))) <| .nil) <|
  .ret)
  (.reg (.op 0 (some 11) (.mov (.t 0)) <| .op 1 (some 12) (.len (.t 11)) <| .op 2 (some 13) (.mov (.c (.int .i64 0))) <| .nil) <|
  .jump 1)⟩,
 ⟨[0, 1, 12, 13], [.code 16, .code 17, .inLoop 14, .inBlock 13, .code 33],
  .reg (.op 0 (some 14) (.bin .lss .i64 (.t 13) (.t 12)) <| .nil) <|
  .ite (.t 14)
  (.reg (.op 0 (some 15) (.mov (.t 13)) <| .op 1 (some 5) (.mov (.t 15)) <| .nil) <|
  .reg (.op 0 (some 16) (.mov (.t 0)) <| .op 1 (some 17) (.mov (.t 5)) <| .op 2 (some 18) (.iadr (.t 16) (.t 17) 1) <| .op 3 (some 19) (.ld (.lf .sl) (.t 18)) <| .op 4 (some 20) (.mov (.t 1)) <| .op 5 (some 21) (.mov (.t 5)) <| .op 6 (some 22) (.iadr (.t 20) (.t 21) 1) <| .op 7 (some 23) (.ld (.lf .sl) (.t 22)) <| .op 8 (some 24) (.call 14 [(.t 19), (.t 23)] true (.one (.lf .bool))) <| .op 9 (some 25) (.not (.t 24)) <| .nil) <|
  .ite (.t 25)
  (.reg (.op 0 (some 4) (.mov (.c (.bool false))) <| .nil) <|
  .ret)
  (.reg (.op 0 (some 26) (.bin .add .i64 (.t 13) (.c (.int .i64 1))) <| .op 1 (some 13) (.mov (.t 26)) <| .nil) <|
  .jump 1))
  (.reg (.op 0 (some 4) (.mov (.c (.bool true))) <| .nil) <|
  .ret)⟩]⟩
noncomputable def semigrouplaw20_awake_fn : Fn := ⟨0, [.tmp 0], [
 ⟨[], [.code 0],
  .reg (.op 0 (some 0) (.mov (.c (.bool false))) <| .nil) <|
  .reg (.op 0 (some 4) (.call 5 [] true (.one (.lf .sl))) <| .op 1 (some 5) (.call 5 [] true (.one (.lf .sl))) <| .op 2 (some 6) (.call 13 [(.t 4), (.t 5)] true (.tup [(.lf .sl), (.lf (.int .i64))])) <| .op 3 (some 3) (.mov (.t 6)) <| .op 4 (some 7) (.ext (.t 3) 0) <| .op 5 (some 8) (.ext (.t 3) 1) <| .op 6 (some 1) (.mov (.t 7)) <| .op 7 (some 2) (.mov (.t 8)) <| .nil) <|
  .reg (.op 0 (some 9) (.mov (.t 2)) <| .op 1 (some 10) (.bin .eql .i64 (.t 9) (.c (.int .i64 0))) <| .op 2 (some 11) (.mov (.t 10)) <| .grp 11 true (.op 3 (some 12) (.mov (.t 1)) <| .op 4 (some 13) (.bsl 1 [(.int .i64 0), (.int .i64 0)] 2 [(0, 1, (.c (.int .i64 0))), (1, 1, (.c (.int .i64 0)))]) <| .op 5 (some 14) (.bsl 1 [(.int .i64 0), (.int .i64 0)] 2 [(0, 1, (.c (.int .i64 0))), (1, 1, (.c (.int .i64 1)))]) <| .op 6 (some 15) (.bsl 1 [(.sl ⟨none, 0⟩), (.sl ⟨none, 0⟩)] 2 [(0, 1, (.t 13)), (1, 1, (.t 14))]) <| .op 7 (some 16) (.call 15 [(.t 12), (.t 15)] true (.one (.lf .bool))) <| .nil) 8 17 (.t 16) <| .op 9 (some 0) (.mov (.t 17)) <| .nil) <|
  .ret⟩]⟩
noncomputable def semigroupref03_Discrete_fn : Fn := ⟨1, [.tmp 2], [
 ⟨[0], [.code 0],
  .reg (.op 0 (some 2) (.mov (.c (.sl ⟨none, 0⟩))) <| .nil) <|
  .reg (.op 0 (some 5) (.mov (.t 0)) <| .op 1 (some 6) (.mksl [(.int .i64 0)] 8 (.t 5) (.t 5)) <| .op 2 (some 3) (.mov (.t 6)) <| .nil) <|
  .reg (.op 0 (some 7) (.mov (.t 3)) <| .op 1 (some 8) (.len (.t 7)) <| .op 2 (some 9) (.mov (.c (.int .i64 0))) <| .nil) <|
  .jump 1⟩,
 ⟨[3, 8, 9], [.code 10, .code 11, .inLoop 8, .inBlock 7, .code 21],
  .reg (.op 0 (some 10) (.bin .lss .i64 (.t 9) (.t 8)) <| .nil) <|
  .ite (.t 10)
  (.reg (.op 0 (some 11) (.mov (.t 9)) <| .op 1 (some 4) (.mov (.t 11)) <| .nil) <|
  .reg (.op 0 (some 12) (.mov (.t 3)) <| .op 1 (some 13) (.mov (.t 4)) <| .op 2 (some 14) (.mov (.t 4)) <| .op 3 (some 15) (.iadr (.t 12) (.t 13) 1) <| .op 4 none (.st none (.t 15) (.t 14)) <| .nil) <|
  .reg (.op 0 (some 16) (.bin .add .i64 (.t 9) (.c (.int .i64 1))) <| .op 1 (some 9) (.mov (.t 16)) <| .nil) <|
  .jump 1)
  (.reg (.op 0 (some 17) (.mov (.t 3)) <| .op 1 (some 2) (.mov (.t 17)) <| .nil) <|
  .ret)⟩]⟩
noncomputable def semigroupref03_Copy_fn : Fn := ⟨1, [.tmp 2], [
 ⟨[0], [.code 0],
  .reg (.op 0 (some 2) (.mov (.c (.sl ⟨none, 0⟩))) <| .nil) <|
  .reg (.op 0 (some 3) (.mov (.c (.sl ⟨none, 0⟩))) <| .nil) <|
  .reg (.op 0 (some 6) (.mov (.t 0)) <| .op 1 (some 7) (.len (.t 6)) <| .op 2 (some 8) (.mov (.c (.int .i64 0))) <| .nil) <|
  .jump 1⟩,
 ⟨[3, 6, 7, 8], [.code 10, .code 11, .inLoop 8, .inBlock 7, .code 21],
  .reg (.op 0 (some 9) (.bin .lss .i64 (.t 8) (.t 7)) <| .nil) <|
  .ite (.t 9)
  (.reg (.op 0 (some 10) (.iadr (.t 6) (.t 8) 1) <| .op 1 (some 11) (.ld (.lf .sl) (.t 10)) <| .op 2 (some 5) (.mov (.t 11)) <| .nil) <|
  .reg (.op 0 (some 12) (.mov (.t 3)) <| .op 1 (some 13) (.bsl 1 [] 0 []) <| .op 2 (some 14) (.mov (.t 5)) <| .op 3 (some 15) (.app 1 8 (.t 13) (.t 14)) <| .op 4 (some 16) (.bsl 1 [(.sl ⟨none, 0⟩)] 1 [(0, 1, (.t 15))]) <| .op 5 (some 17) (.app 1 24 (.t 12) (.t 16)) <| .op 6 (some 3) (.mov (.t 17)) <| .nil) <|
  .reg (.op 0 (some 18) (.bin .add .i64 (.t 8) (.c (.int .i64 1))) <| .op 1 (some 8) (.mov (.t 18)) <| .nil) <|
  .jump 1)
  (.reg (.op 0 (some 19) (.mov (.t 3)) <| .op 1 (some 2) (.mov (.t 19)) <| .nil) <|
  .ret)⟩]⟩
noncomputable def morph_Isomorphism_fn : Fn := ⟨2, [.tmp 4, .tmp 5, .tmp 6], [
 ⟨[0, 1], [.code 0],
  .reg (.op 0 (some 4) (.mov (.c (.sl ⟨none, 0⟩))) <| .op 1 (some 5) (.mov (.c (.bool false))) <| .op 2 (some 6) (.mov (.c (.int .i64 0))) <| .nil) <|
  .reg (.op 0 (some 9) (.mov (.t 0)) <| .op 1 (some 10) (.mov (.t 1)) <| .op 2 (some 11) (.call 9 [(.t 9), (.t 10)] true (.one (.lf (.int .i64)))) <| .op 3 (some 7) (.mov (.t 11)) <| .nil) <|
  .reg (.op 0 (some 12) (.mov (.t 7)) <| .op 1 (some 13) (.bin .neq .i64 (.t 12) (.c (.int .i64 0))) <| .nil) <|
  .ite (.t 13)
  (.reg (.op 0 (some 14) (.mov (.t 7)) <| .op 1 (some 4) (.mov (.c (.sl ⟨none, 0⟩))) <| .op 2 (some 5) (.mov (.c (.bool false))) <| .op 3 (some 6) (.mov (.t 14)) <| .nil) <|
  .ret)
  (.reg (.op 0 (some 15) (.mov (.t 0)) <| .op 1 (some 16) (.len (.t 15)) <| .op 2 (some 17) (.mov (.t 1)) <| .op 3 (some 18) (.len (.t 17)) <| .op 4 (some 19) (.bin .neq .i64 (.t 16) (.t 18)) <| .nil) <|
  .ite (.t 19)
  (.reg (.op 0 (some 4) (.mov (.c (.sl ⟨none, 0⟩))) <| .op 1 (some 5) (.mov (.c (.bool false))) <| .op 2 (some 6) (.mov (.c (.int .i64 0))) <| .nil) <|
  .ret)
  (.reg (.op 0 (some 20) (.mov (.t 0)) <| .op 1 (some 21) (.mov (.t 1)) <| .op 2 (some 22) (.call 12 [(.t 20), (.t 21), (.c (.bool true)), (.c (.int .i64 0))] true (.one (.lf .sl))) <| .op 3 (some 8) (.mov (.t 22)) <| .nil) <|
  .reg (.op 0 (some 23) (.mov (.t 8)) <| .op 1 (some 24) (.len (.t 23)) <| .op 2 (some 25) (.bin .eql .i64 (.t 24) (.c (.int .i64 0))) <| .nil) <|
  .ite (.t 25)
  (.reg (.op 0 (some 4) (.mov (.c (.sl ⟨none, 0⟩))) <| .op 1 (some 5) (.mov (.c (.bool false))) <| .op 2 (some 6) (.mov (.c (.int .i64 0))) <| .nil) <|
  .ret)
  (.reg (.op 0 (some 26) (.mov (.t 8)) <| .op 1 (some 27) (.iadr (.t 26) (.c (.int .i64 0)) 1) <| .op 2 (some 28) (.ld (.lf .sl) (.t 27)) <| .op 3 (some 4) (.mov (.t 28)) <| .op 4 (some 5) (.mov (.c (.bool true))) <| .op 5 (some 6) (.mov (.c (.int .i64 0))) <| .nil) <|
  .ret)))⟩]⟩
noncomputable def morph_isHom_fn : Fn := ⟨3, [.tmp 6], [
 ⟨[0, 1, 2], [.code 0],
  .reg (.op 0 (some 6) (.mov (.c (.bool false))) <| .nil) <|
  .reg (.op 0 (some 11) (.mov (.t 2)) <| .op 1 (some 12) (.len (.t 11)) <| .op 2 (some 13) (.mov (.t 0)) <| .op 3 (some 14) (.len (.t 13)) <| .op 4 (some 15) (.bin .neq .i64 (.t 12) (.t 14)) <| .nil) <|
  .ite (.t 15)
  (.reg (.op 0 (some 6) (.mov (.c (.bool false))) <| .nil) <|
  .ret)
  (.reg (.op 0 (some 16) (.mov (.t 2)) <| .op 1 (some 17) (.len (.t 16)) <| .op 2 (some 18) (.mov (.c (.int .i64 0))) <| .nil) <|
  .jump 1)⟩,
 ⟨[0, 1, 2, 16, 17, 18], [.code 16, .code 17, .inLoop 14, .inBlock 13, .code 33],
  .reg (.op 0 (some 19) (.bin .lss .i64 (.t 18) (.t 17)) <| .nil) <|
  .ite (.t 19)
  (.reg (.op 0 (some 20) (.iadr (.t 16) (.t 18) 1) <| .op 1 (some 21) (.ld (.lf (.int .i64)) (.t 20)) <| .op 2 (some 8) (.mov (.t 21)) <| .nil) <|
  .reg (.op 0 (some 22) (.mov (.t 8)) <| .op 1 (some 23) (.bin .lss .i64 (.t 22) (.c (.int .i64 0))) <| .op 2 (some 24) (.mov (.t 23)) <| .grp 24 false (.op 3 (some 25) (.mov (.t 8)) <| .op 4 (some 26) (.mov (.t 1)) <| .op 5 (some 27) (.len (.t 26)) <| .op 6 (some 28) (.bin .geq .i64 (.t 25) (.t 27)) <| .nil) 7 29 (.t 28) <| .nil) <|
  .ite (.t 29)
  (.reg (.op 0 (some 6) (.mov (.c (.bool false))) <| .nil) <|
  .ret)
  (.reg (.op 0 (some 30) (.bin .add .i64 (.t 18) (.c (.int .i64 1))) <| .op 1 (some 18) (.mov (.t 30)) <| .nil) <|
  .jump 1))
  (.reg (.op 0 (some 31) (.mov (.t 0)) <| .op 1 (some 32) (.len (.t 31)) <| .op 2 (some 33) (.mov (.c (.int .i64 0))) <| .nil) <|
  .jump 2)⟩,
 ⟨[0, 1, 2, 32, 33], [.code 39, .code 40, .inLoop 37, .inBlock 36, .code 71],
  .reg (.op 0 (some 34) (.bin .lss .i64 (.t 33) (.t 32)) <| .nil) <|
  .ite (.t 34)
  (.reg (.op 0 (some 35) (.mov (.t 33)) <| .op 1 (some 9) (.mov (.t 35)) <| .nil) <|
  .reg (.op 0 (some 36) (.mov (.t 0)) <| .op 1 (some 37) (.len (.t 36)) <| .op 2 (some 38) (.mov (.c (.int .i64 0))) <| .nil) <|
  .jump 3)
  (.reg (.op 0 (some 6) (.mov (.c (.bool true))) <| .nil) <|
  .ret)⟩,
 ⟨[0, 1, 2, 9, 32, 33, 37, 38], [.code 53, .code 54, .inLoop 51, .inBlock 50, .inBlock 45, .code 70, .inLoop 37, .inBlock 36, .code 71],
  .reg (.op 0 (some 39) (.bin .lss .i64 (.t 38) (.t 37)) <| .nil) <|
  .ite (.t 39)
  (.reg (.op 0 (some 40) (.mov (.t 38)) <| .op 1 (some 10) (.mov (.t 40)) <| .nil) <|
  .reg (.op 0 (some 41) (.mov (.t 2)) <| .op 1 (some 42) (.mov (.t 0)) <| .op 2 (some 43) (.mov (.t 9)) <| .op 3 (some 44) (.iadr (.t 42) (.t 43) 1) <| .op 4 (some 45) (.ld (.lf .sl) (.t 44)) <| .op 5 (some 46) (.mov (.t 10)) <| .op 6 (some 47) (.iadr (.t 45) (.t 46) 1) <| .op 7 (some 48) (.ld (.lf (.int .i64)) (.t 47)) <| .op 8 (some 49) (.iadr (.t 41) (.t 48) 1) <| .op 9 (some 50) (.ld (.lf (.int .i64)) (.t 49)) <| .op 10 (some 51) (.mov (.t 1)) <| .op 11 (some 52) (.mov (.t 2)) <| .op 12 (some 53) (.mov (.t 9)) <| .op 13 (some 54) (.iadr (.t 52) (.t 53) 1) <| .op 14 (some 55) (.ld (.lf (.int .i64)) (.t 54)) <| .op 15 (some 56) (.iadr (.t 51) (.t 55) 1) <| .op 16 (some 57) (.ld (.lf .sl) (.t 56)) <| .op 17 (some 58) (.mov (.t 2)) <| .op 18 (some 59) (.mov (.t 10)) <| .op 19 (some 60) (.iadr (.t 58) (.t 59) 1) <| .op 20 (some 61) (.ld (.lf (.int .i64)) (.t 60)) <| .op 21 (some 62) (.iadr (.t 57) (.t 61) 1) <| .op 22 (some 63) (.ld (.lf (.int .i64)) (.t 62)) <| .op 23 (some 64) (.bin .neq .i64 (.t 50) (.t 63)) <| .nil) <|
  .ite (.t 64)
  (.reg (.op 0 (some 6) (.mov (.c (.bool false))) <| .nil) <|
  .ret)
  (.reg (.op 0 (some 65) (.bin .add .i64 (.t 38) (.c (.int .i64 1))) <| .op 1 (some 38) (.mov (.t 65)) <| .nil) <|
  .jump 3))
  (.reg (.op 0 (some 66) (.bin .add .i64 (.t 33) (.c (.int .i64 1))) <| .op 1 (some 33) (.mov (.t 66)) <| .nil) <|
  .jump 2)⟩]⟩
noncomputable def morph_IsHom_fn : Fn := ⟨3, [.tmp 6], [
 ⟨[0, 1, 2], [.code 0],
  .reg (.op 0 (some 6) (.mov (.c (.bool false))) <| .nil) <|
  .reg (.op 0 (some 7) (.mov (.t 0)) <| .op 1 (some 8) (.call 8 [(.t 7)] true (.one (.lf (.int .i64)))) <| .op 2 (some 9) (.bin .eql .i64 (.t 8) (.c (.int .i64 0))) <| .op 3 (some 10) (.mov (.t 9)) <| .grp 10 true (.op 4 (some 11) (.mov (.t 1)) <| .op 5 (some 12) (.call 8 [(.t 11)] true (.one (.lf (.int .i64)))) <| .op 6 (some 13) (.bin .eql .i64 (.t 12) (.c (.int .i64 0))) <| .nil) 7 14 (.t 13) <| .op 8 (some 15) (.mov (.t 14)) <| .grp 15 true (.op 9 (some 16) (.mov (.t 0)) <| .op 10 (some 17) (.mov (.t 1)) <| .op 11 (some 18) (.mov (.t 2)) <| .op 12 (some 19) (.call 20 [(.t 16), (.t 17), (.t 18)] true (.one (.lf .bool))) <| .nil) 13 20 (.t 19) <| .op 14 (some 6) (.mov (.t 20)) <| .nil) <|
  .ret⟩]⟩
noncomputable def morph_Image_fn : Fn := ⟨3, [.tmp 6], [
 ⟨[0, 1, 2], [.code 0],
  .reg (.op 0 (some 6) (.mov (.c (.sl ⟨none, 0⟩))) <| .nil) <|
  .reg (.op 0 (some 13) (.mov (.t 0)) <| .op 1 (some 14) (.mov (.t 1)) <| .op 2 (some 15) (.mov (.t 2)) <| .op 3 (some 16) (.call 21 [(.t 13), (.t 14), (.t 15)] true (.one (.lf .bool))) <| .op 4 (some 17) (.not (.t 16)) <| .nil) <|
  .ite (.t 17)
  (.reg (.op 0 (some 6) (.mov (.c (.sl ⟨none, 0⟩))) <| .nil) <|
  .ret)
  (.reg (.op 0 (some 18) (.mov (.t 1)) <| .op 1 (some 19) (.len (.t 18)) <| .op 2 (some 20) (.mksl [(.bool false)] 1 (.t 19) (.t 19)) <| .op 3 (some 7) (.mov (.t 20)) <| .nil) <|
  .reg (.op 0 (some 21) (.mov (.t 2)) <| .op 1 (some 22) (.len (.t 21)) <| .op 2 (some 23) (.mov (.c (.int .i64 0))) <| .nil) <|
  .jump 1)⟩,
 ⟨[7, 21, 22, 23], [.code 18, .code 19, .inLoop 16, .inBlock 15, .code 29],
  .reg (.op 0 (some 24) (.bin .lss .i64 (.t 23) (.t 22)) <| .nil) <|
  .ite (.t 24)
  (.reg (.op 0 (some 25) (.iadr (.t 21) (.t 23) 1) <| .op 1 (some 26) (.ld (.lf (.int .i64)) (.t 25)) <| .op 2 (some 9) (.mov (.t 26)) <| .nil) <|
  .reg (.op 0 (some 27) (.mov (.t 7)) <| .op 1 (some 28) (.mov (.t 9)) <| .op 2 (some 29) (.iadr (.t 27) (.t 28) 1) <| .op 3 none (.st none (.t 29) (.c (.bool true))) <| .nil) <|
  .reg (.op 0 (some 30) (.bin .add .i64 (.t 23) (.c (.int .i64 1))) <| .op 1 (some 23) (.mov (.t 30)) <| .nil) <|
  .jump 1)
  (.reg (.op 0 (some 10) (.mov (.c (.sl ⟨none, 0⟩))) <| .nil) <|
  .reg (.op 0 (some 31) (.mov (.t 7)) <| .op 1 (some 32) (.len (.t 31)) <| .op 2 (some 33) (.mov (.c (.int .i64 0))) <| .nil) <|
  .jump 2)⟩,
 ⟨[10, 31, 32, 33], [.code 37, .code 38, .inLoop 35, .inBlock 34, .code 52],
  .reg (.op 0 (some 34) (.bin .lss .i64 (.t 33) (.t 32)) <| .nil) <|
  .ite (.t 34)
  (.reg (.op 0 (some 35) (.mov (.t 33)) <| .op 1 (some 36) (.iadr (.t 31) (.t 33) 1) <| .op 2 (some 37) (.ld (.lf .bool) (.t 36)) <| .op 3 (some 11) (.mov (.t 35)) <| .op 4 (some 12) (.mov (.t 37)) <| .nil) <|
  .reg (.op 0 (some 38) (.mov (.t 12)) <| .nil) <|
  .ite (.t 38)
  (.reg (.op 0 (some 39) (.mov (.t 10)) <| .op 1 (some 40) (.mov (.t 11)) <| .op 2 (some 41) (.bsl 1 [(.int .i64 0)] 1 [(0, 1, (.t 40))]) <| .op 3 (some 42) (.app 1 8 (.t 39) (.t 41)) <| .op 4 (some 10) (.mov (.t 42)) <| .nil) <|
  .jump 3)
  (.jump 3))
  (.reg (.op 0 (some 44) (.mov (.t 10)) <| .op 1 (some 6) (.mov (.t 44)) <| .nil) <|
  .ret)⟩,
 ⟨[10, 31, 32, 33], [.code 51, .inLoop 35, .inBlock 34, .code 52],
  .reg (.op 0 (some 43) (.bin .add .i64 (.t 33) (.c (.int .i64 1))) <| .op 1 (some 33) (.mov (.t 43)) <| .nil) <|
  .jump 2⟩]⟩
noncomputable def morph_Automorphisms_fn : Fn := ⟨1, [.tmp 2, .tmp 3], [
 ⟨[0], [.code 0],
  .reg (.op 0 (some 2) (.mov (.c (.sl ⟨none, 0⟩))) <| .op 1 (some 3) (.mov (.c (.int .i64 0))) <| .nil) <|
  .reg (.op 0 (some 6) (.mov (.t 0)) <| .op 1 (some 7) (.mov (.t 0)) <| .op 2 (some 8) (.call 9 [(.t 6), (.t 7)] true (.one (.lf (.int .i64)))) <| .op 3 (some 4) (.mov (.t 8)) <| .nil) <|
  .reg (.op 0 (some 9) (.mov (.t 4)) <| .op 1 (some 10) (.bin .neq .i64 (.t 9) (.c (.int .i64 0))) <| .nil) <|
  .ite (.t 10)
  (.reg (.op 0 (some 11) (.mov (.t 4)) <| .op 1 (some 2) (.mov (.c (.sl ⟨none, 0⟩))) <| .op 2 (some 3) (.mov (.t 11)) <| .nil) <|
  .ret)
  (.reg (.op 0 (some 12) (.mov (.t 0)) <| .op 1 (some 13) (.mov (.t 0)) <| .op 2 (some 14) (.call 12 [(.t 12), (.t 13), (.c (.bool true)), (.c (.int .i64 2000))] true (.one (.lf .sl))) <| .op 3 (some 5) (.mov (.t 14)) <| .nil) <|
  .reg (.op 0 (some 15) (.mov (.t 5)) <| .op 1 (some 16) (.len (.t 15)) <| .op 2 (some 17) (.bin .gtr .i64 (.t 16) (.c (.int .i64 2000))) <| .nil) <|
  .ite (.t 17)
  (.reg (.op 0 (some 2) (.mov (.c (.sl ⟨none, 0⟩))) <| .op 1 (some 3) (.mov (.c (.int .i64 3))) <| .nil) <|
  .ret)
  (.reg (.op 0 (some 18) (.mov (.t 5)) <| .op 1 (some 2) (.mov (.t 18)) <| .op 2 (some 3) (.mov (.c (.int .i64 0))) <| .nil) <|
  .ret))⟩]⟩
noncomputable def semigrouplaw20_MorphRenames_fn : Fn := ⟨4, [.tmp 8], [
 ⟨[0, 1, 2, 3], [.code 0],
  .reg (.op 0 (some 8) (.mov (.c (.bool false))) <| .nil) <|
  .reg (.op 0 (some 31) (.mov (.t 0)) <| .op 1 (some 32) (.call 4 [(.t 31), (.c (.int .i64 6))] true (.one (.lf .bool))) <| .op 2 (some 33) (.not (.t 32)) <| .nil) <|
  .ite (.t 33)
  (.reg (.op 0 (some 34) (.call 16 [] true (.one (.lf .bool))) <| .op 1 (some 8) (.mov (.t 34)) <| .nil) <|
  .ret)
  (.reg (.op 0 (some 35) (.mov (.t 0)) <| .op 1 (some 36) (.len (.t 35)) <| .op 2 (some 9) (.mov (.t 36)) <| .nil) <|
  .reg (.op 0 (some 37) (.mov (.t 9)) <| .op 1 (some 38) (.call 17 [(.t 37)] true (.one (.lf .sl))) <| .op 2 (some 10) (.mov (.t 38)) <| .nil) <|
  .reg (.op 0 (some 39) (.mov (.t 1)) <| .op 1 (some 40) (.len (.t 39)) <| .op 2 (some 41) (.mov (.c (.int .i64 0))) <| .nil) <|
  .jump 1)⟩,
 ⟨[0, 2, 3, 9, 10, 39, 40, 41], [.code 20, .code 21, .inLoop 18, .inBlock 17, .code 37],
  .reg (.op 0 (some 42) (.bin .lss .i64 (.t 41) (.t 40)) <| .nil) <|
  .ite (.t 42)
  (.reg (.op 0 (some 43) (.mov (.t 41)) <| .op 1 (some 44) (.iadr (.t 39) (.t 41) 1) <| .op 2 (some 45) (.ld (.lf (.int .i64)) (.t 44)) <| .op 3 (some 11) (.mov (.t 43)) <| .op 4 (some 12) (.mov (.t 45)) <| .nil) <|
  .reg (.op 0 (some 46) (.mov (.t 11)) <| .op 1 (some 47) (.mov (.t 9)) <| .op 2 (some 48) (.bin .lss .i64 (.t 46) (.t 47)) <| .nil) <|
  .ite (.t 48)
  (.reg (.op 0 (some 49) (.mov (.t 12)) <| .op 1 (some 50) (.mov (.t 9)) <| .op 2 (some 51) (.bin .rem .i64 (.t 49) (.t 50)) <| .op 3 (some 52) (.mov (.t 9)) <| .op 4 (some 53) (.bin .add .i64 (.t 51) (.t 52)) <| .op 5 (some 54) (.mov (.t 9)) <| .op 6 (some 55) (.bin .rem .i64 (.t 53) (.t 54)) <| .op 7 (some 13) (.mov (.t 55)) <| .nil) <|
  .reg (.op 0 (some 56) (.mov (.t 10)) <| .op 1 (some 57) (.mov (.t 11)) <| .op 2 (some 58) (.mov (.t 10)) <| .op 3 (some 59) (.mov (.t 13)) <| .op 4 (some 60) (.mov (.t 10)) <| .op 5 (some 61) (.mov (.t 13)) <| .op 6 (some 62) (.iadr (.t 60) (.t 61) 1) <| .op 7 (some 63) (.ld (.lf (.int .i64)) (.t 62)) <| .op 8 (some 64) (.mov (.t 10)) <| .op 9 (some 65) (.mov (.t 11)) <| .op 10 (some 66) (.iadr (.t 64) (.t 65) 1) <| .op 11 (some 67) (.ld (.lf (.int .i64)) (.t 66)) <| .op 12 (some 68) (.iadr (.t 56) (.t 57) 1) <| .op 13 none (.st none (.t 68) (.t 63)) <| .op 14 (some 69) (.iadr (.t 58) (.t 59) 1) <| .op 15 none (.st none (.t 69) (.t 67)) <| .nil) <|
  .jump 2)
  (.jump 2))
  (.reg (.op 0 (some 71) (.mov (.t 0)) <| .op 1 (some 72) (.call 18 [(.t 71)] true (.one (.lf .sl))) <| .op 2 (some 14) (.mov (.t 72)) <| .nil) <|
  .reg (.op 0 (some 73) (.mov (.t 0)) <| .op 1 (some 74) (.len (.t 73)) <| .op 2 (some 75) (.mov (.c (.int .i64 0))) <| .nil) <|
  .jump 3)⟩,
 ⟨[0, 2, 3, 9, 10, 39, 40, 41], [.code 36, .inLoop 18, .inBlock 17, .code 37],
  .reg (.op 0 (some 70) (.bin .add .i64 (.t 41) (.c (.int .i64 1))) <| .op 1 (some 41) (.mov (.t 70)) <| .nil) <|
  .jump 1⟩,
 ⟨[0, 2, 3, 9, 10, 14, 74, 75], [.code 45, .code 46, .inLoop 43, .inBlock 42, .code 71],
  .reg (.op 0 (some 76) (.bin .lss .i64 (.t 75) (.t 74)) <| .nil) <|
  .ite (.t 76)
  (.reg (.op 0 (some 77) (.mov (.t 75)) <| .op 1 (some 15) (.mov (.t 77)) <| .nil) <|
  .reg (.op 0 (some 78) (.mov (.t 0)) <| .op 1 (some 79) (.len (.t 78)) <| .op 2 (some 80) (.mov (.c (.int .i64 0))) <| .nil) <|
  .jump 4)
  (.reg (.op 0 (some 108) (.mov (.t 0)) <| .op 1 (some 109) (.mov (.t 14)) <| .op 2 (some 110) (.call 19 [(.t 108), (.t 109)] true (.tup [(.lf .sl), (.lf .bool), (.lf (.int .i64))])) <| .op 3 (some 107) (.mov (.t 110)) <| .op 4 (some 111) (.ext (.t 107) 0) <| .op 5 (some 112) (.ext (.t 107) 1) <| .op 6 (some 113) (.ext (.t 107) 2) <| .op 7 (some 17) (.mov (.t 111)) <| .op 8 (some 18) (.mov (.t 112)) <| .op 9 (some 19) (.mov (.t 113)) <| .nil) <|
  .reg (.op 0 (some 114) (.mov (.t 19)) <| .op 1 (some 115) (.bin .neq .i64 (.t 114) (.c (.int .i64 0))) <| .op 2 (some 116) (.mov (.t 115)) <| .grp 116 false (.op 3 (some 117) (.mov (.t 18)) <| .op 4 (some 118) (.not (.t 117)) <| .nil) 5 119 (.t 118) <| .op 6 (some 120) (.mov (.t 119)) <| .grp 120 false (.op 7 (some 121) (.mov (.t 0)) <| .op 8 (some 122) (.mov (.t 14)) <| .op 9 (some 123) (.mov (.t 17)) <| .op 10 (some 124) (.call 21 [(.t 121), (.t 122), (.t 123)] true (.one (.lf .bool))) <| .op 11 (some 125) (.not (.t 124)) <| .nil) 12 126 (.t 125) <| .op 13 (some 127) (.mov (.t 126)) <| .grp 127 false (.op 14 (some 128) (.mov (.t 0)) <| .op 15 (some 129) (.mov (.t 14)) <| .op 16 (some 130) (.mov (.t 17)) <| .op 17 (some 131) (.call 22 [(.t 128), (.t 129), (.t 130)] true (.one (.lf .sl))) <| .op 18 (some 132) (.len (.t 131)) <| .op 19 (some 133) (.mov (.t 9)) <| .op 20 (some 134) (.bin .neq .i64 (.t 132) (.t 133)) <| .nil) 21 135 (.t 134) <| .nil) <|
  .ite (.t 135)
  (.reg (.op 0 (some 8) (.mov (.c (.bool false))) <| .nil) <|
  .ret)
  (.reg (.op 0 (some 137) (.mov (.t 0)) <| .op 1 (some 138) (.call 23 [(.t 137)] true (.tup [(.lf .sl), (.lf (.int .i64))])) <| .op 2 (some 136) (.mov (.t 138)) <| .op 3 (some 139) (.ext (.t 136) 0) <| .op 4 (some 140) (.ext (.t 136) 1) <| .op 5 (some 20) (.mov (.t 139)) <| .op 6 (some 21) (.mov (.t 140)) <| .nil) <|
  .reg (.op 0 (some 141) (.mov (.t 20)) <| .op 1 (some 142) (.len (.t 141)) <| .op 2 (some 22) (.mov (.t 142)) <| .nil) <|
  .reg (.op 0 (some 143) (.mov (.t 21)) <| .op 1 (some 144) (.bin .neq .i64 (.t 143) (.c (.int .i64 0))) <| .op 2 (some 145) (.mov (.t 144)) <| .grp 145 false (.op 3 (some 146) (.mov (.t 22)) <| .op 4 (some 147) (.bin .lss .i64 (.t 146) (.c (.int .i64 1))) <| .nil) 5 148 (.t 147) <| .op 6 (some 149) (.mov (.t 148)) <| .grp 149 false (.op 7 (some 150) (.mov (.t 20)) <| .op 8 (some 151) (.iadr (.t 150) (.c (.int .i64 0)) 1) <| .op 9 (some 152) (.ld (.lf .sl) (.t 151)) <| .op 10 (some 153) (.len (.t 152)) <| .op 11 (some 154) (.mov (.t 9)) <| .op 12 (some 155) (.bin .neq .i64 (.t 153) (.t 154)) <| .nil) 13 156 (.t 155) <| .nil) <|
  .ite (.t 156)
  (.reg (.op 0 (some 8) (.mov (.c (.bool false))) <| .nil) <|
  .ret)
  (.reg (.op 0 (some 157) (.mov (.t 20)) <| .op 1 (some 158) (.mov (.t 2)) <| .op 2 (some 159) (.mov (.t 22)) <| .op 3 (some 160) (.bin .rem .i64 (.t 158) (.t 159)) <| .op 4 (some 161) (.mov (.t 22)) <| .op 5 (some 162) (.bin .add .i64 (.t 160) (.t 161)) <| .op 6 (some 163) (.mov (.t 22)) <| .op 7 (some 164) (.bin .rem .i64 (.t 162) (.t 163)) <| .op 8 (some 165) (.iadr (.t 157) (.t 164) 1) <| .op 9 (some 166) (.ld (.lf .sl) (.t 165)) <| .op 10 (some 167) (.mov (.t 20)) <| .op 11 (some 168) (.mov (.t 3)) <| .op 12 (some 169) (.mov (.t 22)) <| .op 13 (some 170) (.bin .rem .i64 (.t 168) (.t 169)) <| .op 14 (some 171) (.mov (.t 22)) <| .op 15 (some 172) (.bin .add .i64 (.t 170) (.t 171)) <| .op 16 (some 173) (.mov (.t 22)) <| .op 17 (some 174) (.bin .rem .i64 (.t 172) (.t 173)) <| .op 18 (some 175) (.iadr (.t 167) (.t 174) 1) <| .op 19 (some 176) (.ld (.lf .sl) (.t 175)) <| .op 20 (some 23) (.mov (.t 166)) <| .op 21 (some 24) (.mov (.t 176)) <| .nil) <|
  .reg (.op 0 (some 25) (.mov (.c (.sl ⟨none, 0⟩))) <| .nil) <|
  .reg (.op 0 (some 177) (.mov (.t 23)) <| .op 1 (some 178) (.len (.t 177)) <| .op 2 (some 179) (.mov (.c (.int .i64 0))) <| .nil) <|
  .jump 5)))⟩,
 ⟨[0, 2, 3, 9, 10, 14, 15, 74, 75, 79, 80], [.code 59, .code 60, .inLoop 57, .inBlock 56, .inBlock 51, .code 70, .inLoop 43, .inBlock 42, .code 71],
  .reg (.op 0 (some 81) (.bin .lss .i64 (.t 80) (.t 79)) <| .nil) <|
  .ite (.t 81)
  (.reg (.op 0 (some 82) (.mov (.t 80)) <| .op 1 (some 16) (.mov (.t 82)) <| .nil) <|
  .reg (.op 0 (some 83) (.mov (.t 14)) <| .op 1 (some 84) (.mov (.t 10)) <| .op 2 (some 85) (.mov (.t 15)) <| .op 3 (some 86) (.iadr (.t 84) (.t 85) 1) <| .op 4 (some 87) (.ld (.lf (.int .i64)) (.t 86)) <| .op 5 (some 88) (.iadr (.t 83) (.t 87) 1) <| .op 6 (some 89) (.ld (.lf .sl) (.t 88)) <| .op 7 (some 90) (.mov (.t 10)) <| .op 8 (some 91) (.mov (.t 16)) <| .op 9 (some 92) (.iadr (.t 90) (.t 91) 1) <| .op 10 (some 93) (.ld (.lf (.int .i64)) (.t 92)) <| .op 11 (some 94) (.mov (.t 10)) <| .op 12 (some 95) (.mov (.t 0)) <| .op 13 (some 96) (.mov (.t 15)) <| .op 14 (some 97) (.iadr (.t 95) (.t 96) 1) <| .op 15 (some 98) (.ld (.lf .sl) (.t 97)) <| .op 16 (some 99) (.mov (.t 16)) <| .op 17 (some 100) (.iadr (.t 98) (.t 99) 1) <| .op 18 (some 101) (.ld (.lf (.int .i64)) (.t 100)) <| .op 19 (some 102) (.iadr (.t 94) (.t 101) 1) <| .op 20 (some 103) (.ld (.lf (.int .i64)) (.t 102)) <| .op 21 (some 104) (.iadr (.t 89) (.t 93) 1) <| .op 22 none (.st none (.t 104) (.t 103)) <| .nil) <|
  .reg (.op 0 (some 105) (.bin .add .i64 (.t 80) (.c (.int .i64 1))) <| .op 1 (some 80) (.mov (.t 105)) <| .nil) <|
  .jump 4)
  (.reg (.op 0 (some 106) (.bin .add .i64 (.t 75) (.c (.int .i64 1))) <| .op 1 (some 75) (.mov (.t 106)) <| .nil) <|
  .jump 3)⟩,
 ⟨[20, 24, 25, 177, 178, 179], [.code 103, .code 104, .inLoop 101, .inBlock 100, .code 122],
  .reg (.op 0 (some 180) (.bin .lss .i64 (.t 179) (.t 178)) <| .nil) <|
  .ite (.t 180)
  (.reg (.op 0 (some 181) (.iadr (.t 177) (.t 179) 1) <| .op 1 (some 182) (.ld (.lf (.int .i64)) (.t 181)) <| .op 2 (some 27) (.mov (.t 182)) <| .nil) <|
  .reg (.op 0 (some 183) (.mov (.t 27)) <| .op 1 (some 184) (.bin .lss .i64 (.t 183) (.c (.int .i64 0))) <| .op 2 (some 185) (.mov (.t 184)) <| .grp 185 false (.op 3 (some 186) (.mov (.t 27)) <| .op 4 (some 187) (.mov (.t 24)) <| .op 5 (some 188) (.len (.t 187)) <| .op 6 (some 189) (.bin .geq .i64 (.t 186) (.t 188)) <| .nil) 7 190 (.t 189) <| .nil) <|
  .ite (.t 190)
  (.reg (.op 0 (some 8) (.mov (.c (.bool false))) <| .nil) <|
  .ret)
  (.reg (.op 0 (some 191) (.mov (.t 25)) <| .op 1 (some 192) (.mov (.t 24)) <| .op 2 (some 193) (.mov (.t 27)) <| .op 3 (some 194) (.iadr (.t 192) (.t 193) 1) <| .op 4 (some 195) (.ld (.lf (.int .i64)) (.t 194)) <| .op 5 (some 196) (.bsl 1 [(.int .i64 0)] 1 [(0, 1, (.t 195))]) <| .op 6 (some 197) (.app 1 8 (.t 191) (.t 196)) <| .op 7 (some 25) (.mov (.t 197)) <| .nil) <|
  .reg (.op 0 (some 198) (.bin .add .i64 (.t 179) (.c (.int .i64 1))) <| .op 1 (some 179) (.mov (.t 198)) <| .nil) <|
  .jump 5))
  (.reg (.op 0 (some 28) (.mov (.c (.bool false))) <| .nil) <|
  .reg (.op 0 (some 199) (.mov (.t 20)) <| .op 1 (some 200) (.len (.t 199)) <| .op 2 (some 201) (.mov (.c (.int .i64 0))) <| .nil) <|
  .jump 6)⟩,
 ⟨[25, 28, 199, 200, 201], [.code 130, .code 131, .inLoop 128, .inBlock 127, .code 141],
  .reg (.op 0 (some 202) (.bin .lss .i64 (.t 201) (.t 200)) <| .nil) <|
  .ite (.t 202)
  (.reg (.op 0 (some 203) (.iadr (.t 199) (.t 201) 1) <| .op 1 (some 204) (.ld (.lf .sl) (.t 203)) <| .op 2 (some 30) (.mov (.t 204)) <| .nil) <|
  .reg (.op 0 (some 205) (.mov (.t 28)) <| .op 1 (some 206) (.mov (.t 205)) <| .grp 206 false (.op 2 (some 207) (.mov (.t 30)) <| .op 3 (some 208) (.mov (.t 25)) <| .op 4 (some 209) (.call 14 [(.t 207), (.t 208)] true (.one (.lf .bool))) <| .nil) 5 210 (.t 209) <| .op 6 (some 28) (.mov (.t 210)) <| .nil) <|
  .reg (.op 0 (some 211) (.bin .add .i64 (.t 201) (.c (.int .i64 1))) <| .op 1 (some 201) (.mov (.t 211)) <| .nil) <|
  .jump 6)
  (.reg (.op 0 (some 212) (.mov (.t 28)) <| .op 1 (some 213) (.mov (.t 212)) <| .grp 213 true (.op 2 (some 214) (.call 16 [] true (.one (.lf .bool))) <| .nil) 3 215 (.t 214) <| .op 4 (some 8) (.mov (.t 215)) <| .nil) <|
  .ret)⟩]⟩
noncomputable def G : Pg := [semigroupref14_Shape_fn, semigroupref14_Associative_fn, semigroupref14_Validate_fn, semigroupref14_Valid_fn, semigrouplaw20_small_fn, semigrouplaw20_two_fn, mult_shape_fn, mult_failing_fn, mult_Validate_fn, morph_check_fn, semigroup_morph_search_set_fn, semigroup_morph_search_extend_fn, morph_find_fn, morph_Homs_fn, semigroupref03_Same_fn, semigroupref03_SameRows_fn, semigrouplaw20_awake_fn, semigroupref03_Discrete_fn, semigroupref03_Copy_fn, morph_Isomorphism_fn, morph_isHom_fn, morph_IsHom_fn, morph_Image_fn, morph_Automorphisms_fn, semigrouplaw20_MorphRenames_fn]
def ldA_ii {ρ : Type} (H : AH) (p : Pt) (κ : Int → Int → Option ρ) : Option ρ := ldn H p 2 fun vs => castLfs [(.int .i64), (.int .i64)] vs fun vs' => match vs' with | [.int _ a0, .int _ a1] => κ a0 a1 | _ => none
noncomputable def semigroupref14_Shape_r {ρ : Type} (κ : Int → AH → Option ρ) (v : AV) (H : AH) : Option ρ := castTy (.one (.lf (.int .i64))) v fun v' => match v' with | .int _ r0 => κ r0 H | _ => none
noncomputable def semigroupref14_Shape {ρ : Type} (k : Nat) (x0 : Sl) (lo : Nat) (H : AH) (κ : Int → AH → Option ρ) : Option ρ := run G k ρ 0 0 [(.sl x0)] lo H (semigroupref14_Shape_r κ)
noncomputable def semigroupref14_Shape_1 {ρ : Type} (k : Nat) (x0 : Sl) (x13 : Sl) (x14 : Int) (x15 : Int) (lo : Nat) (H : AH) (κ : Int → AH → Option ρ) : Option ρ := run G k ρ 0 1 [(.sl x0), (.sl x13), (.int .i64 x14), (.int .i64 x15)] lo H (semigroupref14_Shape_r κ)
noncomputable def semigroupref14_Shape_2 {ρ : Type} (k : Nat) (x0 : Sl) (x13 : Sl) (x14 : Int) (x15 : Int) (x24 : Sl) (x25 : Int) (x26 : Int) (lo : Nat) (H : AH) (κ : Int → AH → Option ρ) : Option ρ := run G k ρ 0 2 [(.sl x0), (.sl x13), (.int .i64 x14), (.int .i64 x15), (.sl x24), (.int .i64 x25), (.int .i64 x26)] lo H (semigroupref14_Shape_r κ)
noncomputable def semigroupref14_Associative_r {ρ : Type} (κ : (Int × Int × Int × Int) → AH → Option ρ) (v : AV) (H : AH) : Option ρ := castTy (.tup [(.lf (.int .i64)), (.lf (.int .i64)), (.lf (.int .i64)), (.lf (.int .i64))]) v fun v' => match v' with | .tup [.int _ r0, .int _ r1, .int _ r2, .int _ r3] => κ (r0, r1, r2, r3) H | _ => none
noncomputable def semigroupref14_Associative {ρ : Type} (k : Nat) (x0 : Sl) (lo : Nat) (H : AH) (κ : (Int × Int × Int × Int) → AH → Option ρ) : Option ρ := run G k ρ 1 0 [(.sl x0)] lo H (semigroupref14_Associative_r κ)
noncomputable def semigroupref14_Associative_1 {ρ : Type} (k : Nat) (x0 : Sl) (x16 : Int) (x17 : Int) (lo : Nat) (H : AH) (κ : (Int × Int × Int × Int) → AH → Option ρ) : Option ρ := run G k ρ 1 1 [(.sl x0), (.int .i64 x16), (.int .i64 x17)] lo H (semigroupref14_Associative_r κ)
noncomputable def semigroupref14_Associative_2 {ρ : Type} (k : Nat) (x0 : Sl) (x7 : Int) (x16 : Int) (x17 : Int) (x21 : Int) (x22 : Int) (lo : Nat) (H : AH) (κ : (Int × Int × Int × Int) → AH → Option ρ) : Option ρ := run G k ρ 1 2 [(.sl x0), (.int .i64 x7), (.int .i64 x16), (.int .i64 x17), (.int .i64 x21), (.int .i64 x22)] lo H (semigroupref14_Associative_r κ)
noncomputable def semigroupref14_Associative_3 {ρ : Type} (k : Nat) (x0 : Sl) (x7 : Int) (x8 : Int) (x16 : Int) (x17 : Int) (x21 : Int) (x22 : Int) (x26 : Int) (x27 : Int) (lo : Nat) (H : AH) (κ : (Int × Int × Int × Int) → AH → Option ρ) : Option ρ := run G k ρ 1 3 [(.sl x0), (.int .i64 x7), (.int .i64 x8), (.int .i64 x16), (.int .i64 x17), (.int .i64 x21), (.int .i64 x22), (.int .i64 x26), (.int .i64 x27)] lo H (semigroupref14_Associative_r κ)
noncomputable def semigroupref14_Validate_r {ρ : Type} (κ : Int → AH → Option ρ) (v : AV) (H : AH) : Option ρ := castTy (.one (.lf (.int .i64))) v fun v' => match v' with | .int _ r0 => κ r0 H | _ => none
noncomputable def semigroupref14_Validate {ρ : Type} (k : Nat) (x0 : Sl) (lo : Nat) (H : AH) (κ : Int → AH → Option ρ) : Option ρ := run G k ρ 2 0 [(.sl x0)] lo H (semigroupref14_Validate_r κ)
noncomputable def semigroupref14_Valid_r {ρ : Type} (κ : Bool → AH → Option ρ) (v : AV) (H : AH) : Option ρ := castTy (.one (.lf .bool)) v fun v' => match v' with | .bool r0 => κ r0 H | _ => none
noncomputable def semigroupref14_Valid {ρ : Type} (k : Nat) (x0 : Sl) (lo : Nat) (H : AH) (κ : Bool → AH → Option ρ) : Option ρ := run G k ρ 3 0 [(.sl x0)] lo H (semigroupref14_Valid_r κ)
noncomputable def semigrouplaw20_small_r {ρ : Type} (κ : Bool → AH → Option ρ) (v : AV) (H : AH) : Option ρ := castTy (.one (.lf .bool)) v fun v' => match v' with | .bool r0 => κ r0 H | _ => none
noncomputable def semigrouplaw20_small {ρ : Type} (k : Nat) (x0 : Sl) (x1 : Int) (lo : Nat) (H : AH) (κ : Bool → AH → Option ρ) : Option ρ := run G k ρ 4 0 [(.sl x0), (.int .i64 x1)] lo H (semigrouplaw20_small_r κ)
noncomputable def semigrouplaw20_two_r {ρ : Type} (κ : Sl → AH → Option ρ) (v : AV) (H : AH) : Option ρ := castTy (.one (.lf .sl)) v fun v' => match v' with | .sl r0 => κ r0 H | _ => none
noncomputable def semigrouplaw20_two {ρ : Type} (k : Nat) (lo : Nat) (H : AH) (κ : Sl → AH → Option ρ) : Option ρ := run G k ρ 5 0 [] lo H (semigrouplaw20_two_r κ)
noncomputable def mult_shape_r {ρ : Type} (κ : Int → AH → Option ρ) (v : AV) (H : AH) : Option ρ := castTy (.one (.lf (.int .i64))) v fun v' => match v' with | .int _ r0 => κ r0 H | _ => none
noncomputable def mult_shape {ρ : Type} (k : Nat) (x0 : Sl) (lo : Nat) (H : AH) (κ : Int → AH → Option ρ) : Option ρ := run G k ρ 6 0 [(.sl x0)] lo H (mult_shape_r κ)
noncomputable def mult_shape_1 {ρ : Type} (k : Nat) (x0 : Sl) (x15 : Sl) (x16 : Int) (x17 : Int) (lo : Nat) (H : AH) (κ : Int → AH → Option ρ) : Option ρ := run G k ρ 6 1 [(.sl x0), (.sl x15), (.int .i64 x16), (.int .i64 x17)] lo H (mult_shape_r κ)
noncomputable def mult_shape_2 {ρ : Type} (k : Nat) (x0 : Sl) (x15 : Sl) (x16 : Int) (x17 : Int) (x26 : Sl) (x27 : Int) (x28 : Int) (lo : Nat) (H : AH) (κ : Int → AH → Option ρ) : Option ρ := run G k ρ 6 2 [(.sl x0), (.sl x15), (.int .i64 x16), (.int .i64 x17), (.sl x26), (.int .i64 x27), (.int .i64 x28)] lo H (mult_shape_r κ)
noncomputable def mult_failing_r {ρ : Type} (κ : (Int × Int × Int × Bool) → AH → Option ρ) (v : AV) (H : AH) : Option ρ := castTy (.tup [(.lf (.int .i64)), (.lf (.int .i64)), (.lf (.int .i64)), (.lf .bool)]) v fun v' => match v' with | .tup [.int _ r0, .int _ r1, .int _ r2, .bool r3] => κ (r0, r1, r2, r3) H | _ => none
noncomputable def mult_failing {ρ : Type} (k : Nat) (x0 : Sl) (lo : Nat) (H : AH) (κ : (Int × Int × Int × Bool) → AH → Option ρ) : Option ρ := run G k ρ 7 0 [(.sl x0)] lo H (mult_failing_r κ)
noncomputable def mult_failing_1 {ρ : Type} (k : Nat) (x0 : Sl) (x10 : Int) (x11 : Int) (lo : Nat) (H : AH) (κ : (Int × Int × Int × Bool) → AH → Option ρ) : Option ρ := run G k ρ 7 1 [(.sl x0), (.int .i64 x10), (.int .i64 x11)] lo H (mult_failing_r κ)
noncomputable def mult_failing_2 {ρ : Type} (k : Nat) (x0 : Sl) (x6 : Int) (x10 : Int) (x11 : Int) (x15 : Int) (x16 : Int) (lo : Nat) (H : AH) (κ : (Int × Int × Int × Bool) → AH → Option ρ) : Option ρ := run G k ρ 7 2 [(.sl x0), (.int .i64 x6), (.int .i64 x10), (.int .i64 x11), (.int .i64 x15), (.int .i64 x16)] lo H (mult_failing_r κ)
noncomputable def mult_failing_3 {ρ : Type} (k : Nat) (x0 : Sl) (x6 : Int) (x7 : Int) (x10 : Int) (x11 : Int) (x15 : Int) (x16 : Int) (x20 : Int) (x21 : Int) (lo : Nat) (H : AH) (κ : (Int × Int × Int × Bool) → AH → Option ρ) : Option ρ := run G k ρ 7 3 [(.sl x0), (.int .i64 x6), (.int .i64 x7), (.int .i64 x10), (.int .i64 x11), (.int .i64 x15), (.int .i64 x16), (.int .i64 x20), (.int .i64 x21)] lo H (mult_failing_r κ)
noncomputable def mult_Validate_r {ρ : Type} (κ : Int → AH → Option ρ) (v : AV) (H : AH) : Option ρ := castTy (.one (.lf (.int .i64))) v fun v' => match v' with | .int _ r0 => κ r0 H | _ => none
noncomputable def mult_Validate {ρ : Type} (k : Nat) (x0 : Sl) (lo : Nat) (H : AH) (κ : Int → AH → Option ρ) : Option ρ := run G k ρ 8 0 [(.sl x0)] lo H (mult_Validate_r κ)
noncomputable def morph_check_r {ρ : Type} (κ : Int → AH → Option ρ) (v : AV) (H : AH) : Option ρ := castTy (.one (.lf (.int .i64))) v fun v' => match v' with | .int _ r0 => κ r0 H | _ => none
noncomputable def morph_check {ρ : Type} (k : Nat) (x0 : Sl) (x1 : Sl) (lo : Nat) (H : AH) (κ : Int → AH → Option ρ) : Option ρ := run G k ρ 9 0 [(.sl x0), (.sl x1)] lo H (morph_check_r κ)
noncomputable def semigroup_morph_search_set_r {ρ : Type} (κ : (Sl × Bool) → AH → Option ρ) (v : AV) (H : AH) : Option ρ := castTy (.tup [(.lf .sl), (.lf .bool)]) v fun v' => match v' with | .tup [.sl r0, .bool r1] => κ (r0, r1) H | _ => none
noncomputable def semigroup_morph_search_set {ρ : Type} (k : Nat) (x0 : Option Pt) (x1 : Sl) (x2 : Int) (x3 : Int) (lo : Nat) (H : AH) (κ : (Sl × Bool) → AH → Option ρ) : Option ρ := run G k ρ 10 0 [(.ptr x0), (.sl x1), (.int .i64 x2), (.int .i64 x3)] lo H (semigroup_morph_search_set_r κ)
noncomputable def semigroup_morph_search_set_1 {ρ : Type} (k : Nat) (x0 : Option Pt) (x1 : Sl) (x10 : Sl) (lo : Nat) (H : AH) (κ : (Sl × Bool) → AH → Option ρ) : Option ρ := run G k ρ 10 1 [(.ptr x0), (.sl x1), (.sl x10)] lo H (semigroup_morph_search_set_r κ)
noncomputable def semigroup_morph_search_set_2 {ρ : Type} (k : Nat) (x0 : Option Pt) (x1 : Sl) (x10 : Sl) (x11 : Option Pt) (x51 : Sl) (x52 : Int) (x53 : Int) (lo : Nat) (H : AH) (κ : (Sl × Bool) → AH → Option ρ) : Option ρ := run G k ρ 10 2 [(.ptr x0), (.sl x1), (.sl x10), (.ptr x11), (.sl x51), (.int .i64 x52), (.int .i64 x53)] lo H (semigroup_morph_search_set_r κ)
noncomputable def semigroup_morph_search_set_3 {ρ : Type} (k : Nat) (x0 : Option Pt) (x1 : Sl) (x10 : Sl) (x11 : Option Pt) (x74 : Sl) (x75 : Int) (x76 : Int) (lo : Nat) (H : AH) (κ : (Sl × Bool) → AH → Option ρ) : Option ρ := run G k ρ 10 3 [(.ptr x0), (.sl x1), (.sl x10), (.ptr x11), (.sl x74), (.int .i64 x75), (.int .i64 x76)] lo H (semigroup_morph_search_set_r κ)
noncomputable def semigroup_morph_search_set_4 {ρ : Type} (k : Nat) (x0 : Option Pt) (x1 : Sl) (x10 : Sl) (x11 : Option Pt) (x74 : Sl) (x75 : Int) (x76 : Int) (lo : Nat) (H : AH) (κ : (Sl × Bool) → AH → Option ρ) : Option ρ := run G k ρ 10 4 [(.ptr x0), (.sl x1), (.sl x10), (.ptr x11), (.sl x74), (.int .i64 x75), (.int .i64 x76)] lo H (semigroup_morph_search_set_r κ)
noncomputable def semigroup_morph_search_extend_r {ρ : Type} (κ : Unit → AH → Option ρ) (v : AV) (H : AH) : Option ρ := castTy (.tup []) v fun v' => match v' with | .tup [] => κ () H | _ => none
noncomputable def semigroup_morph_search_extend {ρ : Type} (k : Nat) (x0 : Option Pt) (x1 : Sl) (lo : Nat) (H : AH) (κ : Unit → AH → Option ρ) : Option ρ := run G k ρ 11 0 [(.ptr x0), (.sl x1)] lo H (semigroup_morph_search_extend_r κ)
noncomputable def semigroup_morph_search_extend_1 {ρ : Type} (k : Nat) (x0 : Option Pt) (x1 : Sl) (x4 : Int) (lo : Nat) (H : AH) (κ : Unit → AH → Option ρ) : Option ρ := run G k ρ 11 1 [(.ptr x0), (.sl x1), (.int .i64 x4)] lo H (semigroup_morph_search_extend_r κ)
noncomputable def semigroup_morph_search_extend_2 {ρ : Type} (k : Nat) (x0 : Option Pt) (x1 : Sl) (x4 : Int) (x39 : Int) (x40 : Int) (lo : Nat) (H : AH) (κ : Unit → AH → Option ρ) : Option ρ := run G k ρ 11 2 [(.ptr x0), (.sl x1), (.int .i64 x4), (.int .i64 x39), (.int .i64 x40)] lo H (semigroup_morph_search_extend_r κ)
noncomputable def semigroup_morph_search_extend_3 {ρ : Type} (k : Nat) (x0 : Option Pt) (x1 : Sl) (x4 : Int) (x39 : Int) (x40 : Int) (lo : Nat) (H : AH) (κ : Unit → AH → Option ρ) : Option ρ := run G k ρ 11 3 [(.ptr x0), (.sl x1), (.int .i64 x4), (.int .i64 x39), (.int .i64 x40)] lo H (semigroup_morph_search_extend_r κ)
noncomputable def morph_find_r {ρ : Type} (κ : Sl → AH → Option ρ) (v : AV) (H : AH) : Option ρ := castTy (.one (.lf .sl)) v fun v' => match v' with | .sl r0 => κ r0 H | _ => none
noncomputable def morph_find {ρ : Type} (k : Nat) (x0 : Sl) (x1 : Sl) (x2 : Bool) (x3 : Int) (lo : Nat) (H : AH) (κ : Sl → AH → Option ρ) : Option ρ := run G k ρ 12 0 [(.sl x0), (.sl x1), (.bool x2), (.int .i64 x3)] lo H (morph_find_r κ)
noncomputable def morph_find_1 {ρ : Type} (k : Nat) (x9 : Option Pt) (x10 : Sl) (x22 : Int) (x23 : Int) (lo : Nat) (H : AH) (κ : Sl → AH → Option ρ) : Option ρ := run G k ρ 12 1 [(.ptr x9), (.sl x10), (.int .i64 x22), (.int .i64 x23)] lo H (morph_find_r κ)
noncomputable def morph_Homs_r {ρ : Type} (κ : (Sl × Int) → AH → Option ρ) (v : AV) (H : AH) : Option ρ := castTy (.tup [(.lf .sl), (.lf (.int .i64))]) v fun v' => match v' with | .tup [.sl r0, .int _ r1] => κ (r0, r1) H | _ => none
noncomputable def morph_Homs {ρ : Type} (k : Nat) (x0 : Sl) (x1 : Sl) (lo : Nat) (H : AH) (κ : (Sl × Int) → AH → Option ρ) : Option ρ := run G k ρ 13 0 [(.sl x0), (.sl x1)] lo H (morph_Homs_r κ)
noncomputable def semigroupref03_Same_r {ρ : Type} (κ : Bool → AH → Option ρ) (v : AV) (H : AH) : Option ρ := castTy (.one (.lf .bool)) v fun v' => match v' with | .bool r0 => κ r0 H | _ => none
noncomputable def semigroupref03_Same {ρ : Type} (k : Nat) (x0 : Sl) (x1 : Sl) (lo : Nat) (H : AH) (κ : Bool → AH → Option ρ) : Option ρ := run G k ρ 14 0 [(.sl x0), (.sl x1)] lo H (semigroupref03_Same_r κ)
noncomputable def semigroupref03_Same_1 {ρ : Type} (k : Nat) (x0 : Sl) (x1 : Sl) (x12 : Int) (x13 : Int) (lo : Nat) (H : AH) (κ : Bool → AH → Option ρ) : Option ρ := run G k ρ 14 1 [(.sl x0), (.sl x1), (.int .i64 x12), (.int .i64 x13)] lo H (semigroupref03_Same_r κ)
noncomputable def semigroupref03_SameRows_r {ρ : Type} (κ : Bool → AH → Option ρ) (v : AV) (H : AH) : Option ρ := castTy (.one (.lf .bool)) v fun v' => match v' with | .bool r0 => κ r0 H | _ => none
noncomputable def semigroupref03_SameRows {ρ : Type} (k : Nat) (x0 : Sl) (x1 : Sl) (lo : Nat) (H : AH) (κ : Bool → AH → Option ρ) : Option ρ := run G k ρ 15 0 [(.sl x0), (.sl x1)] lo H (semigroupref03_SameRows_r κ)
noncomputable def semigroupref03_SameRows_1 {ρ : Type} (k : Nat) (x0 : Sl) (x1 : Sl) (x12 : Int) (x13 : Int) (lo : Nat) (H : AH) (κ : Bool → AH → Option ρ) : Option ρ := run G k ρ 15 1 [(.sl x0), (.sl x1), (.int .i64 x12), (.int .i64 x13)] lo H (semigroupref03_SameRows_r κ)
noncomputable def semigrouplaw20_awake_r {ρ : Type} (κ : Bool → AH → Option ρ) (v : AV) (H : AH) : Option ρ := castTy (.one (.lf .bool)) v fun v' => match v' with | .bool r0 => κ r0 H | _ => none
noncomputable def semigrouplaw20_awake {ρ : Type} (k : Nat) (lo : Nat) (H : AH) (κ : Bool → AH → Option ρ) : Option ρ := run G k ρ 16 0 [] lo H (semigrouplaw20_awake_r κ)
noncomputable def semigroupref03_Discrete_r {ρ : Type} (κ : Sl → AH → Option ρ) (v : AV) (H : AH) : Option ρ := castTy (.one (.lf .sl)) v fun v' => match v' with | .sl r0 => κ r0 H | _ => none
noncomputable def semigroupref03_Discrete {ρ : Type} (k : Nat) (x0 : Int) (lo : Nat) (H : AH) (κ : Sl → AH → Option ρ) : Option ρ := run G k ρ 17 0 [(.int .i64 x0)] lo H (semigroupref03_Discrete_r κ)
noncomputable def semigroupref03_Discrete_1 {ρ : Type} (k : Nat) (x3 : Sl) (x8 : Int) (x9 : Int) (lo : Nat) (H : AH) (κ : Sl → AH → Option ρ) : Option ρ := run G k ρ 17 1 [(.sl x3), (.int .i64 x8), (.int .i64 x9)] lo H (semigroupref03_Discrete_r κ)
noncomputable def semigroupref03_Copy_r {ρ : Type} (κ : Sl → AH → Option ρ) (v : AV) (H : AH) : Option ρ := castTy (.one (.lf .sl)) v fun v' => match v' with | .sl r0 => κ r0 H | _ => none
noncomputable def semigroupref03_Copy {ρ : Type} (k : Nat) (x0 : Sl) (lo : Nat) (H : AH) (κ : Sl → AH → Option ρ) : Option ρ := run G k ρ 18 0 [(.sl x0)] lo H (semigroupref03_Copy_r κ)
noncomputable def semigroupref03_Copy_1 {ρ : Type} (k : Nat) (x3 : Sl) (x6 : Sl) (x7 : Int) (x8 : Int) (lo : Nat) (H : AH) (κ : Sl → AH → Option ρ) : Option ρ := run G k ρ 18 1 [(.sl x3), (.sl x6), (.int .i64 x7), (.int .i64 x8)] lo H (semigroupref03_Copy_r κ)
noncomputable def morph_Isomorphism_r {ρ : Type} (κ : (Sl × Bool × Int) → AH → Option ρ) (v : AV) (H : AH) : Option ρ := castTy (.tup [(.lf .sl), (.lf .bool), (.lf (.int .i64))]) v fun v' => match v' with | .tup [.sl r0, .bool r1, .int _ r2] => κ (r0, r1, r2) H | _ => none
noncomputable def morph_Isomorphism {ρ : Type} (k : Nat) (x0 : Sl) (x1 : Sl) (lo : Nat) (H : AH) (κ : (Sl × Bool × Int) → AH → Option ρ) : Option ρ := run G k ρ 19 0 [(.sl x0), (.sl x1)] lo H (morph_Isomorphism_r κ)
noncomputable def morph_isHom_r {ρ : Type} (κ : Bool → AH → Option ρ) (v : AV) (H : AH) : Option ρ := castTy (.one (.lf .bool)) v fun v' => match v' with | .bool r0 => κ r0 H | _ => none
noncomputable def morph_isHom {ρ : Type} (k : Nat) (x0 : Sl) (x1 : Sl) (x2 : Sl) (lo : Nat) (H : AH) (κ : Bool → AH → Option ρ) : Option ρ := run G k ρ 20 0 [(.sl x0), (.sl x1), (.sl x2)] lo H (morph_isHom_r κ)
noncomputable def morph_isHom_1 {ρ : Type} (k : Nat) (x0 : Sl) (x1 : Sl) (x2 : Sl) (x16 : Sl) (x17 : Int) (x18 : Int) (lo : Nat) (H : AH) (κ : Bool → AH → Option ρ) : Option ρ := run G k ρ 20 1 [(.sl x0), (.sl x1), (.sl x2), (.sl x16), (.int .i64 x17), (.int .i64 x18)] lo H (morph_isHom_r κ)
noncomputable def morph_isHom_2 {ρ : Type} (k : Nat) (x0 : Sl) (x1 : Sl) (x2 : Sl) (x32 : Int) (x33 : Int) (lo : Nat) (H : AH) (κ : Bool → AH → Option ρ) : Option ρ := run G k ρ 20 2 [(.sl x0), (.sl x1), (.sl x2), (.int .i64 x32), (.int .i64 x33)] lo H (morph_isHom_r κ)
noncomputable def morph_isHom_3 {ρ : Type} (k : Nat) (x0 : Sl) (x1 : Sl) (x2 : Sl) (x9 : Int) (x32 : Int) (x33 : Int) (x37 : Int) (x38 : Int) (lo : Nat) (H : AH) (κ : Bool → AH → Option ρ) : Option ρ := run G k ρ 20 3 [(.sl x0), (.sl x1), (.sl x2), (.int .i64 x9), (.int .i64 x32), (.int .i64 x33), (.int .i64 x37), (.int .i64 x38)] lo H (morph_isHom_r κ)
noncomputable def morph_IsHom_r {ρ : Type} (κ : Bool → AH → Option ρ) (v : AV) (H : AH) : Option ρ := castTy (.one (.lf .bool)) v fun v' => match v' with | .bool r0 => κ r0 H | _ => none
noncomputable def morph_IsHom {ρ : Type} (k : Nat) (x0 : Sl) (x1 : Sl) (x2 : Sl) (lo : Nat) (H : AH) (κ : Bool → AH → Option ρ) : Option ρ := run G k ρ 21 0 [(.sl x0), (.sl x1), (.sl x2)] lo H (morph_IsHom_r κ)
noncomputable def morph_Image_r {ρ : Type} (κ : Sl → AH → Option ρ) (v : AV) (H : AH) : Option ρ := castTy (.one (.lf .sl)) v fun v' => match v' with | .sl r0 => κ r0 H | _ => none
noncomputable def morph_Image {ρ : Type} (k : Nat) (x0 : Sl) (x1 : Sl) (x2 : Sl) (lo : Nat) (H : AH) (κ : Sl → AH → Option ρ) : Option ρ := run G k ρ 22 0 [(.sl x0), (.sl x1), (.sl x2)] lo H (morph_Image_r κ)
noncomputable def morph_Image_1 {ρ : Type} (k : Nat) (x7 : Sl) (x21 : Sl) (x22 : Int) (x23 : Int) (lo : Nat) (H : AH) (κ : Sl → AH → Option ρ) : Option ρ := run G k ρ 22 1 [(.sl x7), (.sl x21), (.int .i64 x22), (.int .i64 x23)] lo H (morph_Image_r κ)
noncomputable def morph_Image_2 {ρ : Type} (k : Nat) (x10 : Sl) (x31 : Sl) (x32 : Int) (x33 : Int) (lo : Nat) (H : AH) (κ : Sl → AH → Option ρ) : Option ρ := run G k ρ 22 2 [(.sl x10), (.sl x31), (.int .i64 x32), (.int .i64 x33)] lo H (morph_Image_r κ)
noncomputable def morph_Image_3 {ρ : Type} (k : Nat) (x10 : Sl) (x31 : Sl) (x32 : Int) (x33 : Int) (lo : Nat) (H : AH) (κ : Sl → AH → Option ρ) : Option ρ := run G k ρ 22 3 [(.sl x10), (.sl x31), (.int .i64 x32), (.int .i64 x33)] lo H (morph_Image_r κ)
noncomputable def morph_Automorphisms_r {ρ : Type} (κ : (Sl × Int) → AH → Option ρ) (v : AV) (H : AH) : Option ρ := castTy (.tup [(.lf .sl), (.lf (.int .i64))]) v fun v' => match v' with | .tup [.sl r0, .int _ r1] => κ (r0, r1) H | _ => none
noncomputable def morph_Automorphisms {ρ : Type} (k : Nat) (x0 : Sl) (lo : Nat) (H : AH) (κ : (Sl × Int) → AH → Option ρ) : Option ρ := run G k ρ 23 0 [(.sl x0)] lo H (morph_Automorphisms_r κ)
noncomputable def semigrouplaw20_MorphRenames_r {ρ : Type} (κ : Bool → AH → Option ρ) (v : AV) (H : AH) : Option ρ := castTy (.one (.lf .bool)) v fun v' => match v' with | .bool r0 => κ r0 H | _ => none
noncomputable def semigrouplaw20_MorphRenames {ρ : Type} (k : Nat) (x0 : Sl) (x1 : Sl) (x2 : Int) (x3 : Int) (lo : Nat) (H : AH) (κ : Bool → AH → Option ρ) : Option ρ := run G k ρ 24 0 [(.sl x0), (.sl x1), (.int .i64 x2), (.int .i64 x3)] lo H (semigrouplaw20_MorphRenames_r κ)
noncomputable def semigrouplaw20_MorphRenames_1 {ρ : Type} (k : Nat) (x0 : Sl) (x2 : Int) (x3 : Int) (x9 : Int) (x10 : Sl) (x39 : Sl) (x40 : Int) (x41 : Int) (lo : Nat) (H : AH) (κ : Bool → AH → Option ρ) : Option ρ := run G k ρ 24 1 [(.sl x0), (.int .i64 x2), (.int .i64 x3), (.int .i64 x9), (.sl x10), (.sl x39), (.int .i64 x40), (.int .i64 x41)] lo H (semigrouplaw20_MorphRenames_r κ)
noncomputable def semigrouplaw20_MorphRenames_2 {ρ : Type} (k : Nat) (x0 : Sl) (x2 : Int) (x3 : Int) (x9 : Int) (x10 : Sl) (x39 : Sl) (x40 : Int) (x41 : Int) (lo : Nat) (H : AH) (κ : Bool → AH → Option ρ) : Option ρ := run G k ρ 24 2 [(.sl x0), (.int .i64 x2), (.int .i64 x3), (.int .i64 x9), (.sl x10), (.sl x39), (.int .i64 x40), (.int .i64 x41)] lo H (semigrouplaw20_MorphRenames_r κ)
noncomputable def semigrouplaw20_MorphRenames_3 {ρ : Type} (k : Nat) (x0 : Sl) (x2 : Int) (x3 : Int) (x9 : Int) (x10 : Sl) (x14 : Sl) (x74 : Int) (x75 : Int) (lo : Nat) (H : AH) (κ : Bool → AH → Option ρ) : Option ρ := run G k ρ 24 3 [(.sl x0), (.int .i64 x2), (.int .i64 x3), (.int .i64 x9), (.sl x10), (.sl x14), (.int .i64 x74), (.int .i64 x75)] lo H (semigrouplaw20_MorphRenames_r κ)
noncomputable def semigrouplaw20_MorphRenames_4 {ρ : Type} (k : Nat) (x0 : Sl) (x2 : Int) (x3 : Int) (x9 : Int) (x10 : Sl) (x14 : Sl) (x15 : Int) (x74 : Int) (x75 : Int) (x79 : Int) (x80 : Int) (lo : Nat) (H : AH) (κ : Bool → AH → Option ρ) : Option ρ := run G k ρ 24 4 [(.sl x0), (.int .i64 x2), (.int .i64 x3), (.int .i64 x9), (.sl x10), (.sl x14), (.int .i64 x15), (.int .i64 x74), (.int .i64 x75), (.int .i64 x79), (.int .i64 x80)] lo H (semigrouplaw20_MorphRenames_r κ)
noncomputable def semigrouplaw20_MorphRenames_5 {ρ : Type} (k : Nat) (x20 : Sl) (x24 : Sl) (x25 : Sl) (x177 : Sl) (x178 : Int) (x179 : Int) (lo : Nat) (H : AH) (κ : Bool → AH → Option ρ) : Option ρ := run G k ρ 24 5 [(.sl x20), (.sl x24), (.sl x25), (.sl x177), (.int .i64 x178), (.int .i64 x179)] lo H (semigrouplaw20_MorphRenames_r κ)
noncomputable def semigrouplaw20_MorphRenames_6 {ρ : Type} (k : Nat) (x25 : Sl) (x28 : Bool) (x199 : Sl) (x200 : Int) (x201 : Int) (lo : Nat) (H : AH) (κ : Bool → AH → Option ρ) : Option ρ := run G k ρ 24 6 [(.sl x25), (.bool x28), (.sl x199), (.int .i64 x200), (.int .i64 x201)] lo H (semigrouplaw20_MorphRenames_r κ)
end Go.Ab
