/- The functions that ReesChecks reaches, in labelled pieces, and what each asks of the evaluator. Printed. -/
import Derived.Test.YtnoickhdbinciaaAbA1
set_option linter.unusedVariables false
namespace Go.Ab
noncomputable def semigroupref14_Shape_fn : Fn := ⟨1, [.tmp 2], [
 ⟨[0], [.code 0],
  .reg (.op 0 (some 2) (.mov (.c (.int .i64 0))) <| .nil) <|
  .reg (.op 0 (some 7) (.mov (.t 0)) <| .op 1 (some 8) (.len (.t 7)) <| .op 2 (some 9) (.bin .gtr .i64 (.t 8) (.c (.int .i64 400))) <| .nil) <|
  .ite (.t 9)
  (.reg (.op 0 (some 2) (.mov (.c (.int .i64 3))) <| .nil) <|
  .ret)
  (.reg (.op 0 (some 10) (.mov (.t 0)) <| .op 1 (some 11) (.len (.t 10)) <| .op 2 (some 12) (.bin .eql .i64 (.t 11) (.c (.int .i64 0))) <| .nil) <|
  .ite (.t 12)
  (.reg (.op 0 (some 2) (.mov (.c (.int .i64 4))) <| .nil) <|
  .ret)
  (.reg (.op 0 (some 13) (.mov (.t 0)) <| .op 1 (some 14) (.len (.t 13)) <| .op 2 (some 15) (.mov (.c (.int .i64 0))) <| .nil) <|
  .jump 1))⟩,
 ⟨[0, 13, 14, 15], [.code 24, .code 25, .inLoop 22, .inBlock 21, .code 64],
  .reg (.op 0 (some 16) (.bin .lss .i64 (.t 15) (.t 14)) <| .nil) <|
  .ite (.t 16)
  (.reg (.op 0 (some 17) (.iadr (.t 13) (.t 15) 1) <| .op 1 (some 18) (.ld (.lf .sl) (.t 17)) <| .op 2 (some 4) (.mov (.t 18)) <| .nil) <|
  .reg (.op 0 (some 19) (.mov (.t 4)) <| .op 1 (some 20) (.len (.t 19)) <| .op 2 (some 21) (.mov (.t 0)) <| .op 3 (some 22) (.len (.t 21)) <| .op 4 (some 23) (.bin .neq .i64 (.t 20) (.t 22)) <| .nil) <|
  .ite (.t 23)
  (.reg (.op 0 (some 2) (.mov (.c (.int .i64 4))) <| .nil) <|
  .ret)
  (.reg (.op 0 (some 24) (.mov (.t 4)) <| .op 1 (some 25) (.len (.t 24)) <| .op 2 (some 26) (.mov (.c (.int .i64 0))) <| .nil) <|
  .jump 2))
  (.reg (.op 0 (some 2) (.mov (.c (.int .i64 0))) <| .nil) <|
  .ret)⟩,
 ⟨[0, 13, 14, 15, 24, 25, 26], [.code 46, .code 47, .inLoop 44, .inBlock 43, .inBlock 30, .code 63, .inLoop 22, .inBlock 21, .code 64],
  .reg (.op 0 (some 27) (.bin .lss .i64 (.t 26) (.t 25)) <| .nil) <|
  .ite (.t 27)
  (.reg (.op 0 (some 28) (.iadr (.t 24) (.t 26) 1) <| .op 1 (some 29) (.ld (.lf (.int .i64)) (.t 28)) <| .op 2 (some 6) (.mov (.t 29)) <| .nil) <|
  .reg (.op 0 (some 30) (.mov (.t 6)) <| .op 1 (some 31) (.bin .lss .i64 (.t 30) (.c (.int .i64 0))) <| .op 2 (some 32) (.mov (.t 31)) <| .grp 32 false (.op 3 (some 33) (.mov (.t 6)) <| .op 4 (some 34) (.mov (.t 0)) <| .op 5 (some 35) (.len (.t 34)) <| .op 6 (some 36) (.bin .geq .i64 (.t 33) (.t 35)) <| .nil) 7 37 (.t 36) <| .nil) <|
  .ite (.t 37)
  (.reg (.op 0 (some 2) (.mov (.c (.int .i64 4))) <| .nil) <|
  .ret)
  (.reg (.op 0 (some 38) (.bin .add .i64 (.t 26) (.c (.int .i64 1))) <| .op 1 (some 26) (.mov (.t 38)) <| .nil) <|
  .jump 2))
  (.reg (.op 0 (some 39) (.bin .add .i64 (.t 15) (.c (.int .i64 1))) <| .op 1 (some 15) (.mov (.t 39)) <| .nil) <|
  .jump 1)⟩]⟩
noncomputable def semigrouplaw17_large_fn : Fn := ⟨2, [.tmp 4], [
 ⟨[0, 1], [.code 0],
  .reg (.op 0 (some 4) (.mov (.c (.bool false))) <| .nil) <|
  .reg (.op 0 (some 5) (.mov (.t 0)) <| .op 1 (some 6) (.len (.t 5)) <| .op 2 (some 7) (.mov (.t 1)) <| .op 3 (some 8) (.bin .gtr .i64 (.t 6) (.t 7)) <| .op 4 (some 9) (.mov (.t 8)) <| .grp 9 true (.op 5 (some 10) (.mov (.t 0)) <| .op 6 (some 11) (.call 0 [(.t 10)] true (.one (.lf (.int .i64)))) <| .op 7 (some 12) (.bin .eql .i64 (.t 11) (.c (.int .i64 0))) <| .nil) 8 13 (.t 12) <| .op 9 (some 4) (.mov (.t 13)) <| .nil) <|
  .ret⟩]⟩
noncomputable def semigrouplaw17_brandt_fn : Fn := ⟨0, [.cell 0 (.agg [.sl, (.int .i64), (.int .i64), .sl, .bool])], [
 ⟨[], [.code 0],
  .reg (.op 0 (some 0) (.alloc [(.sl ⟨none, 0⟩), (.int .i64 0), (.int .i64 0), (.sl ⟨none, 0⟩), (.bool false)]) <| .nil) <|
  .reg (.op 0 (some 1) (.bsl 1 [(.int .i64 0)] 1 [(0, 1, (.c (.int .i64 0)))]) <| .op 1 (some 2) (.bsl 1 [(.sl ⟨none, 0⟩)] 1 [(0, 1, (.t 1))]) <| .op 2 (some 3) (.bsl 1 [(.int .i64 0), (.int .i64 0)] 2 [(0, 1, (.c (.int .i64 0))), (1, 1, (.c (.int .i64 (-1))))]) <| .op 3 (some 4) (.bsl 1 [(.int .i64 0), (.int .i64 0)] 2 [(0, 1, (.c (.int .i64 (-1)))), (1, 1, (.c (.int .i64 0)))]) <| .op 4 (some 5) (.bsl 1 [(.sl ⟨none, 0⟩), (.sl ⟨none, 0⟩)] 2 [(0, 1, (.t 3)), (1, 1, (.t 4))]) <| .op 5 (some 6) (.bld [(.sl ⟨none, 0⟩), (.int .i64 0), (.int .i64 0), (.sl ⟨none, 0⟩), (.bool false)] [(0, 1, (.t 2)), (1, 1, (.c (.int .i64 2))), (2, 1, (.c (.int .i64 2))), (3, 1, (.t 5)), (4, 1, (.c (.bool true)))]) <| .op 6 none (.st (some 5) (.t 0) (.t 6)) <| .nil) <|
  .ret⟩]⟩
noncomputable def mult_shape_fn : Fn := ⟨1, [.tmp 2], [
 ⟨[0], [.code 0],
  .reg (.op 0 (some 2) (.mov (.c (.int .i64 0))) <| .nil) <|
  .reg (.op 0 (some 8) (.mov (.t 0)) <| .op 1 (some 9) (.len (.t 8)) <| .op 2 (some 10) (.bin .gtr .i64 (.t 9) (.c (.int .i64 400))) <| .op 3 (some 7) (.mov (.t 10)) <| .nil) <|
  .ite (.t 7)
  (.reg (.op 0 (some 2) (.mov (.c (.int .i64 3))) <| .nil) <|
  .ret)
  (.reg (.op 0 (some 12) (.mov (.t 0)) <| .op 1 (some 13) (.len (.t 12)) <| .op 2 (some 14) (.bin .eql .i64 (.t 13) (.c (.int .i64 0))) <| .op 3 (some 11) (.mov (.t 14)) <| .nil) <|
  .ite (.t 11)
  (.reg (.op 0 (some 2) (.mov (.c (.int .i64 4))) <| .nil) <|
  .ret)
  (.reg (.op 0 (some 15) (.mov (.t 0)) <| .op 1 (some 16) (.len (.t 15)) <| .op 2 (some 17) (.mov (.c (.int .i64 0))) <| .nil) <|
  .jump 1))⟩,
 ⟨[0, 15, 16, 17], [.code 23, .code 24, .inLoop 21, .inBlock 20, .code 63],
  .reg (.op 0 (some 18) (.bin .lss .i64 (.t 17) (.t 16)) <| .nil) <|
  .ite (.t 18)
  (.reg (.op 0 (some 19) (.iadr (.t 15) (.t 17) 1) <| .op 1 (some 20) (.ld (.lf .sl) (.t 19)) <| .op 2 (some 4) (.mov (.t 20)) <| .nil) <|
  .reg (.op 0 (some 21) (.mov (.t 4)) <| .op 1 (some 22) (.len (.t 21)) <| .op 2 (some 23) (.mov (.t 0)) <| .op 3 (some 24) (.len (.t 23)) <| .op 4 (some 25) (.bin .neq .i64 (.t 22) (.t 24)) <| .nil) <|
  .ite (.t 25)
  (.reg (.op 0 (some 2) (.mov (.c (.int .i64 4))) <| .nil) <|
  .ret)
  (.reg (.op 0 (some 26) (.mov (.t 4)) <| .op 1 (some 27) (.len (.t 26)) <| .op 2 (some 28) (.mov (.c (.int .i64 0))) <| .nil) <|
  .jump 2))
  (.reg (.op 0 (some 2) (.mov (.c (.int .i64 0))) <| .nil) <|
  .ret)⟩,
 ⟨[0, 15, 16, 17, 26, 27, 28], [.code 45, .code 46, .inLoop 43, .inBlock 42, .inBlock 29, .code 62, .inLoop 21, .inBlock 20, .code 63],
  .reg (.op 0 (some 29) (.bin .lss .i64 (.t 28) (.t 27)) <| .nil) <|
  .ite (.t 29)
  (.reg (.op 0 (some 30) (.iadr (.t 26) (.t 28) 1) <| .op 1 (some 31) (.ld (.lf (.int .i64)) (.t 30)) <| .op 2 (some 6) (.mov (.t 31)) <| .nil) <|
  .reg (.op 0 (some 32) (.mov (.t 6)) <| .op 1 (some 33) (.bin .lss .i64 (.t 32) (.c (.int .i64 0))) <| .op 2 (some 34) (.mov (.t 33)) <| .grp 34 false (.op 3 (some 35) (.mov (.t 6)) <| .op 4 (some 36) (.mov (.t 0)) <| .op 5 (some 37) (.len (.t 36)) <| .op 6 (some 38) (.bin .geq .i64 (.t 35) (.t 37)) <| .nil) 7 39 (.t 38) <| .nil) <|
  .ite (.t 39)
  (.reg (.op 0 (some 2) (.mov (.c (.int .i64 4))) <| .nil) <|
  .ret)
  (.reg (.op 0 (some 40) (.bin .add .i64 (.t 28) (.c (.int .i64 1))) <| .op 1 (some 28) (.mov (.t 40)) <| .nil) <|
  .jump 2))
  (.reg (.op 0 (some 41) (.bin .add .i64 (.t 17) (.c (.int .i64 1))) <| .op 1 (some 17) (.mov (.t 41)) <| .nil) <|
  .jump 1)⟩]⟩
noncomputable def mult_failing_fn : Fn := ⟨1, [.tmp 2, .tmp 3, .tmp 4, .tmp 5], [
 ⟨[0], [.code 0],
  .reg (.op 0 (some 2) (.mov (.c (.int .i64 0))) <| .op 1 (some 3) (.mov (.c (.int .i64 0))) <| .op 2 (some 4) (.mov (.c (.int .i64 0))) <| .op 3 (some 5) (.mov (.c (.bool false))) <| .nil) <|
  .reg (.op 0 (some 9) (.mov (.t 0)) <| .op 1 (some 10) (.len (.t 9)) <| .op 2 (some 11) (.mov (.c (.int .i64 0))) <| .nil) <|
  .jump 1⟩,
 ⟨[0, 10, 11], [.code 8, .code 9, .inLoop 6, .inBlock 5, .code 55],
  .reg (.op 0 (some 12) (.bin .lss .i64 (.t 11) (.t 10)) <| .nil) <|
  .ite (.t 12)
  (.reg (.op 0 (some 13) (.mov (.t 11)) <| .op 1 (some 6) (.mov (.t 13)) <| .nil) <|
  .reg (.op 0 (some 14) (.mov (.t 0)) <| .op 1 (some 15) (.len (.t 14)) <| .op 2 (some 16) (.mov (.c (.int .i64 0))) <| .nil) <|
  .jump 2)
  (.reg (.op 0 (some 2) (.mov (.c (.int .i64 0))) <| .op 1 (some 3) (.mov (.c (.int .i64 0))) <| .op 2 (some 4) (.mov (.c (.int .i64 0))) <| .op 3 (some 5) (.mov (.c (.bool false))) <| .nil) <|
  .ret)⟩,
 ⟨[0, 6, 10, 11, 15, 16], [.code 22, .code 23, .inLoop 20, .inBlock 19, .inBlock 14, .code 54, .inLoop 6, .inBlock 5, .code 55],
  .reg (.op 0 (some 17) (.bin .lss .i64 (.t 16) (.t 15)) <| .nil) <|
  .ite (.t 17)
  (.reg (.op 0 (some 18) (.mov (.t 16)) <| .op 1 (some 7) (.mov (.t 18)) <| .nil) <|
  .reg (.op 0 (some 19) (.mov (.t 0)) <| .op 1 (some 20) (.len (.t 19)) <| .op 2 (some 21) (.mov (.c (.int .i64 0))) <| .nil) <|
  .jump 3)
  (.reg (.op 0 (some 56) (.bin .add .i64 (.t 11) (.c (.int .i64 1))) <| .op 1 (some 11) (.mov (.t 56)) <| .nil) <|
  .jump 1)⟩,
 ⟨[0, 6, 7, 10, 11, 15, 16, 20, 21], [.code 36, .code 37, .inLoop 34, .inBlock 33, .inBlock 28, .code 53, .inLoop 20, .inBlock 19, .inBlock 14, .code 54, .inLoop 6, .inBlock 5, .code 55],
  .reg (.op 0 (some 22) (.bin .lss .i64 (.t 21) (.t 20)) <| .nil) <|
  .ite (.t 22)
  (.reg (.op 0 (some 23) (.mov (.t 21)) <| .op 1 (some 8) (.mov (.t 23)) <| .nil) <|
  .reg (.op 0 (some 24) (.mov (.t 0)) <| .op 1 (some 25) (.mov (.t 0)) <| .op 2 (some 26) (.mov (.t 6)) <| .op 3 (some 27) (.iadr (.t 25) (.t 26) 1) <| .op 4 (some 28) (.ld (.lf .sl) (.t 27)) <| .op 5 (some 29) (.mov (.t 7)) <| .op 6 (some 30) (.iadr (.t 28) (.t 29) 1) <| .op 7 (some 31) (.ld (.lf (.int .i64)) (.t 30)) <| .op 8 (some 32) (.iadr (.t 24) (.t 31) 1) <| .op 9 (some 33) (.ld (.lf .sl) (.t 32)) <| .op 10 (some 34) (.mov (.t 8)) <| .op 11 (some 35) (.iadr (.t 33) (.t 34) 1) <| .op 12 (some 36) (.ld (.lf (.int .i64)) (.t 35)) <| .op 13 (some 37) (.mov (.t 0)) <| .op 14 (some 38) (.mov (.t 6)) <| .op 15 (some 39) (.iadr (.t 37) (.t 38) 1) <| .op 16 (some 40) (.ld (.lf .sl) (.t 39)) <| .op 17 (some 41) (.mov (.t 0)) <| .op 18 (some 42) (.mov (.t 7)) <| .op 19 (some 43) (.iadr (.t 41) (.t 42) 1) <| .op 20 (some 44) (.ld (.lf .sl) (.t 43)) <| .op 21 (some 45) (.mov (.t 8)) <| .op 22 (some 46) (.iadr (.t 44) (.t 45) 1) <| .op 23 (some 47) (.ld (.lf (.int .i64)) (.t 46)) <| .op 24 (some 48) (.iadr (.t 40) (.t 47) 1) <| .op 25 (some 49) (.ld (.lf (.int .i64)) (.t 48)) <| .op 26 (some 50) (.bin .neq .i64 (.t 36) (.t 49)) <| .nil) <|
  .ite (.t 50)
  (.reg (.op 0 (some 51) (.mov (.t 6)) <| .op 1 (some 52) (.mov (.t 7)) <| .op 2 (some 53) (.mov (.t 8)) <| .op 3 (some 2) (.mov (.t 51)) <| .op 4 (some 3) (.mov (.t 52)) <| .op 5 (some 4) (.mov (.t 53)) <| .op 6 (some 5) (.mov (.c (.bool true))) <| .nil) <|
  .ret)
  (.reg (.op 0 (some 54) (.bin .add .i64 (.t 21) (.c (.int .i64 1))) <| .op 1 (some 21) (.mov (.t 54)) <| .nil) <|
  .jump 3))
  (.reg (.op 0 (some 55) (.bin .add .i64 (.t 16) (.c (.int .i64 1))) <| .op 1 (some 16) (.mov (.t 55)) <| .nil) <|
  .jump 2)⟩]⟩
noncomputable def mult_Validate_fn : Fn := ⟨1, [.tmp 2], [
 ⟨[0], [.code 0],
  .reg (.op 0 (some 2) (.mov (.c (.int .i64 0))) <| .nil) <|
  .reg (.op 0 (some 8) (.mov (.t 0)) <| .op 1 (some 9) (.call 3 [(.t 8)] true (.one (.lf (.int .i64)))) <| .op 2 (some 3) (.mov (.t 9)) <| .nil) <|
  .reg (.op 0 (some 10) (.mov (.t 3)) <| .op 1 (some 11) (.bin .neq .i64 (.t 10) (.c (.int .i64 0))) <| .nil) <|
  .ite (.t 11)
  (.reg (.op 0 (some 12) (.mov (.t 3)) <| .op 1 (some 2) (.mov (.t 12)) <| .nil) <|
  .ret)
  (.reg (.op 0 (some 14) (.mov (.t 0)) <| .op 1 (some 15) (.call 4 [(.t 14)] true (.tup [(.lf (.int .i64)), (.lf (.int .i64)), (.lf (.int .i64)), (.lf .bool)])) <| .op 2 (some 13) (.mov (.t 15)) <| .op 3 (some 16) (.ext (.t 13) 0) <| .op 4 (some 17) (.ext (.t 13) 1) <| .op 5 (some 18) (.ext (.t 13) 2) <| .op 6 (some 19) (.ext (.t 13) 3) <| .op 7 (some 4) (.mov (.t 16)) <| .op 8 (some 5) (.mov (.t 17)) <| .op 9 (some 6) (.mov (.t 18)) <| .op 10 (some 7) (.mov (.t 19)) <| .nil) <|
  .reg (.op 0 (some 20) (.mov (.t 7)) <| .nil) <|
  .ite (.t 20)
  (.reg (.op 0 (some 2) (.mov (.c (.int .i64 5))) <| .nil) <|
  .ret)
  (.reg (.op 0 (some 2) (.mov (.c (.int .i64 0))) <| .nil) <|
  .ret))⟩]⟩
noncomputable def group_inverses_fn : Fn := ⟨1, [.tmp 2, .tmp 3, .tmp 4], [
 ⟨[0], [.code 0],
  .reg (.op 0 (some 2) (.mov (.c (.int .i64 0))) <| .op 1 (some 3) (.mov (.c (.sl ⟨none, 0⟩))) <| .op 2 (some 4) (.mov (.c (.bool false))) <| .nil) <|
  .reg (.op 0 (some 5) (.mov (.c (.int .i64 (-1)))) <| .nil) <|
  .reg (.op 0 (some 12) (.mov (.t 0)) <| .op 1 (some 13) (.len (.t 12)) <| .op 2 (some 14) (.mov (.c (.int .i64 0))) <| .nil) <|
  .jump 1⟩,
 ⟨[0, 5, 13, 14], [.code 10, .code 11, .inLoop 8, .inBlock 7, .code 46],
  .reg (.op 0 (some 15) (.bin .lss .i64 (.t 14) (.t 13)) <| .nil) <|
  .ite (.t 15)
  (.reg (.op 0 (some 16) (.mov (.t 14)) <| .op 1 (some 6) (.mov (.t 16)) <| .nil) <|
  .reg (.op 0 (some 7) (.mov (.c (.bool true))) <| .nil) <|
  .reg (.op 0 (some 17) (.mov (.t 0)) <| .op 1 (some 18) (.len (.t 17)) <| .op 2 (some 19) (.mov (.c (.int .i64 0))) <| .nil) <|
  .jump 2)
  (.jump 3)⟩,
 ⟨[0, 5, 6, 7, 13, 14, 18, 19], [.code 27, .code 28, .inLoop 25, .inBlock 24, .code 38, .inBlock 16, .code 45, .inLoop 8, .inBlock 7, .code 46],
  .reg (.op 0 (some 20) (.bin .lss .i64 (.t 19) (.t 18)) <| .nil) <|
  .ite (.t 20)
  (.reg (.op 0 (some 21) (.mov (.t 19)) <| .op 1 (some 8) (.mov (.t 21)) <| .nil) <|
  .reg (.op 0 (some 22) (.mov (.t 7)) <| .op 1 (some 23) (.mov (.t 22)) <| .grp 23 true (.op 2 (some 24) (.mov (.t 0)) <| .op 3 (some 25) (.mov (.t 6)) <| .op 4 (some 26) (.iadr (.t 24) (.t 25) 1) <| .op 5 (some 27) (.ld (.lf .sl) (.t 26)) <| .op 6 (some 28) (.mov (.t 8)) <| .op 7 (some 29) (.iadr (.t 27) (.t 28) 1) <| .op 8 (some 30) (.ld (.lf (.int .i64)) (.t 29)) <| .op 9 (some 31) (.mov (.t 8)) <| .op 10 (some 32) (.bin .eql .i64 (.t 30) (.t 31)) <| .nil) 11 33 (.t 32) <| .op 12 (some 34) (.mov (.t 33)) <| .grp 34 true (.op 13 (some 35) (.mov (.t 0)) <| .op 14 (some 36) (.mov (.t 8)) <| .op 15 (some 37) (.iadr (.t 35) (.t 36) 1) <| .op 16 (some 38) (.ld (.lf .sl) (.t 37)) <| .op 17 (some 39) (.mov (.t 6)) <| .op 18 (some 40) (.iadr (.t 38) (.t 39) 1) <| .op 19 (some 41) (.ld (.lf (.int .i64)) (.t 40)) <| .op 20 (some 42) (.mov (.t 8)) <| .op 21 (some 43) (.bin .eql .i64 (.t 41) (.t 42)) <| .nil) 22 44 (.t 43) <| .op 23 (some 7) (.mov (.t 44)) <| .nil) <|
  .reg (.op 0 (some 45) (.bin .add .i64 (.t 19) (.c (.int .i64 1))) <| .op 1 (some 19) (.mov (.t 45)) <| .nil) <|
  .jump 2)
  (.reg (.op 0 (some 46) (.mov (.t 7)) <| .nil) <|
  .ite (.t 46)
  (.reg (.op 0 (some 47) (.mov (.t 6)) <| .op 1 (some 5) (.mov (.t 47)) <| .nil) <|
  .jump 3)
  (.reg (.op 0 (some 48) (.bin .add .i64 (.t 14) (.c (.int .i64 1))) <| .op 1 (some 14) (.mov (.t 48)) <| .nil) <|
  .jump 1))⟩,
 ⟨[0, 5], [.code 48, .code 49, .code 54],
  .reg (.op 0 (some 49) (.mov (.t 5)) <| .op 1 (some 50) (.bin .lss .i64 (.t 49) (.c (.int .i64 0))) <| .nil) <|
  .ite (.t 50)
  (.reg (.op 0 (some 2) (.mov (.c (.int .i64 0))) <| .op 1 (some 3) (.mov (.c (.sl ⟨none, 0⟩))) <| .op 2 (some 4) (.mov (.c (.bool false))) <| .nil) <|
  .ret)
  (.reg (.op 0 (some 51) (.mov (.t 0)) <| .op 1 (some 52) (.len (.t 51)) <| .op 2 (some 53) (.mksl [(.int .i64 0)] 8 (.t 52) (.t 52)) <| .op 3 (some 9) (.mov (.t 53)) <| .nil) <|
  .reg (.op 0 (some 54) (.mov (.t 0)) <| .op 1 (some 55) (.len (.t 54)) <| .op 2 (some 56) (.mov (.c (.int .i64 0))) <| .nil) <|
  .jump 4)⟩,
 ⟨[0, 5, 9, 55, 56], [.code 62, .code 63, .inLoop 60, .inBlock 59, .code 102],
  .reg (.op 0 (some 57) (.bin .lss .i64 (.t 56) (.t 55)) <| .nil) <|
  .ite (.t 57)
  (.reg (.op 0 (some 58) (.mov (.t 56)) <| .op 1 (some 10) (.mov (.t 58)) <| .nil) <|
  .reg (.op 0 (some 59) (.mov (.t 9)) <| .op 1 (some 60) (.mov (.t 10)) <| .op 2 (some 61) (.iadr (.t 59) (.t 60) 1) <| .op 3 none (.st none (.t 61) (.c (.int .i64 (-1)))) <| .nil) <|
  .reg (.op 0 (some 62) (.mov (.t 0)) <| .op 1 (some 63) (.len (.t 62)) <| .op 2 (some 64) (.mov (.c (.int .i64 0))) <| .nil) <|
  .jump 5)
  (.reg (.op 0 (some 98) (.mov (.t 5)) <| .op 1 (some 99) (.mov (.t 9)) <| .op 2 (some 2) (.mov (.t 98)) <| .op 3 (some 3) (.mov (.t 99)) <| .op 4 (some 4) (.mov (.c (.bool true))) <| .nil) <|
  .ret)⟩,
 ⟨[0, 5, 9, 10, 55, 56, 63, 64], [.code 79, .code 80, .inLoop 77, .inBlock 76, .code 94, .inBlock 68, .code 101, .inLoop 60, .inBlock 59, .code 102],
  .reg (.op 0 (some 65) (.bin .lss .i64 (.t 64) (.t 63)) <| .nil) <|
  .ite (.t 65)
  (.reg (.op 0 (some 66) (.mov (.t 64)) <| .op 1 (some 11) (.mov (.t 66)) <| .nil) <|
  .reg (.op 0 (some 67) (.mov (.t 0)) <| .op 1 (some 68) (.mov (.t 10)) <| .op 2 (some 69) (.iadr (.t 67) (.t 68) 1) <| .op 3 (some 70) (.ld (.lf .sl) (.t 69)) <| .op 4 (some 71) (.mov (.t 11)) <| .op 5 (some 72) (.iadr (.t 70) (.t 71) 1) <| .op 6 (some 73) (.ld (.lf (.int .i64)) (.t 72)) <| .op 7 (some 74) (.mov (.t 5)) <| .op 8 (some 75) (.bin .eql .i64 (.t 73) (.t 74)) <| .op 9 (some 76) (.mov (.t 75)) <| .grp 76 true (.op 10 (some 77) (.mov (.t 0)) <| .op 11 (some 78) (.mov (.t 11)) <| .op 12 (some 79) (.iadr (.t 77) (.t 78) 1) <| .op 13 (some 80) (.ld (.lf .sl) (.t 79)) <| .op 14 (some 81) (.mov (.t 10)) <| .op 15 (some 82) (.iadr (.t 80) (.t 81) 1) <| .op 16 (some 83) (.ld (.lf (.int .i64)) (.t 82)) <| .op 17 (some 84) (.mov (.t 5)) <| .op 18 (some 85) (.bin .eql .i64 (.t 83) (.t 84)) <| .nil) 19 86 (.t 85) <| .nil) <|
  .ite (.t 86)
  (.reg (.op 0 (some 87) (.mov (.t 9)) <| .op 1 (some 88) (.mov (.t 10)) <| .op 2 (some 89) (.mov (.t 11)) <| .op 3 (some 90) (.iadr (.t 87) (.t 88) 1) <| .op 4 none (.st none (.t 90) (.t 89)) <| .nil) <|
  .jump 6)
  (.jump 6))
  (.reg (.op 0 (some 92) (.mov (.t 9)) <| .op 1 (some 93) (.mov (.t 10)) <| .op 2 (some 94) (.iadr (.t 92) (.t 93) 1) <| .op 3 (some 95) (.ld (.lf (.int .i64)) (.t 94)) <| .op 4 (some 96) (.bin .lss .i64 (.t 95) (.c (.int .i64 0))) <| .nil) <|
  .ite (.t 96)
  (.reg (.op 0 (some 2) (.mov (.c (.int .i64 0))) <| .op 1 (some 3) (.mov (.c (.sl ⟨none, 0⟩))) <| .op 2 (some 4) (.mov (.c (.bool false))) <| .nil) <|
  .ret)
  (.reg (.op 0 (some 97) (.bin .add .i64 (.t 56) (.c (.int .i64 1))) <| .op 1 (some 56) (.mov (.t 97)) <| .nil) <|
  .jump 4))⟩,
 ⟨[0, 5, 9, 10, 55, 56, 63, 64], [.code 93, .inLoop 77, .inBlock 76, .code 94, .inBlock 68, .code 101, .inLoop 60, .inBlock 59, .code 102],
  .reg (.op 0 (some 91) (.bin .add .i64 (.t 64) (.c (.int .i64 1))) <| .op 1 (some 64) (.mov (.t 91)) <| .nil) <|
  .jump 5⟩]⟩
noncomputable def group_of_fn : Fn := ⟨1, [.cell 2 (.agg [.sl, (.int .i64), .sl]), .tmp 3], [
 ⟨[0], [.code 0],
  .reg (.op 0 (some 2) (.alloc [(.sl ⟨none, 0⟩), (.int .i64 0), (.sl ⟨none, 0⟩)]) <| .op 1 (some 3) (.mov (.c (.bool false))) <| .nil) <|
  .reg (.op 0 (some 7) (.mov (.t 0)) <| .op 1 (some 8) (.call 5 [(.t 7)] true (.one (.lf (.int .i64)))) <| .op 2 (some 9) (.bin .neq .i64 (.t 8) (.c (.int .i64 0))) <| .nil) <|
  .ite (.t 9)
  (.reg (.op 0 (some 10) (.bld [(.sl ⟨none, 0⟩), (.int .i64 0), (.sl ⟨none, 0⟩)] []) <| .op 1 none (.st (some 3) (.t 2) (.t 10)) <| .op 2 (some 3) (.mov (.c (.bool false))) <| .nil) <|
  .ret)
  (.reg (.op 0 (some 12) (.mov (.t 0)) <| .op 1 (some 13) (.call 6 [(.t 12)] true (.tup [(.lf (.int .i64)), (.lf .sl), (.lf .bool)])) <| .op 2 (some 11) (.mov (.t 13)) <| .op 3 (some 14) (.ext (.t 11) 0) <| .op 4 (some 15) (.ext (.t 11) 1) <| .op 5 (some 16) (.ext (.t 11) 2) <| .op 6 (some 4) (.mov (.t 14)) <| .op 7 (some 5) (.mov (.t 15)) <| .op 8 (some 6) (.mov (.t 16)) <| .nil) <|
  .reg (.op 0 (some 17) (.mov (.t 0)) <| .op 1 (some 18) (.mov (.t 4)) <| .op 2 (some 19) (.mov (.t 5)) <| .op 3 (some 20) (.bld [(.sl ⟨none, 0⟩), (.int .i64 0), (.sl ⟨none, 0⟩)] [(0, 1, (.t 17)), (1, 1, (.t 18)), (2, 1, (.t 19))]) <| .op 4 (some 21) (.mov (.t 6)) <| .op 5 none (.st (some 3) (.t 2) (.t 20)) <| .op 6 (some 3) (.mov (.t 21)) <| .nil) <|
  .ret)⟩]⟩
noncomputable def group_IsGroup_fn : Fn := ⟨1, [.tmp 2], [
 ⟨[0], [.code 0],
  .reg (.op 0 (some 2) (.mov (.c (.bool false))) <| .nil) <|
  .reg (.op 0 (some 6) (.mov (.t 0)) <| .op 1 (some 7) (.call 7 [(.t 6)] true (.tup [(.agg [.sl, (.int .i64), .sl]), (.lf .bool)])) <| .op 2 (some 5) (.mov (.t 7)) <| .op 3 (some 8) (.ext (.t 5) 0) <| .op 4 (some 9) (.ext (.t 5) 1) <| .op 5 (some 3) (.alloc [(.sl ⟨none, 0⟩), (.int .i64 0), (.sl ⟨none, 0⟩)]) <| .op 6 none (.st (some 3) (.t 3) (.t 8)) <| .op 7 (some 4) (.mov (.t 9)) <| .nil) <|
  .reg (.op 0 (some 10) (.mov (.t 4)) <| .op 1 (some 2) (.mov (.t 10)) <| .nil) <|
  .ret⟩]⟩
noncomputable def rees_zero_fn : Fn := ⟨1, [.tmp 2], [
 ⟨[0], [.code 0],
  .reg (.op 0 (some 1) (.box 5 (.t 0)) <| .op 1 (some 2) (.mov (.c (.int .i64 0))) <| .nil) <|
  .reg (.op 0 (some 3) (.fadr (.t 1) 4) <| .op 1 (some 4) (.ld (.lf .bool) (.t 3)) <| .nil) <|
  .ite (.t 4)
  (.reg (.op 0 (some 2) (.mov (.c (.int .i64 1))) <| .nil) <|
  .ret)
  (.reg (.op 0 (some 2) (.mov (.c (.int .i64 0))) <| .nil) <|
  .ret)⟩]⟩
noncomputable def rees_size_fn : Fn := ⟨1, [.tmp 2], [
 ⟨[0], [.code 0],
  .reg (.op 0 (some 1) (.box 5 (.t 0)) <| .op 1 (some 2) (.mov (.c (.int .i64 0))) <| .nil) <|
  .reg (.op 0 (some 3) (.fadr (.t 1) 1) <| .op 1 (some 4) (.ld (.lf (.int .i64)) (.t 3)) <| .op 2 (some 5) (.bin .gtr .i64 (.t 4) (.c (.int .i64 400))) <| .op 3 (some 6) (.mov (.t 5)) <| .grp 6 false (.op 4 (some 7) (.fadr (.t 1) 2) <| .op 5 (some 8) (.ld (.lf (.int .i64)) (.t 7)) <| .op 6 (some 9) (.bin .gtr .i64 (.t 8) (.c (.int .i64 400))) <| .nil) 7 10 (.t 9) <| .nil) <|
  .ite (.t 10)
  (.reg (.op 0 (some 2) (.mov (.c (.int .i64 401))) <| .nil) <|
  .ret)
  (.reg (.op 0 (some 11) (.fadr (.t 1) 1) <| .op 1 (some 12) (.ld (.lf (.int .i64)) (.t 11)) <| .op 2 (some 13) (.fadr (.t 1) 2) <| .op 3 (some 14) (.ld (.lf (.int .i64)) (.t 13)) <| .op 4 (some 15) (.bin .mul .i64 (.t 12) (.t 14)) <| .op 5 (some 16) (.fadr (.t 1) 0) <| .op 6 (some 17) (.ld (.lf .sl) (.t 16)) <| .op 7 (some 18) (.len (.t 17)) <| .op 8 (some 19) (.bin .mul .i64 (.t 15) (.t 18)) <| .op 9 (some 20) (.ld (.agg [.sl, (.int .i64), (.int .i64), .sl, .bool]) (.t 1)) <| .op 10 (some 21) (.call 9 [(.t 20)] true (.one (.lf (.int .i64)))) <| .op 11 (some 22) (.bin .add .i64 (.t 19) (.t 21)) <| .op 12 (some 2) (.mov (.t 22)) <| .nil) <|
  .ret)⟩]⟩
noncomputable def rees_Validate_fn : Fn := ⟨1, [.tmp 2], [
 ⟨[0], [.code 0],
  .reg (.op 0 (some 1) (.box 5 (.t 0)) <| .op 1 (some 2) (.mov (.c (.int .i64 0))) <| .nil) <|
  .reg (.op 0 (some 7) (.fadr (.t 1) 0) <| .op 1 (some 8) (.ld (.lf .sl) (.t 7)) <| .op 2 (some 9) (.call 8 [(.t 8)] true (.one (.lf .bool))) <| .op 3 (some 10) (.not (.t 9)) <| .op 4 (some 11) (.mov (.t 10)) <| .grp 11 false (.op 5 (some 12) (.fadr (.t 1) 1) <| .op 6 (some 13) (.ld (.lf (.int .i64)) (.t 12)) <| .op 7 (some 14) (.bin .lss .i64 (.t 13) (.c (.int .i64 1))) <| .nil) 8 15 (.t 14) <| .op 9 (some 16) (.mov (.t 15)) <| .grp 16 false (.op 10 (some 17) (.fadr (.t 1) 2) <| .op 11 (some 18) (.ld (.lf (.int .i64)) (.t 17)) <| .op 12 (some 19) (.bin .lss .i64 (.t 18) (.c (.int .i64 1))) <| .nil) 13 20 (.t 19) <| .op 14 (some 21) (.mov (.t 20)) <| .grp 21 false (.op 15 (some 22) (.fadr (.t 1) 3) <| .op 16 (some 23) (.ld (.lf .sl) (.t 22)) <| .op 17 (some 24) (.len (.t 23)) <| .op 18 (some 25) (.fadr (.t 1) 2) <| .op 19 (some 26) (.ld (.lf (.int .i64)) (.t 25)) <| .op 20 (some 27) (.bin .neq .i64 (.t 24) (.t 26)) <| .nil) 21 28 (.t 27) <| .nil) <|
  .ite (.t 28)
  (.reg (.op 0 (some 2) (.mov (.c (.int .i64 4))) <| .nil) <|
  .ret)
  (.reg (.op 0 (some 29) (.fadr (.t 1) 3) <| .op 1 (some 30) (.ld (.lf .sl) (.t 29)) <| .op 2 (some 31) (.len (.t 30)) <| .op 3 (some 32) (.mov (.c (.int .i64 0))) <| .nil) <|
  .jump 1)⟩,
 ⟨[1, 30, 31, 32], [.code 16, .code 17, .inLoop 14, .inBlock 13, .code 56],
  .reg (.op 0 (some 33) (.bin .lss .i64 (.t 32) (.t 31)) <| .nil) <|
  .ite (.t 33)
  (.reg (.op 0 (some 34) (.iadr (.t 30) (.t 32) 1) <| .op 1 (some 35) (.ld (.lf .sl) (.t 34)) <| .op 2 (some 4) (.mov (.t 35)) <| .nil) <|
  .reg (.op 0 (some 36) (.mov (.t 4)) <| .op 1 (some 37) (.len (.t 36)) <| .op 2 (some 38) (.fadr (.t 1) 1) <| .op 3 (some 39) (.ld (.lf (.int .i64)) (.t 38)) <| .op 4 (some 40) (.bin .neq .i64 (.t 37) (.t 39)) <| .nil) <|
  .ite (.t 40)
  (.reg (.op 0 (some 2) (.mov (.c (.int .i64 4))) <| .nil) <|
  .ret)
  (.reg (.op 0 (some 41) (.mov (.t 4)) <| .op 1 (some 42) (.len (.t 41)) <| .op 2 (some 43) (.mov (.c (.int .i64 0))) <| .nil) <|
  .jump 2))
  (.reg (.op 0 (some 67) (.ld (.agg [.sl, (.int .i64), (.int .i64), .sl, .bool]) (.t 1)) <| .op 1 (some 68) (.call 10 [(.t 67)] true (.one (.lf (.int .i64)))) <| .op 2 (some 69) (.bin .gtr .i64 (.t 68) (.c (.int .i64 400))) <| .nil) <|
  .ite (.t 69)
  (.reg (.op 0 (some 2) (.mov (.c (.int .i64 3))) <| .nil) <|
  .ret)
  (.reg (.op 0 (some 2) (.mov (.c (.int .i64 0))) <| .nil) <|
  .ret))⟩,
 ⟨[1, 30, 31, 32, 41, 42, 43], [.code 38, .code 39, .inLoop 36, .inBlock 35, .inBlock 22, .code 55, .inLoop 14, .inBlock 13, .code 56],
  .reg (.op 0 (some 44) (.bin .lss .i64 (.t 43) (.t 42)) <| .nil) <|
  .ite (.t 44)
  (.reg (.op 0 (some 45) (.iadr (.t 41) (.t 43) 1) <| .op 1 (some 46) (.ld (.lf (.int .i64)) (.t 45)) <| .op 2 (some 6) (.mov (.t 46)) <| .nil) <|
  .reg (.op 0 (some 47) (.mov (.t 6)) <| .op 1 (some 48) (.bin .lss .i64 (.t 47) (.c (.int .i64 (-1)))) <| .op 2 (some 49) (.mov (.t 48)) <| .grp 49 false (.op 3 (some 50) (.mov (.t 6)) <| .op 4 (some 51) (.fadr (.t 1) 0) <| .op 5 (some 52) (.ld (.lf .sl) (.t 51)) <| .op 6 (some 53) (.len (.t 52)) <| .op 7 (some 54) (.bin .geq .i64 (.t 50) (.t 53)) <| .nil) 8 55 (.t 54) <| .op 9 (some 56) (.mov (.t 55)) <| .grp 56 false (.op 10 (some 57) (.mov (.t 6)) <| .op 11 (some 58) (.bin .lss .i64 (.t 57) (.c (.int .i64 0))) <| .op 12 (some 59) (.mov (.t 58)) <| .grp 59 true (.op 13 (some 60) (.fadr (.t 1) 4) <| .op 14 (some 61) (.ld (.lf .bool) (.t 60)) <| .op 15 (some 62) (.not (.t 61)) <| .nil) 16 63 (.t 62) <| .nil) 17 64 (.t 63) <| .nil) <|
  .ite (.t 64)
  (.reg (.op 0 (some 2) (.mov (.c (.int .i64 4))) <| .nil) <|
  .ret)
  (.reg (.op 0 (some 65) (.bin .add .i64 (.t 43) (.c (.int .i64 1))) <| .op 1 (some 43) (.mov (.t 65)) <| .nil) <|
  .jump 2))
  (.reg (.op 0 (some 66) (.bin .add .i64 (.t 32) (.c (.int .i64 1))) <| .op 1 (some 32) (.mov (.t 66)) <| .nil) <|
  .jump 1)⟩]⟩
noncomputable def rees_number_fn : Fn := ⟨4, [.tmp 8], [
 ⟨[0, 1, 2, 3], [.code 0],
  .reg (.op 0 (some 4) (.box 5 (.t 0)) <| .op 1 (some 8) (.mov (.c (.int .i64 0))) <| .nil) <|
  .reg (.op 0 (some 9) (.mov (.t 1)) <| .op 1 (some 10) (.fadr (.t 4) 0) <| .op 2 (some 11) (.ld (.lf .sl) (.t 10)) <| .op 3 (some 12) (.len (.t 11)) <| .op 4 (some 13) (.bin .mul .i64 (.t 9) (.t 12)) <| .op 5 (some 14) (.mov (.t 2)) <| .op 6 (some 15) (.bin .add .i64 (.t 13) (.t 14)) <| .op 7 (some 16) (.fadr (.t 4) 2) <| .op 8 (some 17) (.ld (.lf (.int .i64)) (.t 16)) <| .op 9 (some 18) (.bin .mul .i64 (.t 15) (.t 17)) <| .op 10 (some 19) (.mov (.t 3)) <| .op 11 (some 20) (.bin .add .i64 (.t 18) (.t 19)) <| .op 12 (some 21) (.ld (.agg [.sl, (.int .i64), (.int .i64), .sl, .bool]) (.t 4)) <| .op 13 (some 22) (.call 9 [(.t 21)] true (.one (.lf (.int .i64)))) <| .op 14 (some 23) (.bin .add .i64 (.t 20) (.t 22)) <| .op 15 (some 8) (.mov (.t 23)) <| .nil) <|
  .ret⟩]⟩
noncomputable def rees_mul_fn : Fn := ⟨3, [.tmp 6], [
 ⟨[0, 1, 2], [.code 0],
  .reg (.op 0 (some 3) (.box 5 (.t 0)) <| .op 1 (some 6) (.mov (.c (.int .i64 0))) <| .nil) <|
  .reg (.op 0 (some 15) (.ld (.agg [.sl, (.int .i64), (.int .i64), .sl, .bool]) (.t 3)) <| .op 1 (some 16) (.call 9 [(.t 15)] true (.one (.lf (.int .i64)))) <| .op 2 (some 7) (.mov (.t 16)) <| .nil) <|
  .reg (.op 0 (some 17) (.mov (.t 7)) <| .op 1 (some 18) (.bin .eql .i64 (.t 17) (.c (.int .i64 1))) <| .op 2 (some 19) (.mov (.t 18)) <| .grp 19 true (.op 3 (some 20) (.mov (.t 1)) <| .op 4 (some 21) (.bin .eql .i64 (.t 20) (.c (.int .i64 0))) <| .op 5 (some 22) (.mov (.t 21)) <| .grp 22 false (.op 6 (some 23) (.mov (.t 2)) <| .op 7 (some 24) (.bin .eql .i64 (.t 23) (.c (.int .i64 0))) <| .nil) 8 25 (.t 24) <| .nil) 9 26 (.t 25) <| .nil) <|
  .ite (.t 26)
  (.reg (.op 0 (some 6) (.mov (.c (.int .i64 0))) <| .nil) <|
  .ret)
  (.reg (.op 0 (some 27) (.mov (.t 1)) <| .op 1 (some 28) (.mov (.t 7)) <| .op 2 (some 29) (.bin .sub .i64 (.t 27) (.t 28)) <| .op 3 (some 30) (.mov (.t 2)) <| .op 4 (some 31) (.mov (.t 7)) <| .op 5 (some 32) (.bin .sub .i64 (.t 30) (.t 31)) <| .op 6 (some 1) (.mov (.t 29)) <| .op 7 (some 2) (.mov (.t 32)) <| .nil) <|
  .reg (.op 0 (some 33) (.mov (.t 1)) <| .op 1 (some 34) (.fadr (.t 3) 2) <| .op 2 (some 35) (.ld (.lf (.int .i64)) (.t 34)) <| .op 3 (some 36) (.bin .rem .i64 (.t 33) (.t 35)) <| .op 4 (some 37) (.mov (.t 2)) <| .op 5 (some 38) (.fadr (.t 3) 2) <| .op 6 (some 39) (.ld (.lf (.int .i64)) (.t 38)) <| .op 7 (some 40) (.bin .rem .i64 (.t 37) (.t 39)) <| .op 8 (some 8) (.mov (.t 36)) <| .op 9 (some 9) (.mov (.t 40)) <| .nil) <|
  .reg (.op 0 (some 41) (.mov (.t 1)) <| .op 1 (some 42) (.fadr (.t 3) 2) <| .op 2 (some 43) (.ld (.lf (.int .i64)) (.t 42)) <| .op 3 (some 44) (.bin .quo .i64 (.t 41) (.t 43)) <| .op 4 (some 45) (.fadr (.t 3) 0) <| .op 5 (some 46) (.ld (.lf .sl) (.t 45)) <| .op 6 (some 47) (.len (.t 46)) <| .op 7 (some 48) (.bin .rem .i64 (.t 44) (.t 47)) <| .op 8 (some 49) (.mov (.t 2)) <| .op 9 (some 50) (.fadr (.t 3) 2) <| .op 10 (some 51) (.ld (.lf (.int .i64)) (.t 50)) <| .op 11 (some 52) (.bin .quo .i64 (.t 49) (.t 51)) <| .op 12 (some 53) (.fadr (.t 3) 0) <| .op 13 (some 54) (.ld (.lf .sl) (.t 53)) <| .op 14 (some 55) (.len (.t 54)) <| .op 15 (some 56) (.bin .rem .i64 (.t 52) (.t 55)) <| .op 16 (some 10) (.mov (.t 48)) <| .op 17 (some 11) (.mov (.t 56)) <| .nil) <|
  .reg (.op 0 (some 57) (.mov (.t 1)) <| .op 1 (some 58) (.fadr (.t 3) 2) <| .op 2 (some 59) (.ld (.lf (.int .i64)) (.t 58)) <| .op 3 (some 60) (.bin .quo .i64 (.t 57) (.t 59)) <| .op 4 (some 61) (.fadr (.t 3) 0) <| .op 5 (some 62) (.ld (.lf .sl) (.t 61)) <| .op 6 (some 63) (.len (.t 62)) <| .op 7 (some 64) (.bin .quo .i64 (.t 60) (.t 63)) <| .op 8 (some 65) (.mov (.t 2)) <| .op 9 (some 66) (.fadr (.t 3) 2) <| .op 10 (some 67) (.ld (.lf (.int .i64)) (.t 66)) <| .op 11 (some 68) (.bin .quo .i64 (.t 65) (.t 67)) <| .op 12 (some 69) (.fadr (.t 3) 0) <| .op 13 (some 70) (.ld (.lf .sl) (.t 69)) <| .op 14 (some 71) (.len (.t 70)) <| .op 15 (some 72) (.bin .quo .i64 (.t 68) (.t 71)) <| .op 16 (some 12) (.mov (.t 64)) <| .op 17 (some 13) (.mov (.t 72)) <| .nil) <|
  .reg (.op 0 (some 73) (.fadr (.t 3) 3) <| .op 1 (some 74) (.ld (.lf .sl) (.t 73)) <| .op 2 (some 75) (.mov (.t 8)) <| .op 3 (some 76) (.iadr (.t 74) (.t 75) 1) <| .op 4 (some 77) (.ld (.lf .sl) (.t 76)) <| .op 5 (some 78) (.mov (.t 13)) <| .op 6 (some 79) (.iadr (.t 77) (.t 78) 1) <| .op 7 (some 80) (.ld (.lf (.int .i64)) (.t 79)) <| .op 8 (some 14) (.mov (.t 80)) <| .nil) <|
  .reg (.op 0 (some 81) (.mov (.t 14)) <| .op 1 (some 82) (.bin .lss .i64 (.t 81) (.c (.int .i64 0))) <| .nil) <|
  .ite (.t 82)
  (.reg (.op 0 (some 6) (.mov (.c (.int .i64 0))) <| .nil) <|
  .ret)
  (.reg (.op 0 (some 83) (.ld (.agg [.sl, (.int .i64), (.int .i64), .sl, .bool]) (.t 3)) <| .op 1 (some 84) (.mov (.t 12)) <| .op 2 (some 85) (.fadr (.t 3) 0) <| .op 3 (some 86) (.ld (.lf .sl) (.t 85)) <| .op 4 (some 87) (.fadr (.t 3) 0) <| .op 5 (some 88) (.ld (.lf .sl) (.t 87)) <| .op 6 (some 89) (.mov (.t 10)) <| .op 7 (some 90) (.iadr (.t 88) (.t 89) 1) <| .op 8 (some 91) (.ld (.lf .sl) (.t 90)) <| .op 9 (some 92) (.mov (.t 14)) <| .op 10 (some 93) (.iadr (.t 91) (.t 92) 1) <| .op 11 (some 94) (.ld (.lf (.int .i64)) (.t 93)) <| .op 12 (some 95) (.iadr (.t 86) (.t 94) 1) <| .op 13 (some 96) (.ld (.lf .sl) (.t 95)) <| .op 14 (some 97) (.mov (.t 11)) <| .op 15 (some 98) (.iadr (.t 96) (.t 97) 1) <| .op 16 (some 99) (.ld (.lf (.int .i64)) (.t 98)) <| .op 17 (some 100) (.mov (.t 9)) <| .op 18 (some 101) (.call 12 [(.t 83), (.t 84), (.t 99), (.t 100)] true (.one (.lf (.int .i64)))) <| .op 19 (some 6) (.mov (.t 101)) <| .nil) <|
  .ret))⟩]⟩
noncomputable def rees_Table_fn : Fn := ⟨1, [.tmp 2, .tmp 3], [
 ⟨[0], [.code 0],
  .reg (.op 0 (some 1) (.box 5 (.t 0)) <| .op 1 (some 2) (.mov (.c (.sl ⟨none, 0⟩))) <| .op 2 (some 3) (.mov (.c (.int .i64 0))) <| .nil) <|
  .reg (.op 0 (some 8) (.ld (.agg [.sl, (.int .i64), (.int .i64), .sl, .bool]) (.t 1)) <| .op 1 (some 9) (.call 11 [(.t 8)] true (.one (.lf (.int .i64)))) <| .op 2 (some 4) (.mov (.t 9)) <| .nil) <|
  .reg (.op 0 (some 10) (.mov (.t 4)) <| .op 1 (some 11) (.bin .neq .i64 (.t 10) (.c (.int .i64 0))) <| .nil) <|
  .ite (.t 11)
  (.reg (.op 0 (some 12) (.mov (.t 4)) <| .op 1 (some 2) (.mov (.c (.sl ⟨none, 0⟩))) <| .op 2 (some 3) (.mov (.t 12)) <| .nil) <|
  .ret)
  (.reg (.op 0 (some 13) (.ld (.agg [.sl, (.int .i64), (.int .i64), .sl, .bool]) (.t 1)) <| .op 1 (some 14) (.call 10 [(.t 13)] true (.one (.lf (.int .i64)))) <| .op 2 (some 15) (.mksl [(.sl ⟨none, 0⟩)] 24 (.t 14) (.t 14)) <| .op 3 (some 5) (.mov (.t 15)) <| .nil) <|
  .reg (.op 0 (some 16) (.mov (.t 5)) <| .op 1 (some 17) (.len (.t 16)) <| .op 2 (some 18) (.mov (.c (.int .i64 0))) <| .nil) <|
  .jump 1)⟩,
 ⟨[1, 5, 17, 18], [.code 20, .code 21, .inLoop 18, .inBlock 17, .code 48],
  .reg (.op 0 (some 19) (.bin .lss .i64 (.t 18) (.t 17)) <| .nil) <|
  .ite (.t 19)
  (.reg (.op 0 (some 20) (.mov (.t 18)) <| .op 1 (some 6) (.mov (.t 20)) <| .nil) <|
  .reg (.op 0 (some 21) (.mov (.t 5)) <| .op 1 (some 22) (.mov (.t 6)) <| .op 2 (some 23) (.mov (.t 5)) <| .op 3 (some 24) (.len (.t 23)) <| .op 4 (some 25) (.mksl [(.int .i64 0)] 8 (.t 24) (.t 24)) <| .op 5 (some 26) (.iadr (.t 21) (.t 22) 1) <| .op 6 none (.st none (.t 26) (.t 25)) <| .nil) <|
  .reg (.op 0 (some 27) (.mov (.t 5)) <| .op 1 (some 28) (.len (.t 27)) <| .op 2 (some 29) (.mov (.c (.int .i64 0))) <| .nil) <|
  .jump 2)
  (.reg (.op 0 (some 44) (.mov (.t 5)) <| .op 1 (some 2) (.mov (.t 44)) <| .op 2 (some 3) (.mov (.c (.int .i64 0))) <| .nil) <|
  .ret)⟩,
 ⟨[1, 5, 6, 17, 18, 28, 29], [.code 36, .code 37, .inLoop 34, .inBlock 33, .inBlock 26, .code 47, .inLoop 18, .inBlock 17, .code 48],
  .reg (.op 0 (some 30) (.bin .lss .i64 (.t 29) (.t 28)) <| .nil) <|
  .ite (.t 30)
  (.reg (.op 0 (some 31) (.mov (.t 29)) <| .op 1 (some 7) (.mov (.t 31)) <| .nil) <|
  .reg (.op 0 (some 32) (.mov (.t 5)) <| .op 1 (some 33) (.mov (.t 6)) <| .op 2 (some 34) (.iadr (.t 32) (.t 33) 1) <| .op 3 (some 35) (.ld (.lf .sl) (.t 34)) <| .op 4 (some 36) (.mov (.t 7)) <| .op 5 (some 37) (.ld (.agg [.sl, (.int .i64), (.int .i64), .sl, .bool]) (.t 1)) <| .op 6 (some 38) (.mov (.t 6)) <| .op 7 (some 39) (.mov (.t 7)) <| .op 8 (some 40) (.call 13 [(.t 37), (.t 38), (.t 39)] true (.one (.lf (.int .i64)))) <| .op 9 (some 41) (.iadr (.t 35) (.t 36) 1) <| .op 10 none (.st none (.t 41) (.t 40)) <| .nil) <|
  .reg (.op 0 (some 42) (.bin .add .i64 (.t 29) (.c (.int .i64 1))) <| .op 1 (some 29) (.mov (.t 42)) <| .nil) <|
  .jump 2)
  (.reg (.op 0 (some 43) (.bin .add .i64 (.t 18) (.c (.int .i64 1))) <| .op 1 (some 18) (.mov (.t 43)) <| .nil) <|
  .jump 1)⟩]⟩
noncomputable def rees_Regular_fn : Fn := ⟨1, [.tmp 2], [
 ⟨[0], [.code 0],
  .reg (.op 0 (some 1) (.box 5 (.t 0)) <| .op 1 (some 2) (.mov (.c (.bool false))) <| .nil) <|
  .reg (.op 0 (some 10) (.ld (.agg [.sl, (.int .i64), (.int .i64), .sl, .bool]) (.t 1)) <| .op 1 (some 11) (.call 11 [(.t 10)] true (.one (.lf (.int .i64)))) <| .op 2 (some 12) (.bin .neq .i64 (.t 11) (.c (.int .i64 0))) <| .nil) <|
  .ite (.t 12)
  (.reg (.op 0 (some 2) (.mov (.c (.bool false))) <| .nil) <|
  .ret)
  (.reg (.op 0 (some 13) (.fadr (.t 1) 1) <| .op 1 (some 14) (.ld (.lf (.int .i64)) (.t 13)) <| .op 2 (some 15) (.mksl [(.bool false)] 1 (.t 14) (.t 14)) <| .op 3 (some 16) (.fadr (.t 1) 2) <| .op 4 (some 17) (.ld (.lf (.int .i64)) (.t 16)) <| .op 5 (some 18) (.mksl [(.bool false)] 1 (.t 17) (.t 17)) <| .op 6 (some 3) (.mov (.t 15)) <| .op 7 (some 4) (.mov (.t 18)) <| .nil) <|
  .reg (.op 0 (some 19) (.fadr (.t 1) 3) <| .op 1 (some 20) (.ld (.lf .sl) (.t 19)) <| .op 2 (some 21) (.len (.t 20)) <| .op 3 (some 22) (.mov (.c (.int .i64 0))) <| .nil) <|
  .jump 1)⟩,
 ⟨[1, 3, 4, 21, 22], [.code 18, .code 19, .inLoop 16, .inBlock 15, .code 46],
  .reg (.op 0 (some 23) (.bin .lss .i64 (.t 22) (.t 21)) <| .nil) <|
  .ite (.t 23)
  (.reg (.op 0 (some 24) (.mov (.t 22)) <| .op 1 (some 5) (.mov (.t 24)) <| .nil) <|
  .reg (.op 0 (some 25) (.fadr (.t 1) 3) <| .op 1 (some 26) (.ld (.lf .sl) (.t 25)) <| .op 2 (some 27) (.mov (.t 5)) <| .op 3 (some 28) (.iadr (.t 26) (.t 27) 1) <| .op 4 (some 29) (.ld (.lf .sl) (.t 28)) <| .op 5 (some 30) (.len (.t 29)) <| .op 6 (some 31) (.mov (.c (.int .i64 0))) <| .nil) <|
  .jump 2)
  (.reg (.op 0 (some 60) (.mov (.t 3)) <| .op 1 (some 61) (.mov (.t 4)) <| .op 2 (some 62) (.app 1 1 (.t 60) (.t 61)) <| .op 3 (some 63) (.len (.t 62)) <| .op 4 (some 64) (.mov (.c (.int .i64 0))) <| .nil) <|
  .jump 3)⟩,
 ⟨[1, 3, 4, 5, 21, 22, 29, 30, 31], [.code 32, .code 33, .inLoop 30, .inBlock 29, .inBlock 24, .code 45, .inLoop 16, .inBlock 15, .code 46],
  .reg (.op 0 (some 32) (.bin .lss .i64 (.t 31) (.t 30)) <| .nil) <|
  .ite (.t 32)
  (.reg (.op 0 (some 33) (.mov (.t 31)) <| .op 1 (some 34) (.iadr (.t 29) (.t 31) 1) <| .op 2 (some 35) (.ld (.lf (.int .i64)) (.t 34)) <| .op 3 (some 6) (.mov (.t 33)) <| .op 4 (some 7) (.mov (.t 35)) <| .nil) <|
  .reg (.op 0 (some 36) (.mov (.t 3)) <| .op 1 (some 37) (.mov (.t 6)) <| .op 2 (some 38) (.mov (.t 3)) <| .op 3 (some 39) (.mov (.t 6)) <| .op 4 (some 40) (.iadr (.t 38) (.t 39) 1) <| .op 5 (some 41) (.ld (.lf .bool) (.t 40)) <| .op 6 (some 42) (.mov (.t 41)) <| .grp 42 false (.op 7 (some 43) (.mov (.t 7)) <| .op 8 (some 44) (.bin .geq .i64 (.t 43) (.c (.int .i64 0))) <| .nil) 9 45 (.t 44) <| .op 10 (some 46) (.iadr (.t 36) (.t 37) 1) <| .op 11 none (.st none (.t 46) (.t 45)) <| .nil) <|
  .reg (.op 0 (some 47) (.mov (.t 4)) <| .op 1 (some 48) (.mov (.t 5)) <| .op 2 (some 49) (.mov (.t 4)) <| .op 3 (some 50) (.mov (.t 5)) <| .op 4 (some 51) (.iadr (.t 49) (.t 50) 1) <| .op 5 (some 52) (.ld (.lf .bool) (.t 51)) <| .op 6 (some 53) (.mov (.t 52)) <| .grp 53 false (.op 7 (some 54) (.mov (.t 7)) <| .op 8 (some 55) (.bin .geq .i64 (.t 54) (.c (.int .i64 0))) <| .nil) 9 56 (.t 55) <| .op 10 (some 57) (.iadr (.t 47) (.t 48) 1) <| .op 11 none (.st none (.t 57) (.t 56)) <| .nil) <|
  .reg (.op 0 (some 58) (.bin .add .i64 (.t 31) (.c (.int .i64 1))) <| .op 1 (some 31) (.mov (.t 58)) <| .nil) <|
  .jump 2)
  (.reg (.op 0 (some 59) (.bin .add .i64 (.t 22) (.c (.int .i64 1))) <| .op 1 (some 22) (.mov (.t 59)) <| .nil) <|
  .jump 1)⟩,
 ⟨[62, 63, 64], [.code 52, .code 53, .inLoop 50, .inBlock 49, .code 69],
  .reg (.op 0 (some 65) (.bin .lss .i64 (.t 64) (.t 63)) <| .nil) <|
  .ite (.t 65)
  (.reg (.op 0 (some 66) (.iadr (.t 62) (.t 64) 1) <| .op 1 (some 67) (.ld (.lf .bool) (.t 66)) <| .op 2 (some 9) (.mov (.t 67)) <| .nil) <|
  .reg (.op 0 (some 68) (.mov (.t 9)) <| .op 1 (some 69) (.not (.t 68)) <| .nil) <|
  .ite (.t 69)
  (.reg (.op 0 (some 2) (.mov (.c (.bool false))) <| .nil) <|
  .ret)
  (.reg (.op 0 (some 70) (.bin .add .i64 (.t 64) (.c (.int .i64 1))) <| .op 1 (some 64) (.mov (.t 70)) <| .nil) <|
  .jump 3))
  (.reg (.op 0 (some 2) (.mov (.c (.bool true))) <| .nil) <|
  .ret)⟩]⟩
noncomputable def semigrouplaw17_awake_fn : Fn := ⟨0, [.tmp 0], [
 ⟨[], [.code 0],
  .reg (.op 0 (some 0) (.mov (.c (.bool false))) <| .nil) <|
  .reg (.op 0 (some 4) (.call 2 [] true (.one (.agg [.sl, (.int .i64), (.int .i64), .sl, .bool]))) <| .op 1 (some 5) (.call 14 [(.t 4)] true (.tup [(.lf .sl), (.lf (.int .i64))])) <| .op 2 (some 3) (.mov (.t 5)) <| .op 3 (some 6) (.ext (.t 3) 0) <| .op 4 (some 7) (.ext (.t 3) 1) <| .op 5 (some 1) (.mov (.t 6)) <| .op 6 (some 2) (.mov (.t 7)) <| .nil) <|
  .reg (.op 0 (some 8) (.mov (.t 2)) <| .op 1 (some 9) (.bin .eql .i64 (.t 8) (.c (.int .i64 0))) <| .op 2 (some 10) (.mov (.t 9)) <| .grp 10 true (.op 3 (some 11) (.mov (.t 1)) <| .op 4 (some 12) (.len (.t 11)) <| .op 5 (some 13) (.bin .eql .i64 (.t 12) (.c (.int .i64 5))) <| .nil) 6 14 (.t 13) <| .op 7 (some 15) (.mov (.t 14)) <| .grp 15 true (.op 8 (some 16) (.call 2 [] true (.one (.agg [.sl, (.int .i64), (.int .i64), .sl, .bool]))) <| .op 9 (some 17) (.call 15 [(.t 16)] true (.one (.lf .bool))) <| .nil) 10 18 (.t 17) <| .op 11 (some 19) (.mov (.t 18)) <| .grp 19 true (.op 12 (some 20) (.mov (.t 1)) <| .op 13 (some 21) (.iadr (.t 20) (.c (.int .i64 1)) 1) <| .op 14 (some 22) (.ld (.lf .sl) (.t 21)) <| .op 15 (some 23) (.iadr (.t 22) (.c (.int .i64 1)) 1) <| .op 16 (some 24) (.ld (.lf (.int .i64)) (.t 23)) <| .op 17 (some 25) (.bin .eql .i64 (.t 24) (.c (.int .i64 1))) <| .nil) 18 26 (.t 25) <| .op 19 (some 27) (.mov (.t 26)) <| .grp 27 true (.op 20 (some 28) (.mov (.t 1)) <| .op 21 (some 29) (.iadr (.t 28) (.c (.int .i64 1)) 1) <| .op 22 (some 30) (.ld (.lf .sl) (.t 29)) <| .op 23 (some 31) (.iadr (.t 30) (.c (.int .i64 4)) 1) <| .op 24 (some 32) (.ld (.lf (.int .i64)) (.t 31)) <| .op 25 (some 33) (.bin .eql .i64 (.t 32) (.c (.int .i64 0))) <| .nil) 26 34 (.t 33) <| .op 27 (some 0) (.mov (.t 34)) <| .nil) <|
  .ret⟩]⟩
noncomputable def green_right_fn : Fn := ⟨1, [.tmp 2], [
 ⟨[0], [.code 0],
  .reg (.op 0 (some 2) (.mov (.c (.sl ⟨none, 0⟩))) <| .nil) <|
  .reg (.op 0 (some 6) (.mov (.t 0)) <| .op 1 (some 7) (.len (.t 6)) <| .op 2 (some 8) (.mksl [(.sl ⟨none, 0⟩)] 24 (.t 7) (.t 7)) <| .op 3 (some 3) (.mov (.t 8)) <| .nil) <|
  .reg (.op 0 (some 9) (.mov (.t 0)) <| .op 1 (some 10) (.len (.t 9)) <| .op 2 (some 11) (.mov (.c (.int .i64 0))) <| .nil) <|
  .jump 1⟩,
 ⟨[0, 3, 10, 11], [.code 10, .code 11, .inLoop 8, .inBlock 7, .code 40],
  .reg (.op 0 (some 12) (.bin .lss .i64 (.t 11) (.t 10)) <| .nil) <|
  .ite (.t 12)
  (.reg (.op 0 (some 13) (.mov (.t 11)) <| .op 1 (some 4) (.mov (.t 13)) <| .nil) <|
  .reg (.op 0 (some 14) (.mov (.t 3)) <| .op 1 (some 15) (.mov (.t 4)) <| .op 2 (some 16) (.mov (.t 0)) <| .op 3 (some 17) (.len (.t 16)) <| .op 4 (some 18) (.mksl [(.bool false)] 1 (.t 17) (.t 17)) <| .op 5 (some 19) (.iadr (.t 14) (.t 15) 1) <| .op 6 none (.st none (.t 19) (.t 18)) <| .nil) <|
  .reg (.op 0 (some 20) (.mov (.t 3)) <| .op 1 (some 21) (.mov (.t 4)) <| .op 2 (some 22) (.iadr (.t 20) (.t 21) 1) <| .op 3 (some 23) (.ld (.lf .sl) (.t 22)) <| .op 4 (some 24) (.mov (.t 4)) <| .op 5 (some 25) (.iadr (.t 23) (.t 24) 1) <| .op 6 none (.st none (.t 25) (.c (.bool true))) <| .nil) <|
  .reg (.op 0 (some 26) (.mov (.t 0)) <| .op 1 (some 27) (.len (.t 26)) <| .op 2 (some 28) (.mov (.c (.int .i64 0))) <| .nil) <|
  .jump 2)
  (.reg (.op 0 (some 45) (.mov (.t 3)) <| .op 1 (some 2) (.mov (.t 45)) <| .nil) <|
  .ret)⟩,
 ⟨[0, 3, 4, 10, 11, 27, 28], [.code 28, .code 29, .inLoop 26, .inBlock 25, .inBlock 16, .code 39, .inLoop 8, .inBlock 7, .code 40],
  .reg (.op 0 (some 29) (.bin .lss .i64 (.t 28) (.t 27)) <| .nil) <|
  .ite (.t 29)
  (.reg (.op 0 (some 30) (.mov (.t 28)) <| .op 1 (some 5) (.mov (.t 30)) <| .nil) <|
  .reg (.op 0 (some 31) (.mov (.t 3)) <| .op 1 (some 32) (.mov (.t 4)) <| .op 2 (some 33) (.iadr (.t 31) (.t 32) 1) <| .op 3 (some 34) (.ld (.lf .sl) (.t 33)) <| .op 4 (some 35) (.mov (.t 0)) <| .op 5 (some 36) (.mov (.t 4)) <| .op 6 (some 37) (.iadr (.t 35) (.t 36) 1) <| .op 7 (some 38) (.ld (.lf .sl) (.t 37)) <| .op 8 (some 39) (.mov (.t 5)) <| .op 9 (some 40) (.iadr (.t 38) (.t 39) 1) <| .op 10 (some 41) (.ld (.lf (.int .i64)) (.t 40)) <| .op 11 (some 42) (.iadr (.t 34) (.t 41) 1) <| .op 12 none (.st none (.t 42) (.c (.bool true))) <| .nil) <|
  .reg (.op 0 (some 43) (.bin .add .i64 (.t 28) (.c (.int .i64 1))) <| .op 1 (some 28) (.mov (.t 43)) <| .nil) <|
  .jump 2)
  (.reg (.op 0 (some 44) (.bin .add .i64 (.t 11) (.c (.int .i64 1))) <| .op 1 (some 11) (.mov (.t 44)) <| .nil) <|
  .jump 1)⟩]⟩
noncomputable def green_left_fn : Fn := ⟨1, [.tmp 2], [
 ⟨[0], [.code 0],
  .reg (.op 0 (some 2) (.mov (.c (.sl ⟨none, 0⟩))) <| .nil) <|
  .reg (.op 0 (some 6) (.mov (.t 0)) <| .op 1 (some 7) (.len (.t 6)) <| .op 2 (some 8) (.mksl [(.sl ⟨none, 0⟩)] 24 (.t 7) (.t 7)) <| .op 3 (some 3) (.mov (.t 8)) <| .nil) <|
  .reg (.op 0 (some 9) (.mov (.t 0)) <| .op 1 (some 10) (.len (.t 9)) <| .op 2 (some 11) (.mov (.c (.int .i64 0))) <| .nil) <|
  .jump 1⟩,
 ⟨[0, 3, 10, 11], [.code 10, .code 11, .inLoop 8, .inBlock 7, .code 40],
  .reg (.op 0 (some 12) (.bin .lss .i64 (.t 11) (.t 10)) <| .nil) <|
  .ite (.t 12)
  (.reg (.op 0 (some 13) (.mov (.t 11)) <| .op 1 (some 4) (.mov (.t 13)) <| .nil) <|
  .reg (.op 0 (some 14) (.mov (.t 3)) <| .op 1 (some 15) (.mov (.t 4)) <| .op 2 (some 16) (.mov (.t 0)) <| .op 3 (some 17) (.len (.t 16)) <| .op 4 (some 18) (.mksl [(.bool false)] 1 (.t 17) (.t 17)) <| .op 5 (some 19) (.iadr (.t 14) (.t 15) 1) <| .op 6 none (.st none (.t 19) (.t 18)) <| .nil) <|
  .reg (.op 0 (some 20) (.mov (.t 3)) <| .op 1 (some 21) (.mov (.t 4)) <| .op 2 (some 22) (.iadr (.t 20) (.t 21) 1) <| .op 3 (some 23) (.ld (.lf .sl) (.t 22)) <| .op 4 (some 24) (.mov (.t 4)) <| .op 5 (some 25) (.iadr (.t 23) (.t 24) 1) <| .op 6 none (.st none (.t 25) (.c (.bool true))) <| .nil) <|
  .reg (.op 0 (some 26) (.mov (.t 0)) <| .op 1 (some 27) (.len (.t 26)) <| .op 2 (some 28) (.mov (.c (.int .i64 0))) <| .nil) <|
  .jump 2)
  (.reg (.op 0 (some 45) (.mov (.t 3)) <| .op 1 (some 2) (.mov (.t 45)) <| .nil) <|
  .ret)⟩,
 ⟨[0, 3, 4, 10, 11, 27, 28], [.code 28, .code 29, .inLoop 26, .inBlock 25, .inBlock 16, .code 39, .inLoop 8, .inBlock 7, .code 40],
  .reg (.op 0 (some 29) (.bin .lss .i64 (.t 28) (.t 27)) <| .nil) <|
  .ite (.t 29)
  (.reg (.op 0 (some 30) (.mov (.t 28)) <| .op 1 (some 5) (.mov (.t 30)) <| .nil) <|
  .reg (.op 0 (some 31) (.mov (.t 3)) <| .op 1 (some 32) (.mov (.t 4)) <| .op 2 (some 33) (.iadr (.t 31) (.t 32) 1) <| .op 3 (some 34) (.ld (.lf .sl) (.t 33)) <| .op 4 (some 35) (.mov (.t 0)) <| .op 5 (some 36) (.mov (.t 5)) <| .op 6 (some 37) (.iadr (.t 35) (.t 36) 1) <| .op 7 (some 38) (.ld (.lf .sl) (.t 37)) <| .op 8 (some 39) (.mov (.t 4)) <| .op 9 (some 40) (.iadr (.t 38) (.t 39) 1) <| .op 10 (some 41) (.ld (.lf (.int .i64)) (.t 40)) <| .op 11 (some 42) (.iadr (.t 34) (.t 41) 1) <| .op 12 none (.st none (.t 42) (.c (.bool true))) <| .nil) <|
  .reg (.op 0 (some 43) (.bin .add .i64 (.t 28) (.c (.int .i64 1))) <| .op 1 (some 28) (.mov (.t 43)) <| .nil) <|
  .jump 2)
  (.reg (.op 0 (some 44) (.bin .add .i64 (.t 11) (.c (.int .i64 1))) <| .op 1 (some 11) (.mov (.t 44)) <| .nil) <|
  .jump 1)⟩]⟩
noncomputable def green_two_fn : Fn := ⟨1, [.tmp 2], [
 ⟨[0], [.code 0],
  .reg (.op 0 (some 2) (.mov (.c (.sl ⟨none, 0⟩))) <| .nil) <|
  .reg (.op 0 (some 11) (.mov (.t 0)) <| .op 1 (some 12) (.call 17 [(.t 11)] true (.one (.lf .sl))) <| .op 2 (some 13) (.mov (.t 0)) <| .op 3 (some 14) (.call 18 [(.t 13)] true (.one (.lf .sl))) <| .op 4 (some 3) (.mov (.t 12)) <| .op 5 (some 4) (.mov (.t 14)) <| .nil) <|
  .reg (.op 0 (some 15) (.mov (.t 0)) <| .op 1 (some 16) (.len (.t 15)) <| .op 2 (some 17) (.mksl [(.sl ⟨none, 0⟩)] 24 (.t 16) (.t 16)) <| .op 3 (some 5) (.mov (.t 17)) <| .nil) <|
  .reg (.op 0 (some 18) (.mov (.t 0)) <| .op 1 (some 19) (.len (.t 18)) <| .op 2 (some 20) (.mov (.c (.int .i64 0))) <| .nil) <|
  .jump 1⟩,
 ⟨[0, 3, 4, 5, 19, 20], [.code 12, .code 13, .inLoop 10, .inBlock 9, .code 61],
  .reg (.op 0 (some 21) (.bin .lss .i64 (.t 20) (.t 19)) <| .nil) <|
  .ite (.t 21)
  (.reg (.op 0 (some 22) (.mov (.t 20)) <| .op 1 (some 6) (.mov (.t 22)) <| .nil) <|
  .reg (.op 0 (some 23) (.mov (.t 5)) <| .op 1 (some 24) (.mov (.t 6)) <| .op 2 (some 25) (.mov (.t 0)) <| .op 3 (some 26) (.len (.t 25)) <| .op 4 (some 27) (.mksl [(.bool false)] 1 (.t 26) (.t 26)) <| .op 5 (some 28) (.iadr (.t 23) (.t 24) 1) <| .op 6 none (.st none (.t 28) (.t 27)) <| .nil) <|
  .reg (.op 0 (some 29) (.mov (.t 4)) <| .op 1 (some 30) (.mov (.t 6)) <| .op 2 (some 31) (.iadr (.t 29) (.t 30) 1) <| .op 3 (some 32) (.ld (.lf .sl) (.t 31)) <| .op 4 (some 33) (.len (.t 32)) <| .op 5 (some 34) (.mov (.c (.int .i64 0))) <| .nil) <|
  .jump 2)
  (.reg (.op 0 (some 70) (.mov (.t 5)) <| .op 1 (some 2) (.mov (.t 70)) <| .nil) <|
  .ret)⟩,
 ⟨[0, 3, 4, 5, 6, 19, 20, 32, 33, 34], [.code 28, .code 29, .inLoop 26, .inBlock 25, .inBlock 18, .code 60, .inLoop 10, .inBlock 9, .code 61],
  .reg (.op 0 (some 35) (.bin .lss .i64 (.t 34) (.t 33)) <| .nil) <|
  .ite (.t 35)
  (.reg (.op 0 (some 36) (.mov (.t 34)) <| .op 1 (some 37) (.iadr (.t 32) (.t 34) 1) <| .op 2 (some 38) (.ld (.lf .bool) (.t 37)) <| .op 3 (some 7) (.mov (.t 36)) <| .op 4 (some 8) (.mov (.t 38)) <| .nil) <|
  .reg (.op 0 (some 39) (.mov (.t 8)) <| .op 1 (some 40) (.not (.t 39)) <| .nil) <|
  .ite (.t 40)
  (.jump 4)
  (.reg (.op 0 (some 41) (.mov (.t 3)) <| .op 1 (some 42) (.mov (.t 7)) <| .op 2 (some 43) (.iadr (.t 41) (.t 42) 1) <| .op 3 (some 44) (.ld (.lf .sl) (.t 43)) <| .op 4 (some 45) (.len (.t 44)) <| .op 5 (some 46) (.mov (.c (.int .i64 0))) <| .nil) <|
  .jump 3))
  (.reg (.op 0 (some 69) (.bin .add .i64 (.t 20) (.c (.int .i64 1))) <| .op 1 (some 20) (.mov (.t 69)) <| .nil) <|
  .jump 1)⟩,
 ⟨[0, 3, 4, 5, 6, 19, 20, 32, 33, 34, 44, 45, 46], [.code 48, .code 49, .inLoop 46, .inBlock 45, .inBlock 34, .code 59, .inLoop 26, .inBlock 25, .inBlock 18, .code 60, .inLoop 10, .inBlock 9, .code 61],
  .reg (.op 0 (some 47) (.bin .lss .i64 (.t 46) (.t 45)) <| .nil) <|
  .ite (.t 47)
  (.reg (.op 0 (some 48) (.mov (.t 46)) <| .op 1 (some 49) (.iadr (.t 44) (.t 46) 1) <| .op 2 (some 50) (.ld (.lf .bool) (.t 49)) <| .op 3 (some 9) (.mov (.t 48)) <| .op 4 (some 10) (.mov (.t 50)) <| .nil) <|
  .reg (.op 0 (some 51) (.mov (.t 5)) <| .op 1 (some 52) (.mov (.t 6)) <| .op 2 (some 53) (.iadr (.t 51) (.t 52) 1) <| .op 3 (some 54) (.ld (.lf .sl) (.t 53)) <| .op 4 (some 55) (.mov (.t 9)) <| .op 5 (some 56) (.mov (.t 5)) <| .op 6 (some 57) (.mov (.t 6)) <| .op 7 (some 58) (.iadr (.t 56) (.t 57) 1) <| .op 8 (some 59) (.ld (.lf .sl) (.t 58)) <| .op 9 (some 60) (.mov (.t 9)) <| .op 10 (some 61) (.iadr (.t 59) (.t 60) 1) <| .op 11 (some 62) (.ld (.lf .bool) (.t 61)) <| .op 12 (some 63) (.mov (.t 62)) <| .grp 63 false (.op 13 (some 64) (.mov (.t 10)) <| .nil) 14 65 (.t 64) <| .op 15 (some 66) (.iadr (.t 54) (.t 55) 1) <| .op 16 none (.st none (.t 66) (.t 65)) <| .nil) <|
  .reg (.op 0 (some 67) (.bin .add .i64 (.t 46) (.c (.int .i64 1))) <| .op 1 (some 46) (.mov (.t 67)) <| .nil) <|
  .jump 3)
  (.jump 4)⟩,
 ⟨[0, 3, 4, 5, 6, 19, 20, 32, 33, 34], [.code 59, .inLoop 26, .inBlock 25, .inBlock 18, .code 60, .inLoop 10, .inBlock 9, .code 61],
  .reg (.op 0 (some 68) (.bin .add .i64 (.t 34) (.c (.int .i64 1))) <| .op 1 (some 34) (.mov (.t 68)) <| .nil) <|
  .jump 2⟩]⟩
noncomputable def green_mutual_fn : Fn := ⟨1, [.tmp 2], [
 ⟨[0], [.code 0],
  .reg (.op 0 (some 2) (.mov (.c (.sl ⟨none, 0⟩))) <| .nil) <|
  .reg (.op 0 (some 8) (.mov (.t 0)) <| .op 1 (some 9) (.len (.t 8)) <| .op 2 (some 10) (.mksl [(.int .i64 0)] 8 (.t 9) (.t 9)) <| .op 3 (some 3) (.mov (.t 10)) <| .nil) <|
  .reg (.op 0 (some 11) (.mov (.t 3)) <| .op 1 (some 12) (.len (.t 11)) <| .op 2 (some 13) (.mov (.c (.int .i64 0))) <| .nil) <|
  .jump 1⟩,
 ⟨[0, 3, 12, 13], [.code 10, .code 11, .inLoop 8, .inBlock 7, .code 21],
  .reg (.op 0 (some 14) (.bin .lss .i64 (.t 13) (.t 12)) <| .nil) <|
  .ite (.t 14)
  (.reg (.op 0 (some 15) (.mov (.t 13)) <| .op 1 (some 4) (.mov (.t 15)) <| .nil) <|
  .reg (.op 0 (some 16) (.mov (.t 3)) <| .op 1 (some 17) (.mov (.t 4)) <| .op 2 (some 18) (.iadr (.t 16) (.t 17) 1) <| .op 3 none (.st none (.t 18) (.c (.int .i64 (-1)))) <| .nil) <|
  .reg (.op 0 (some 19) (.bin .add .i64 (.t 13) (.c (.int .i64 1))) <| .op 1 (some 13) (.mov (.t 19)) <| .nil) <|
  .jump 1)
  (.reg (.op 0 (some 5) (.mov (.c (.int .i64 0))) <| .nil) <|
  .reg (.op 0 (some 20) (.mov (.t 3)) <| .op 1 (some 21) (.len (.t 20)) <| .op 2 (some 22) (.mov (.c (.int .i64 0))) <| .nil) <|
  .jump 2)⟩,
 ⟨[0, 3, 5, 21, 22], [.code 29, .code 30, .inLoop 27, .inBlock 26, .code 65],
  .reg (.op 0 (some 23) (.bin .lss .i64 (.t 22) (.t 21)) <| .nil) <|
  .ite (.t 23)
  (.reg (.op 0 (some 24) (.mov (.t 22)) <| .op 1 (some 6) (.mov (.t 24)) <| .nil) <|
  .reg (.op 0 (some 25) (.mov (.t 3)) <| .op 1 (some 26) (.mov (.t 6)) <| .op 2 (some 27) (.iadr (.t 25) (.t 26) 1) <| .op 3 (some 28) (.ld (.lf (.int .i64)) (.t 27)) <| .op 4 (some 29) (.bin .geq .i64 (.t 28) (.c (.int .i64 0))) <| .nil) <|
  .ite (.t 29)
  (.jump 5)
  (.reg (.op 0 (some 30) (.mov (.t 6)) <| .op 1 (some 7) (.mov (.t 30)) <| .nil) <|
  .jump 3))
  (.reg (.op 0 (some 60) (.mov (.t 3)) <| .op 1 (some 2) (.mov (.t 60)) <| .nil) <|
  .ret)⟩,
 ⟨[0, 3, 5, 6, 7, 21, 22], [.code 51, .code 52, .code 55, .inLoop 48, .inBlock 47, .code 63, .inBlock 35, .code 64, .inLoop 27, .inBlock 26, .code 65],
  .reg (.op 0 (some 31) (.mov (.t 7)) <| .op 1 (some 32) (.mov (.t 3)) <| .op 2 (some 33) (.len (.t 32)) <| .op 3 (some 34) (.bin .lss .i64 (.t 31) (.t 33)) <| .nil) <|
  .ite (.t 34)
  (.reg (.op 0 (some 37) (.mov (.t 0)) <| .op 1 (some 38) (.mov (.t 6)) <| .op 2 (some 39) (.iadr (.t 37) (.t 38) 1) <| .op 3 (some 40) (.ld (.lf .sl) (.t 39)) <| .op 4 (some 41) (.mov (.t 7)) <| .op 5 (some 42) (.iadr (.t 40) (.t 41) 1) <| .op 6 (some 43) (.ld (.lf .bool) (.t 42)) <| .op 7 (some 44) (.mov (.t 43)) <| .grp 44 true (.op 8 (some 45) (.mov (.t 0)) <| .op 9 (some 46) (.mov (.t 7)) <| .op 10 (some 47) (.iadr (.t 45) (.t 46) 1) <| .op 11 (some 48) (.ld (.lf .sl) (.t 47)) <| .op 12 (some 49) (.mov (.t 6)) <| .op 13 (some 50) (.iadr (.t 48) (.t 49) 1) <| .op 14 (some 51) (.ld (.lf .bool) (.t 50)) <| .nil) 15 52 (.t 51) <| .nil) <|
  .ite (.t 52)
  (.reg (.op 0 (some 53) (.mov (.t 3)) <| .op 1 (some 54) (.mov (.t 7)) <| .op 2 (some 55) (.mov (.t 5)) <| .op 3 (some 56) (.iadr (.t 53) (.t 54) 1) <| .op 4 none (.st none (.t 56) (.t 55)) <| .nil) <|
  .jump 4)
  (.jump 4))
  (.reg (.op 0 (some 57) (.mov (.t 5)) <| .op 1 (some 58) (.bin .add .i64 (.t 57) (.c (.int .i64 1))) <| .op 2 (some 5) (.mov (.t 58)) <| .nil) <|
  .jump 5)⟩,
 ⟨[0, 3, 5, 6, 7, 21, 22], [.code 62, .inLoop 48, .inBlock 47, .code 63, .inBlock 35, .code 64, .inLoop 27, .inBlock 26, .code 65],
  .reg (.op 0 (some 35) (.mov (.t 7)) <| .op 1 (some 36) (.bin .add .i64 (.t 35) (.c (.int .i64 1))) <| .op 2 (some 7) (.mov (.t 36)) <| .nil) <|
  .jump 3⟩,
 ⟨[0, 3, 5, 21, 22], [.code 64, .inLoop 27, .inBlock 26, .code 65],
  .reg (.op 0 (some 59) (.bin .add .i64 (.t 22) (.c (.int .i64 1))) <| .op 1 (some 22) (.mov (.t 59)) <| .nil) <|
  .jump 2⟩]⟩
noncomputable def partition_Valid_fn : Fn := ⟨1, [.tmp 2], [
 ⟨[0], [.code 0],
  .reg (.op 0 (some 2) (.mov (.c (.bool false))) <| .nil) <|
  .reg (.op 0 (some 6) (.mov (.t 0)) <| .op 1 (some 7) (.len (.t 6)) <| .op 2 (some 8) (.bin .gtr .i64 (.t 7) (.c (.int .i64 4096))) <| .nil) <|
  .ite (.t 8)
  (.reg (.op 0 (some 2) (.mov (.c (.bool false))) <| .nil) <|
  .ret)
  (.reg (.op 0 (some 3) (.mov (.c (.int .i64 0))) <| .nil) <|
  .reg (.op 0 (some 9) (.mov (.t 0)) <| .op 1 (some 10) (.len (.t 9)) <| .op 2 (some 11) (.mov (.c (.int .i64 0))) <| .nil) <|
  .jump 1)⟩,
 ⟨[3, 9, 10, 11], [.code 18, .code 19, .inLoop 16, .inBlock 15, .code 41],
  .reg (.op 0 (some 12) (.bin .lss .i64 (.t 11) (.t 10)) <| .nil) <|
  .ite (.t 12)
  (.reg (.op 0 (some 13) (.iadr (.t 9) (.t 11) 1) <| .op 1 (some 14) (.ld (.lf (.int .i64)) (.t 13)) <| .op 2 (some 5) (.mov (.t 14)) <| .nil) <|
  .reg (.op 0 (some 15) (.mov (.t 5)) <| .op 1 (some 16) (.bin .lss .i64 (.t 15) (.c (.int .i64 0))) <| .op 2 (some 17) (.mov (.t 16)) <| .grp 17 false (.op 3 (some 18) (.mov (.t 5)) <| .op 4 (some 19) (.mov (.t 3)) <| .op 5 (some 20) (.bin .gtr .i64 (.t 18) (.t 19)) <| .nil) 6 21 (.t 20) <| .nil) <|
  .ite (.t 21)
  (.reg (.op 0 (some 2) (.mov (.c (.bool false))) <| .nil) <|
  .ret)
  (.reg (.op 0 (some 22) (.mov (.t 5)) <| .op 1 (some 23) (.mov (.t 3)) <| .op 2 (some 24) (.bin .eql .i64 (.t 22) (.t 23)) <| .nil) <|
  .ite (.t 24)
  (.reg (.op 0 (some 25) (.mov (.t 3)) <| .op 1 (some 26) (.bin .add .i64 (.t 25) (.c (.int .i64 1))) <| .op 2 (some 3) (.mov (.t 26)) <| .nil) <|
  .jump 2)
  (.jump 2)))
  (.reg (.op 0 (some 2) (.mov (.c (.bool true))) <| .nil) <|
  .ret)⟩,
 ⟨[3, 9, 10, 11], [.code 40, .inLoop 16, .inBlock 15, .code 41],
  .reg (.op 0 (some 27) (.bin .add .i64 (.t 11) (.c (.int .i64 1))) <| .op 1 (some 11) (.mov (.t 27)) <| .nil) <|
  .jump 1⟩]⟩
noncomputable def partition_both_fn : Fn := ⟨2, [.tmp 4], [
 ⟨[0, 1], [.code 0],
  .reg (.op 0 (some 4) (.mov (.c (.bool false))) <| .nil) <|
  .reg (.op 0 (some 5) (.mov (.t 0)) <| .op 1 (some 6) (.len (.t 5)) <| .op 2 (some 7) (.mov (.t 1)) <| .op 3 (some 8) (.len (.t 7)) <| .op 4 (some 9) (.bin .eql .i64 (.t 6) (.t 8)) <| .op 5 (some 10) (.mov (.t 9)) <| .grp 10 true (.op 6 (some 11) (.mov (.t 0)) <| .op 7 (some 12) (.call 21 [(.t 11)] true (.one (.lf .bool))) <| .nil) 8 13 (.t 12) <| .op 9 (some 14) (.mov (.t 13)) <| .grp 14 true (.op 10 (some 15) (.mov (.t 1)) <| .op 11 (some 16) (.call 21 [(.t 15)] true (.one (.lf .bool))) <| .nil) 12 17 (.t 16) <| .op 13 (some 4) (.mov (.t 17)) <| .nil) <|
  .ret⟩]⟩
noncomputable def partition_Canonical_fn : Fn := ⟨1, [.tmp 2], [
 ⟨[0], [.code 0],
  .reg (.op 0 (some 2) (.mov (.c (.sl ⟨none, 0⟩))) <| .nil) <|
  .reg (.op 0 (some 9) (.mov (.t 0)) <| .op 1 (some 10) (.len (.t 9)) <| .op 2 (some 11) (.bin .gtr .i64 (.t 10) (.c (.int .i64 4096))) <| .nil) <|
  .ite (.t 11)
  (.reg (.op 0 (some 2) (.mov (.c (.sl ⟨none, 0⟩))) <| .nil) <|
  .ret)
  (.reg (.op 0 (some 12) (.mkm none) <| .op 1 (some 3) (.mov (.t 12)) <| .nil) <|
  .reg (.op 0 (some 13) (.mov (.t 0)) <| .op 1 (some 14) (.len (.t 13)) <| .op 2 (some 15) (.mksl [(.int .i64 0)] 8 (.t 14) (.t 14)) <| .op 3 (some 4) (.mov (.t 15)) <| .nil) <|
  .reg (.op 0 (some 16) (.mov (.t 0)) <| .op 1 (some 17) (.len (.t 16)) <| .op 2 (some 18) (.mov (.c (.int .i64 0))) <| .nil) <|
  .jump 1)⟩,
 ⟨[3, 4, 16, 17, 18], [.code 20, .code 21, .inLoop 18, .inBlock 17, .code 41],
  .reg (.op 0 (some 19) (.bin .lss .i64 (.t 18) (.t 17)) <| .nil) <|
  .ite (.t 19)
  (.reg (.op 0 (some 20) (.mov (.t 18)) <| .op 1 (some 21) (.iadr (.t 16) (.t 18) 1) <| .op 2 (some 22) (.ld (.lf (.int .i64)) (.t 21)) <| .op 3 (some 5) (.mov (.t 20)) <| .op 4 (some 6) (.mov (.t 22)) <| .nil) <|
  .reg (.op 0 (some 24) (.mov (.t 3)) <| .op 1 (some 25) (.mov (.t 6)) <| .op 2 (some 26) (.look false (.int .i64) (.int .i64 0) (.t 24) (.t 25) true) <| .op 3 (some 23) (.mov (.t 26)) <| .op 4 (some 27) (.ext (.t 23) 0) <| .op 5 (some 28) (.ext (.t 23) 1) <| .op 6 (some 7) (.mov (.t 27)) <| .op 7 (some 8) (.mov (.t 28)) <| .nil) <|
  .reg (.op 0 (some 29) (.mov (.t 8)) <| .op 1 (some 30) (.not (.t 29)) <| .nil) <|
  .ite (.t 30)
  (.reg (.op 0 (some 31) (.mov (.t 3)) <| .op 1 (some 32) (.lenm (.t 31)) <| .op 2 (some 7) (.mov (.t 32)) <| .nil) <|
  .reg (.op 0 (some 33) (.mov (.t 3)) <| .op 1 (some 34) (.mov (.t 6)) <| .op 2 (some 35) (.mov (.t 7)) <| .op 3 none (.mupd false (.t 33) (.t 34) (.t 35)) <| .nil) <|
  .jump 2)
  (.jump 2))
  (.reg (.op 0 (some 41) (.mov (.t 4)) <| .op 1 (some 2) (.mov (.t 41)) <| .nil) <|
  .ret)⟩,
 ⟨[3, 4, 5, 7, 16, 17, 18], [.code 39, .inBlock 26, .code 40, .inLoop 18, .inBlock 17, .code 41],
  .reg (.op 0 (some 36) (.mov (.t 4)) <| .op 1 (some 37) (.mov (.t 5)) <| .op 2 (some 38) (.mov (.t 7)) <| .op 3 (some 39) (.iadr (.t 36) (.t 37) 1) <| .op 4 none (.st none (.t 39) (.t 38)) <| .nil) <|
  .reg (.op 0 (some 40) (.bin .add .i64 (.t 18) (.c (.int .i64 1))) <| .op 1 (some 18) (.mov (.t 40)) <| .nil) <|
  .jump 1⟩]⟩
noncomputable def partition_Meet_fn : Fn := ⟨2, [.tmp 4], [
 ⟨[0, 1], [.code 0],
  .reg (.op 0 (some 4) (.mov (.c (.sl ⟨none, 0⟩))) <| .nil) <|
  .reg (.op 0 (some 7) (.mov (.t 0)) <| .op 1 (some 8) (.mov (.t 1)) <| .op 2 (some 9) (.call 22 [(.t 7), (.t 8)] true (.one (.lf .bool))) <| .op 3 (some 10) (.not (.t 9)) <| .nil) <|
  .ite (.t 10)
  (.reg (.op 0 (some 4) (.mov (.c (.sl ⟨none, 0⟩))) <| .nil) <|
  .ret)
  (.reg (.op 0 (some 11) (.mov (.t 0)) <| .op 1 (some 12) (.len (.t 11)) <| .op 2 (some 13) (.mksl [(.int .i64 0)] 8 (.t 12) (.t 12)) <| .op 3 (some 5) (.mov (.t 13)) <| .nil) <|
  .reg (.op 0 (some 14) (.mov (.t 0)) <| .op 1 (some 15) (.len (.t 14)) <| .op 2 (some 16) (.mov (.c (.int .i64 0))) <| .nil) <|
  .jump 1)⟩,
 ⟨[0, 1, 5, 15, 16], [.code 18, .code 19, .inLoop 16, .inBlock 15, .code 29],
  .reg (.op 0 (some 17) (.bin .lss .i64 (.t 16) (.t 15)) <| .nil) <|
  .ite (.t 17)
  (.reg (.op 0 (some 18) (.mov (.t 16)) <| .op 1 (some 6) (.mov (.t 18)) <| .nil) <|
  .reg (.op 0 (some 19) (.mov (.t 5)) <| .op 1 (some 20) (.mov (.t 6)) <| .op 2 (some 21) (.mov (.t 0)) <| .op 3 (some 22) (.mov (.t 6)) <| .op 4 (some 23) (.iadr (.t 21) (.t 22) 1) <| .op 5 (some 24) (.ld (.lf (.int .i64)) (.t 23)) <| .op 6 (some 25) (.bin .mul .i64 (.t 24) (.c (.int .i64 4096))) <| .op 7 (some 26) (.mov (.t 1)) <| .op 8 (some 27) (.mov (.t 6)) <| .op 9 (some 28) (.iadr (.t 26) (.t 27) 1) <| .op 10 (some 29) (.ld (.lf (.int .i64)) (.t 28)) <| .op 11 (some 30) (.bin .add .i64 (.t 25) (.t 29)) <| .op 12 (some 31) (.iadr (.t 19) (.t 20) 1) <| .op 13 none (.st none (.t 31) (.t 30)) <| .nil) <|
  .reg (.op 0 (some 32) (.bin .add .i64 (.t 16) (.c (.int .i64 1))) <| .op 1 (some 16) (.mov (.t 32)) <| .nil) <|
  .jump 1)
  (.reg (.op 0 (some 33) (.mov (.t 5)) <| .op 1 (some 34) (.call 23 [(.t 33)] true (.one (.lf .sl))) <| .op 2 (some 4) (.mov (.t 34)) <| .nil) <|
  .ret)⟩]⟩
noncomputable def green_firsts_fn : Fn := ⟨1, [.tmp 2], [
 ⟨[0], [.code 0],
  .reg (.op 0 (some 2) (.mov (.c (.sl ⟨none, 0⟩))) <| .nil) <|
  .reg (.op 0 (some 3) (.mov (.c (.sl ⟨none, 0⟩))) <| .nil) <|
  .reg (.op 0 (some 6) (.mov (.t 0)) <| .op 1 (some 7) (.len (.t 6)) <| .op 2 (some 8) (.mov (.c (.int .i64 0))) <| .nil) <|
  .jump 1⟩,
 ⟨[3, 6, 7, 8], [.code 10, .code 11, .inLoop 8, .inBlock 7, .code 25],
  .reg (.op 0 (some 9) (.bin .lss .i64 (.t 8) (.t 7)) <| .nil) <|
  .ite (.t 9)
  (.reg (.op 0 (some 10) (.mov (.t 8)) <| .op 1 (some 11) (.iadr (.t 6) (.t 8) 1) <| .op 2 (some 12) (.ld (.lf (.int .i64)) (.t 11)) <| .op 3 (some 4) (.mov (.t 10)) <| .op 4 (some 5) (.mov (.t 12)) <| .nil) <|
  .reg (.op 0 (some 13) (.mov (.t 5)) <| .op 1 (some 14) (.mov (.t 3)) <| .op 2 (some 15) (.len (.t 14)) <| .op 3 (some 16) (.bin .eql .i64 (.t 13) (.t 15)) <| .nil) <|
  .ite (.t 16)
  (.reg (.op 0 (some 17) (.mov (.t 3)) <| .op 1 (some 18) (.mov (.t 4)) <| .op 2 (some 19) (.bsl 1 [(.int .i64 0)] 1 [(0, 1, (.t 18))]) <| .op 3 (some 20) (.app 1 8 (.t 17) (.t 19)) <| .op 4 (some 3) (.mov (.t 20)) <| .nil) <|
  .jump 2)
  (.jump 2))
  (.reg (.op 0 (some 22) (.mov (.t 3)) <| .op 1 (some 2) (.mov (.t 22)) <| .nil) <|
  .ret)⟩,
 ⟨[3, 6, 7, 8], [.code 24, .inLoop 8, .inBlock 7, .code 25],
  .reg (.op 0 (some 21) (.bin .add .i64 (.t 8) (.c (.int .i64 1))) <| .op 1 (some 8) (.mov (.t 21)) <| .nil) <|
  .jump 1⟩]⟩
noncomputable def green_classes_fn : Fn := ⟨1, [.cell 2 (.agg [.sl, .sl, .sl, .sl, .sl])], [
 ⟨[0], [.code 0],
  .reg (.op 0 (some 2) (.alloc [(.sl ⟨none, 0⟩), (.sl ⟨none, 0⟩), (.sl ⟨none, 0⟩), (.sl ⟨none, 0⟩), (.sl ⟨none, 0⟩)]) <| .nil) <|
  .reg (.op 0 (some 10) (.mov (.t 0)) <| .op 1 (some 11) (.call 19 [(.t 10)] true (.one (.lf .sl))) <| .op 2 (some 3) (.mov (.t 11)) <| .nil) <|
  .reg (.op 0 (some 12) (.mov (.t 0)) <| .op 1 (some 13) (.call 17 [(.t 12)] true (.one (.lf .sl))) <| .op 2 (some 14) (.call 20 [(.t 13)] true (.one (.lf .sl))) <| .op 3 (some 15) (.mov (.t 0)) <| .op 4 (some 16) (.call 18 [(.t 15)] true (.one (.lf .sl))) <| .op 5 (some 17) (.call 20 [(.t 16)] true (.one (.lf .sl))) <| .op 6 (some 18) (.mov (.t 3)) <| .op 7 (some 19) (.call 20 [(.t 18)] true (.one (.lf .sl))) <| .op 8 (some 20) (.bld [(.sl ⟨none, 0⟩), (.sl ⟨none, 0⟩), (.sl ⟨none, 0⟩), (.sl ⟨none, 0⟩), (.sl ⟨none, 0⟩)] [(0, 1, (.t 14)), (1, 1, (.t 17)), (2, 1, (.t 19))]) <| .op 9 (some 4) (.alloc [(.sl ⟨none, 0⟩), (.sl ⟨none, 0⟩), (.sl ⟨none, 0⟩), (.sl ⟨none, 0⟩), (.sl ⟨none, 0⟩)]) <| .op 10 none (.st (some 5) (.t 4) (.t 20)) <| .nil) <|
  .reg (.op 0 (some 21) (.fadr (.t 4) 0) <| .op 1 (some 22) (.ld (.lf .sl) (.t 21)) <| .op 2 (some 23) (.fadr (.t 4) 1) <| .op 3 (some 24) (.ld (.lf .sl) (.t 23)) <| .op 4 (some 25) (.call 24 [(.t 22), (.t 24)] true (.one (.lf .sl))) <| .op 5 (some 26) (.fadr (.t 4) 3) <| .op 6 none (.st none (.t 26) (.t 25)) <| .nil) <|
  .reg (.op 0 (some 27) (.fadr (.t 4) 2) <| .op 1 (some 28) (.ld (.lf .sl) (.t 27)) <| .op 2 (some 29) (.call 25 [(.t 28)] true (.one (.lf .sl))) <| .op 3 (some 5) (.mov (.t 29)) <| .nil) <|
  .reg (.op 0 (some 30) (.mov (.t 5)) <| .op 1 (some 31) (.len (.t 30)) <| .op 2 (some 32) (.mksl [(.sl ⟨none, 0⟩)] 24 (.t 31) (.t 31)) <| .op 3 (some 33) (.fadr (.t 4) 4) <| .op 4 none (.st none (.t 33) (.t 32)) <| .nil) <|
  .reg (.op 0 (some 34) (.mov (.t 5)) <| .op 1 (some 35) (.len (.t 34)) <| .op 2 (some 36) (.mov (.c (.int .i64 0))) <| .nil) <|
  .jump 1⟩,
 ⟨[2, 3, 4, 5, 34, 35, 36], [.code 18, .code 19, .inLoop 16, .inBlock 15, .code 46],
  .reg (.op 0 (some 37) (.bin .lss .i64 (.t 36) (.t 35)) <| .nil) <|
  .ite (.t 37)
  (.reg (.op 0 (some 38) (.mov (.t 36)) <| .op 1 (some 39) (.iadr (.t 34) (.t 36) 1) <| .op 2 (some 40) (.ld (.lf (.int .i64)) (.t 39)) <| .op 3 (some 6) (.mov (.t 38)) <| .op 4 (some 7) (.mov (.t 40)) <| .nil) <|
  .reg (.op 0 (some 41) (.fadr (.t 4) 4) <| .op 1 (some 42) (.ld (.lf .sl) (.t 41)) <| .op 2 (some 43) (.mov (.t 6)) <| .op 3 (some 44) (.mov (.t 5)) <| .op 4 (some 45) (.len (.t 44)) <| .op 5 (some 46) (.mksl [(.bool false)] 1 (.t 45) (.t 45)) <| .op 6 (some 47) (.iadr (.t 42) (.t 43) 1) <| .op 7 none (.st none (.t 47) (.t 46)) <| .nil) <|
  .reg (.op 0 (some 48) (.mov (.t 5)) <| .op 1 (some 49) (.len (.t 48)) <| .op 2 (some 50) (.mov (.c (.int .i64 0))) <| .nil) <|
  .jump 2)
  (.reg (.op 0 (some 71) (.ld (.agg [.sl, .sl, .sl, .sl, .sl]) (.t 4)) <| .op 1 none (.st (some 5) (.t 2) (.t 71)) <| .nil) <|
  .ret)⟩,
 ⟨[2, 3, 4, 5, 6, 7, 34, 35, 36, 48, 49, 50], [.code 34, .code 35, .inLoop 32, .inBlock 31, .inBlock 24, .code 45, .inLoop 16, .inBlock 15, .code 46],
  .reg (.op 0 (some 51) (.bin .lss .i64 (.t 50) (.t 49)) <| .nil) <|
  .ite (.t 51)
  (.reg (.op 0 (some 52) (.mov (.t 50)) <| .op 1 (some 53) (.iadr (.t 48) (.t 50) 1) <| .op 2 (some 54) (.ld (.lf (.int .i64)) (.t 53)) <| .op 3 (some 8) (.mov (.t 52)) <| .op 4 (some 9) (.mov (.t 54)) <| .nil) <|
  .reg (.op 0 (some 55) (.fadr (.t 4) 4) <| .op 1 (some 56) (.ld (.lf .sl) (.t 55)) <| .op 2 (some 57) (.mov (.t 6)) <| .op 3 (some 58) (.iadr (.t 56) (.t 57) 1) <| .op 4 (some 59) (.ld (.lf .sl) (.t 58)) <| .op 5 (some 60) (.mov (.t 8)) <| .op 6 (some 61) (.mov (.t 3)) <| .op 7 (some 62) (.mov (.t 9)) <| .op 8 (some 63) (.iadr (.t 61) (.t 62) 1) <| .op 9 (some 64) (.ld (.lf .sl) (.t 63)) <| .op 10 (some 65) (.mov (.t 7)) <| .op 11 (some 66) (.iadr (.t 64) (.t 65) 1) <| .op 12 (some 67) (.ld (.lf .bool) (.t 66)) <| .op 13 (some 68) (.iadr (.t 59) (.t 60) 1) <| .op 14 none (.st none (.t 68) (.t 67)) <| .nil) <|
  .reg (.op 0 (some 69) (.bin .add .i64 (.t 50) (.c (.int .i64 1))) <| .op 1 (some 50) (.mov (.t 69)) <| .nil) <|
  .jump 2)
  (.reg (.op 0 (some 70) (.bin .add .i64 (.t 36) (.c (.int .i64 1))) <| .op 1 (some 36) (.mov (.t 70)) <| .nil) <|
  .jump 1)⟩]⟩
noncomputable def green_Classes_fn : Fn := ⟨1, [.cell 2 (.agg [.sl, .sl, .sl, .sl, .sl])], [
 ⟨[0], [.code 0],
  .reg (.op 0 (some 2) (.alloc [(.sl ⟨none, 0⟩), (.sl ⟨none, 0⟩), (.sl ⟨none, 0⟩), (.sl ⟨none, 0⟩), (.sl ⟨none, 0⟩)]) <| .nil) <|
  .reg (.op 0 (some 3) (.mov (.t 0)) <| .op 1 (some 4) (.call 5 [(.t 3)] true (.one (.lf (.int .i64)))) <| .op 2 (some 5) (.bin .neq .i64 (.t 4) (.c (.int .i64 0))) <| .nil) <|
  .ite (.t 5)
  (.reg (.op 0 (some 6) (.bld [(.sl ⟨none, 0⟩), (.sl ⟨none, 0⟩), (.sl ⟨none, 0⟩), (.sl ⟨none, 0⟩), (.sl ⟨none, 0⟩)] []) <| .op 1 none (.st (some 5) (.t 2) (.t 6)) <| .nil) <|
  .ret)
  (.reg (.op 0 (some 7) (.mov (.t 0)) <| .op 1 (some 8) (.call 26 [(.t 7)] true (.one (.agg [.sl, .sl, .sl, .sl, .sl]))) <| .op 2 none (.st (some 5) (.t 2) (.t 8)) <| .nil) <|
  .ret)⟩]⟩
noncomputable def rees_class_fn : Fn := ⟨2, [.cell 4 (.agg [.sl, .sl, .sl, .sl, .sl]), .tmp 5, .tmp 6, .tmp 7], [
 ⟨[0, 1], [.code 0],
  .reg (.op 0 (some 4) (.alloc [(.sl ⟨none, 0⟩), (.sl ⟨none, 0⟩), (.sl ⟨none, 0⟩), (.sl ⟨none, 0⟩), (.sl ⟨none, 0⟩)]) <| .op 1 (some 5) (.mov (.c (.sl ⟨none, 0⟩))) <| .op 2 (some 6) (.mov (.c (.bool false))) <| .op 3 (some 7) (.mov (.c (.int .i64 0))) <| .nil) <|
  .reg (.op 0 (some 11) (.mov (.t 0)) <| .op 1 (some 12) (.call 5 [(.t 11)] true (.one (.lf (.int .i64)))) <| .op 2 (some 7) (.mov (.t 12)) <| .nil) <|
  .reg (.op 0 (some 13) (.mov (.t 7)) <| .op 1 (some 14) (.bin .neq .i64 (.t 13) (.c (.int .i64 0))) <| .nil) <|
  .ite (.t 14)
  (.reg (.op 0 (some 15) (.ld (.agg [.sl, .sl, .sl, .sl, .sl]) (.t 4)) <| .op 1 (some 16) (.mov (.t 7)) <| .op 2 none (.st (some 5) (.t 4) (.t 15)) <| .op 3 (some 5) (.mov (.c (.sl ⟨none, 0⟩))) <| .op 4 (some 6) (.mov (.c (.bool false))) <| .op 5 (some 7) (.mov (.t 16)) <| .nil) <|
  .ret)
  (.reg (.op 0 (some 17) (.mov (.t 0)) <| .op 1 (some 18) (.call 27 [(.t 17)] true (.one (.agg [.sl, .sl, .sl, .sl, .sl]))) <| .op 2 none (.st (some 5) (.t 4) (.t 18)) <| .nil) <|
  .reg (.op 0 (some 19) (.mov (.t 1)) <| .op 1 (some 20) (.bin .lss .i64 (.t 19) (.c (.int .i64 0))) <| .op 2 (some 21) (.mov (.t 20)) <| .grp 21 false (.op 3 (some 22) (.mov (.t 1)) <| .op 4 (some 23) (.fadr (.t 4) 4) <| .op 5 (some 24) (.ld (.lf .sl) (.t 23)) <| .op 6 (some 25) (.len (.t 24)) <| .op 7 (some 26) (.bin .geq .i64 (.t 22) (.t 25)) <| .nil) 8 27 (.t 26) <| .nil) <|
  .ite (.t 27)
  (.reg (.op 0 (some 28) (.bld [(.sl ⟨none, 0⟩), (.sl ⟨none, 0⟩), (.sl ⟨none, 0⟩), (.sl ⟨none, 0⟩), (.sl ⟨none, 0⟩)] []) <| .op 1 none (.st (some 5) (.t 4) (.t 28)) <| .op 2 (some 5) (.mov (.c (.sl ⟨none, 0⟩))) <| .op 3 (some 6) (.mov (.c (.bool false))) <| .op 4 (some 7) (.mov (.c (.int .i64 1))) <| .nil) <|
  .ret)
  (.reg (.op 0 (some 29) (.fadr (.t 4) 2) <| .op 1 (some 30) (.ld (.lf .sl) (.t 29)) <| .op 2 (some 31) (.len (.t 30)) <| .op 3 (some 32) (.mov (.c (.int .i64 0))) <| .nil) <|
  .jump 1))⟩,
 ⟨[1, 4, 5, 30, 31, 32], [.code 28, .code 29, .inLoop 26, .inBlock 25, .code 43],
  .reg (.op 0 (some 33) (.bin .lss .i64 (.t 32) (.t 31)) <| .nil) <|
  .ite (.t 33)
  (.reg (.op 0 (some 34) (.mov (.t 32)) <| .op 1 (some 35) (.iadr (.t 30) (.t 32) 1) <| .op 2 (some 36) (.ld (.lf (.int .i64)) (.t 35)) <| .op 3 (some 8) (.mov (.t 34)) <| .op 4 (some 9) (.mov (.t 36)) <| .nil) <|
  .reg (.op 0 (some 37) (.mov (.t 9)) <| .op 1 (some 38) (.mov (.t 1)) <| .op 2 (some 39) (.bin .eql .i64 (.t 37) (.t 38)) <| .nil) <|
  .ite (.t 39)
  (.reg (.op 0 (some 40) (.mov (.t 5)) <| .op 1 (some 41) (.mov (.t 8)) <| .op 2 (some 42) (.bsl 1 [(.int .i64 0)] 1 [(0, 1, (.t 41))]) <| .op 3 (some 43) (.app 1 8 (.t 40) (.t 42)) <| .op 4 (some 5) (.mov (.t 43)) <| .nil) <|
  .jump 2)
  (.jump 2))
  (.reg (.op 0 (some 6) (.mov (.c (.bool true))) <| .nil) <|
  .reg (.op 0 (some 45) (.fadr (.t 4) 4) <| .op 1 (some 46) (.ld (.lf .sl) (.t 45)) <| .op 2 (some 47) (.len (.t 46)) <| .op 3 (some 48) (.mov (.c (.int .i64 0))) <| .nil) <|
  .jump 3)⟩,
 ⟨[1, 4, 5, 30, 31, 32], [.code 42, .inLoop 26, .inBlock 25, .code 43],
  .reg (.op 0 (some 44) (.bin .add .i64 (.t 32) (.c (.int .i64 1))) <| .op 1 (some 32) (.mov (.t 44)) <| .nil) <|
  .jump 1⟩,
 ⟨[1, 4, 5, 6, 47, 48], [.code 51, .code 52, .inLoop 49, .inBlock 48, .code 62],
  .reg (.op 0 (some 49) (.bin .lss .i64 (.t 48) (.t 47)) <| .nil) <|
  .ite (.t 49)
  (.reg (.op 0 (some 50) (.mov (.t 48)) <| .op 1 (some 10) (.mov (.t 50)) <| .nil) <|
  .reg (.op 0 (some 51) (.mov (.t 6)) <| .op 1 (some 52) (.mov (.t 51)) <| .grp 52 true (.op 2 (some 53) (.mov (.t 10)) <| .op 3 (some 54) (.mov (.t 1)) <| .op 4 (some 55) (.bin .eql .i64 (.t 53) (.t 54)) <| .op 5 (some 56) (.mov (.t 55)) <| .grp 56 false (.op 6 (some 57) (.fadr (.t 4) 4) <| .op 7 (some 58) (.ld (.lf .sl) (.t 57)) <| .op 8 (some 59) (.mov (.t 10)) <| .op 9 (some 60) (.iadr (.t 58) (.t 59) 1) <| .op 10 (some 61) (.ld (.lf .sl) (.t 60)) <| .op 11 (some 62) (.mov (.t 1)) <| .op 12 (some 63) (.iadr (.t 61) (.t 62) 1) <| .op 13 (some 64) (.ld (.lf .bool) (.t 63)) <| .op 14 (some 65) (.not (.t 64)) <| .nil) 15 66 (.t 65) <| .nil) 16 67 (.t 66) <| .op 17 (some 6) (.mov (.t 67)) <| .nil) <|
  .reg (.op 0 (some 68) (.bin .add .i64 (.t 48) (.c (.int .i64 1))) <| .op 1 (some 48) (.mov (.t 68)) <| .nil) <|
  .jump 3)
  (.reg (.op 0 (some 69) (.ld (.agg [.sl, .sl, .sl, .sl, .sl]) (.t 4)) <| .op 1 (some 70) (.mov (.t 5)) <| .op 2 (some 71) (.mov (.t 6)) <| .op 3 none (.st (some 5) (.t 4) (.t 69)) <| .op 4 (some 5) (.mov (.t 70)) <| .op 5 (some 6) (.mov (.t 71)) <| .op 6 (some 7) (.mov (.c (.int .i64 0))) <| .nil) <|
  .ret)⟩]⟩
noncomputable def rees_Check_fn : Fn := ⟨4, [.tmp 8], [
 ⟨[0, 1, 2, 3], [.code 0],
  .reg (.op 0 (some 6) (.box 5 (.t 2)) <| .op 1 (some 8) (.mov (.c (.bool false))) <| .nil) <|
  .reg (.op 0 (some 25) (.mov (.t 0)) <| .op 1 (some 26) (.mov (.t 1)) <| .op 2 (some 27) (.call 28 [(.t 25), (.t 26)] true (.tup [(.agg [.sl, .sl, .sl, .sl, .sl]), (.lf .sl), (.lf .bool), (.lf (.int .i64))])) <| .op 3 (some 24) (.mov (.t 27)) <| .op 4 (some 28) (.ext (.t 24) 0) <| .op 5 (some 29) (.ext (.t 24) 1) <| .op 6 (some 30) (.ext (.t 24) 2) <| .op 7 (some 31) (.ext (.t 24) 3) <| .op 8 (some 9) (.alloc [(.sl ⟨none, 0⟩), (.sl ⟨none, 0⟩), (.sl ⟨none, 0⟩), (.sl ⟨none, 0⟩), (.sl ⟨none, 0⟩)]) <| .op 9 none (.st (some 5) (.t 9) (.t 28)) <| .op 10 (some 10) (.mov (.t 29)) <| .op 11 (some 11) (.mov (.t 30)) <| .op 12 (some 12) (.mov (.t 31)) <| .nil) <|
  .reg (.op 0 (some 32) (.mov (.t 12)) <| .op 1 (some 33) (.bin .neq .i64 (.t 32) (.c (.int .i64 0))) <| .op 2 (some 34) (.mov (.t 33)) <| .grp 34 false (.op 3 (some 35) (.ld (.agg [.sl, (.int .i64), (.int .i64), .sl, .bool]) (.t 6)) <| .op 4 (some 36) (.call 11 [(.t 35)] true (.one (.lf (.int .i64)))) <| .op 5 (some 37) (.bin .neq .i64 (.t 36) (.c (.int .i64 0))) <| .nil) 6 38 (.t 37) <| .op 7 (some 39) (.mov (.t 38)) <| .grp 39 false (.op 8 (some 40) (.fadr (.t 6) 4) <| .op 9 (some 41) (.ld (.lf .bool) (.t 40)) <| .op 10 (some 42) (.mov (.t 11)) <| .op 11 (some 43) (.beq false (.t 41) (.t 42)) <| .nil) 12 44 (.t 43) <| .op 13 (some 45) (.mov (.t 44)) <| .grp 45 false (.op 14 (some 46) (.mov (.t 3)) <| .op 15 (some 47) (.len (.t 46)) <| .op 16 (some 48) (.mov (.t 0)) <| .op 17 (some 49) (.len (.t 48)) <| .op 18 (some 50) (.bin .neq .i64 (.t 47) (.t 49)) <| .nil) 19 51 (.t 50) <| .op 20 (some 52) (.mov (.t 51)) <| .grp 52 false (.op 21 (some 53) (.ld (.agg [.sl, (.int .i64), (.int .i64), .sl, .bool]) (.t 6)) <| .op 22 (some 54) (.call 10 [(.t 53)] true (.one (.lf (.int .i64)))) <| .op 23 (some 55) (.mov (.t 10)) <| .op 24 (some 56) (.len (.t 55)) <| .op 25 (some 57) (.ld (.agg [.sl, (.int .i64), (.int .i64), .sl, .bool]) (.t 6)) <| .op 26 (some 58) (.call 9 [(.t 57)] true (.one (.lf (.int .i64)))) <| .op 27 (some 59) (.bin .add .i64 (.t 56) (.t 58)) <| .op 28 (some 60) (.bin .neq .i64 (.t 54) (.t 59)) <| .nil) 29 61 (.t 60) <| .nil) <|
  .ite (.t 61)
  (.reg (.op 0 (some 8) (.mov (.c (.bool false))) <| .nil) <|
  .ret)
  (.reg (.op 0 (some 62) (.mov (.t 0)) <| .op 1 (some 63) (.len (.t 62)) <| .op 2 (some 64) (.mksl [(.bool false)] 1 (.t 63) (.t 63)) <| .op 3 (some 13) (.mov (.t 64)) <| .nil) <|
  .reg (.op 0 (some 65) (.mov (.t 10)) <| .op 1 (some 66) (.len (.t 65)) <| .op 2 (some 67) (.mov (.c (.int .i64 0))) <| .nil) <|
  .jump 1)⟩,
 ⟨[0, 3, 6, 10, 13, 65, 66, 67], [.code 20, .code 21, .inLoop 18, .inBlock 17, .code 31],
  .reg (.op 0 (some 68) (.bin .lss .i64 (.t 67) (.t 66)) <| .nil) <|
  .ite (.t 68)
  (.reg (.op 0 (some 69) (.iadr (.t 65) (.t 67) 1) <| .op 1 (some 70) (.ld (.lf (.int .i64)) (.t 69)) <| .op 2 (some 15) (.mov (.t 70)) <| .nil) <|
  .reg (.op 0 (some 71) (.mov (.t 13)) <| .op 1 (some 72) (.mov (.t 15)) <| .op 2 (some 73) (.iadr (.t 71) (.t 72) 1) <| .op 3 none (.st none (.t 73) (.c (.bool true))) <| .nil) <|
  .reg (.op 0 (some 74) (.bin .add .i64 (.t 67) (.c (.int .i64 1))) <| .op 1 (some 67) (.mov (.t 74)) <| .nil) <|
  .jump 1)
  (.reg (.op 0 (some 75) (.ld (.agg [.sl, (.int .i64), (.int .i64), .sl, .bool]) (.t 6)) <| .op 1 (some 76) (.call 10 [(.t 75)] true (.one (.lf (.int .i64)))) <| .op 2 (some 77) (.mksl [(.bool false)] 1 (.t 76) (.t 76)) <| .op 3 (some 16) (.mov (.t 77)) <| .nil) <|
  .reg (.op 0 (some 78) (.mov (.t 3)) <| .op 1 (some 79) (.len (.t 78)) <| .op 2 (some 80) (.mov (.c (.int .i64 0))) <| .nil) <|
  .jump 2)⟩,
 ⟨[0, 3, 6, 10, 13, 16, 78, 79, 80], [.code 39, .code 40, .inLoop 37, .inBlock 36, .code 72],
  .reg (.op 0 (some 81) (.bin .lss .i64 (.t 80) (.t 79)) <| .nil) <|
  .ite (.t 81)
  (.reg (.op 0 (some 82) (.mov (.t 80)) <| .op 1 (some 83) (.iadr (.t 78) (.t 80) 1) <| .op 2 (some 84) (.ld (.lf (.int .i64)) (.t 83)) <| .op 3 (some 17) (.mov (.t 82)) <| .op 4 (some 18) (.mov (.t 84)) <| .nil) <|
  .reg (.op 0 (some 85) (.mov (.t 13)) <| .op 1 (some 86) (.mov (.t 17)) <| .op 2 (some 87) (.iadr (.t 85) (.t 86) 1) <| .op 3 (some 88) (.ld (.lf .bool) (.t 87)) <| .op 4 (some 89) (.not (.t 88)) <| .nil) <|
  .ite (.t 89)
  (.reg (.op 0 (some 90) (.mov (.t 18)) <| .op 1 (some 91) (.bin .neq .i64 (.t 90) (.c (.int .i64 (-1)))) <| .nil) <|
  .ite (.t 91)
  (.reg (.op 0 (some 8) (.mov (.c (.bool false))) <| .nil) <|
  .ret)
  (.jump 3))
  (.reg (.op 0 (some 92) (.mov (.t 18)) <| .op 1 (some 93) (.ld (.agg [.sl, (.int .i64), (.int .i64), .sl, .bool]) (.t 6)) <| .op 2 (some 94) (.call 9 [(.t 93)] true (.one (.lf (.int .i64)))) <| .op 3 (some 95) (.bin .lss .i64 (.t 92) (.t 94)) <| .op 4 (some 96) (.mov (.t 95)) <| .grp 96 false (.op 5 (some 97) (.mov (.t 18)) <| .op 6 (some 98) (.ld (.agg [.sl, (.int .i64), (.int .i64), .sl, .bool]) (.t 6)) <| .op 7 (some 99) (.call 10 [(.t 98)] true (.one (.lf (.int .i64)))) <| .op 8 (some 100) (.bin .geq .i64 (.t 97) (.t 99)) <| .nil) 9 101 (.t 100) <| .op 10 (some 102) (.mov (.t 101)) <| .grp 102 false (.op 11 (some 103) (.mov (.t 16)) <| .op 12 (some 104) (.mov (.t 18)) <| .op 13 (some 105) (.iadr (.t 103) (.t 104) 1) <| .op 14 (some 106) (.ld (.lf .bool) (.t 105)) <| .nil) 15 107 (.t 106) <| .nil) <|
  .ite (.t 107)
  (.reg (.op 0 (some 8) (.mov (.c (.bool false))) <| .nil) <|
  .ret)
  (.reg (.op 0 (some 108) (.mov (.t 16)) <| .op 1 (some 109) (.mov (.t 18)) <| .op 2 (some 110) (.iadr (.t 108) (.t 109) 1) <| .op 3 none (.st none (.t 110) (.c (.bool true))) <| .nil) <|
  .jump 3)))
  (.reg (.op 0 (some 112) (.mov (.t 10)) <| .op 1 (some 113) (.len (.t 112)) <| .op 2 (some 114) (.mov (.c (.int .i64 0))) <| .nil) <|
  .jump 4)⟩,
 ⟨[0, 3, 6, 10, 13, 16, 78, 79, 80], [.code 71, .inLoop 37, .inBlock 36, .code 72],
  .reg (.op 0 (some 111) (.bin .add .i64 (.t 80) (.c (.int .i64 1))) <| .op 1 (some 80) (.mov (.t 111)) <| .nil) <|
  .jump 2⟩,
 ⟨[0, 3, 6, 10, 13, 112, 113, 114], [.code 78, .code 79, .inLoop 76, .inBlock 75, .code 124],
  .reg (.op 0 (some 115) (.bin .lss .i64 (.t 114) (.t 113)) <| .nil) <|
  .ite (.t 115)
  (.reg (.op 0 (some 116) (.iadr (.t 112) (.t 114) 1) <| .op 1 (some 117) (.ld (.lf (.int .i64)) (.t 116)) <| .op 2 (some 20) (.mov (.t 117)) <| .nil) <|
  .reg (.op 0 (some 118) (.mov (.t 10)) <| .op 1 (some 119) (.len (.t 118)) <| .op 2 (some 120) (.mov (.c (.int .i64 0))) <| .nil) <|
  .jump 5)
  (.reg (.op 0 (some 8) (.mov (.c (.bool true))) <| .nil) <|
  .ret)⟩,
 ⟨[0, 3, 6, 10, 13, 20, 112, 113, 114, 118, 119, 120], [.code 92, .code 93, .inLoop 90, .inBlock 89, .inBlock 84, .code 123, .inLoop 76, .inBlock 75, .code 124],
  .reg (.op 0 (some 121) (.bin .lss .i64 (.t 120) (.t 119)) <| .nil) <|
  .ite (.t 121)
  (.reg (.op 0 (some 122) (.iadr (.t 118) (.t 120) 1) <| .op 1 (some 123) (.ld (.lf (.int .i64)) (.t 122)) <| .op 2 (some 22) (.mov (.t 123)) <| .nil) <|
  .reg (.op 0 (some 23) (.mov (.c (.int .i64 0))) <| .nil) <|
  .reg (.op 0 (some 124) (.mov (.t 13)) <| .op 1 (some 125) (.mov (.t 0)) <| .op 2 (some 126) (.mov (.t 20)) <| .op 3 (some 127) (.iadr (.t 125) (.t 126) 1) <| .op 4 (some 128) (.ld (.lf .sl) (.t 127)) <| .op 5 (some 129) (.mov (.t 22)) <| .op 6 (some 130) (.iadr (.t 128) (.t 129) 1) <| .op 7 (some 131) (.ld (.lf (.int .i64)) (.t 130)) <| .op 8 (some 132) (.iadr (.t 124) (.t 131) 1) <| .op 9 (some 133) (.ld (.lf .bool) (.t 132)) <| .nil) <|
  .ite (.t 133)
  (.reg (.op 0 (some 134) (.mov (.t 3)) <| .op 1 (some 135) (.mov (.t 0)) <| .op 2 (some 136) (.mov (.t 20)) <| .op 3 (some 137) (.iadr (.t 135) (.t 136) 1) <| .op 4 (some 138) (.ld (.lf .sl) (.t 137)) <| .op 5 (some 139) (.mov (.t 22)) <| .op 6 (some 140) (.iadr (.t 138) (.t 139) 1) <| .op 7 (some 141) (.ld (.lf (.int .i64)) (.t 140)) <| .op 8 (some 142) (.iadr (.t 134) (.t 141) 1) <| .op 9 (some 143) (.ld (.lf (.int .i64)) (.t 142)) <| .op 10 (some 23) (.mov (.t 143)) <| .nil) <|
  .jump 6)
  (.reg (.op 0 (some 144) (.fadr (.t 6) 4) <| .op 1 (some 145) (.ld (.lf .bool) (.t 144)) <| .op 2 (some 146) (.not (.t 145)) <| .nil) <|
  .ite (.t 146)
  (.reg (.op 0 (some 8) (.mov (.c (.bool false))) <| .nil) <|
  .ret)
  (.jump 6)))
  (.reg (.op 0 (some 160) (.bin .add .i64 (.t 114) (.c (.int .i64 1))) <| .op 1 (some 114) (.mov (.t 160)) <| .nil) <|
  .jump 4)⟩,
 ⟨[0, 3, 6, 10, 13, 20, 22, 23, 112, 113, 114, 118, 119, 120], [.code 116, .code 117, .inBlock 98, .code 122, .inLoop 90, .inBlock 89, .inBlock 84, .code 123, .inLoop 76, .inBlock 75, .code 124],
  .reg (.op 0 (some 147) (.ld (.agg [.sl, (.int .i64), (.int .i64), .sl, .bool]) (.t 6)) <| .op 1 (some 148) (.mov (.t 3)) <| .op 2 (some 149) (.mov (.t 20)) <| .op 3 (some 150) (.iadr (.t 148) (.t 149) 1) <| .op 4 (some 151) (.ld (.lf (.int .i64)) (.t 150)) <| .op 5 (some 152) (.mov (.t 3)) <| .op 6 (some 153) (.mov (.t 22)) <| .op 7 (some 154) (.iadr (.t 152) (.t 153) 1) <| .op 8 (some 155) (.ld (.lf (.int .i64)) (.t 154)) <| .op 9 (some 156) (.call 13 [(.t 147), (.t 151), (.t 155)] true (.one (.lf (.int .i64)))) <| .op 10 (some 157) (.mov (.t 23)) <| .op 11 (some 158) (.bin .neq .i64 (.t 156) (.t 157)) <| .nil) <|
  .ite (.t 158)
  (.reg (.op 0 (some 8) (.mov (.c (.bool false))) <| .nil) <|
  .ret)
  (.reg (.op 0 (some 159) (.bin .add .i64 (.t 120) (.c (.int .i64 1))) <| .op 1 (some 120) (.mov (.t 159)) <| .nil) <|
  .jump 5)⟩]⟩
noncomputable def semigroupref14_Associative_fn : Fn := ⟨1, [.tmp 2, .tmp 3, .tmp 4, .tmp 5], [
 ⟨[0], [.code 0],
  .reg (.op 0 (some 2) (.mov (.c (.int .i64 0))) <| .op 1 (some 3) (.mov (.c (.int .i64 0))) <| .op 2 (some 4) (.mov (.c (.int .i64 0))) <| .op 3 (some 5) (.mov (.c (.int .i64 0))) <| .nil) <|
  .reg (.op 0 (some 10) (.mov (.t 0)) <| .op 1 (some 11) (.call 0 [(.t 10)] true (.one (.lf (.int .i64)))) <| .op 2 (some 6) (.mov (.t 11)) <| .nil) <|
  .reg (.op 0 (some 12) (.mov (.t 6)) <| .op 1 (some 13) (.bin .neq .i64 (.t 12) (.c (.int .i64 0))) <| .nil) <|
  .ite (.t 13)
  (.reg (.op 0 (some 14) (.mov (.t 6)) <| .op 1 (some 2) (.mov (.c (.int .i64 0))) <| .op 2 (some 3) (.mov (.c (.int .i64 0))) <| .op 3 (some 4) (.mov (.c (.int .i64 0))) <| .op 4 (some 5) (.mov (.t 14)) <| .nil) <|
  .ret)
  (.reg (.op 0 (some 15) (.mov (.t 0)) <| .op 1 (some 16) (.len (.t 15)) <| .op 2 (some 17) (.mov (.c (.int .i64 0))) <| .nil) <|
  .jump 1)⟩,
 ⟨[0, 16, 17], [.code 18, .code 19, .inLoop 16, .inBlock 15, .code 65],
  .reg (.op 0 (some 18) (.bin .lss .i64 (.t 17) (.t 16)) <| .nil) <|
  .ite (.t 18)
  (.reg (.op 0 (some 19) (.mov (.t 17)) <| .op 1 (some 7) (.mov (.t 19)) <| .nil) <|
  .reg (.op 0 (some 20) (.mov (.t 0)) <| .op 1 (some 21) (.len (.t 20)) <| .op 2 (some 22) (.mov (.c (.int .i64 0))) <| .nil) <|
  .jump 2)
  (.reg (.op 0 (some 2) (.mov (.c (.int .i64 0))) <| .op 1 (some 3) (.mov (.c (.int .i64 0))) <| .op 2 (some 4) (.mov (.c (.int .i64 0))) <| .op 3 (some 5) (.mov (.c (.int .i64 0))) <| .nil) <|
  .ret)⟩,
 ⟨[0, 7, 16, 17, 21, 22], [.code 32, .code 33, .inLoop 30, .inBlock 29, .inBlock 24, .code 64, .inLoop 16, .inBlock 15, .code 65],
  .reg (.op 0 (some 23) (.bin .lss .i64 (.t 22) (.t 21)) <| .nil) <|
  .ite (.t 23)
  (.reg (.op 0 (some 24) (.mov (.t 22)) <| .op 1 (some 8) (.mov (.t 24)) <| .nil) <|
  .reg (.op 0 (some 25) (.mov (.t 0)) <| .op 1 (some 26) (.len (.t 25)) <| .op 2 (some 27) (.mov (.c (.int .i64 0))) <| .nil) <|
  .jump 3)
  (.reg (.op 0 (some 62) (.bin .add .i64 (.t 17) (.c (.int .i64 1))) <| .op 1 (some 17) (.mov (.t 62)) <| .nil) <|
  .jump 1)⟩,
 ⟨[0, 7, 8, 16, 17, 21, 22, 26, 27], [.code 46, .code 47, .inLoop 44, .inBlock 43, .inBlock 38, .code 63, .inLoop 30, .inBlock 29, .inBlock 24, .code 64, .inLoop 16, .inBlock 15, .code 65],
  .reg (.op 0 (some 28) (.bin .lss .i64 (.t 27) (.t 26)) <| .nil) <|
  .ite (.t 28)
  (.reg (.op 0 (some 29) (.mov (.t 27)) <| .op 1 (some 9) (.mov (.t 29)) <| .nil) <|
  .reg (.op 0 (some 30) (.mov (.t 0)) <| .op 1 (some 31) (.mov (.t 0)) <| .op 2 (some 32) (.mov (.t 7)) <| .op 3 (some 33) (.iadr (.t 31) (.t 32) 1) <| .op 4 (some 34) (.ld (.lf .sl) (.t 33)) <| .op 5 (some 35) (.mov (.t 8)) <| .op 6 (some 36) (.iadr (.t 34) (.t 35) 1) <| .op 7 (some 37) (.ld (.lf (.int .i64)) (.t 36)) <| .op 8 (some 38) (.iadr (.t 30) (.t 37) 1) <| .op 9 (some 39) (.ld (.lf .sl) (.t 38)) <| .op 10 (some 40) (.mov (.t 9)) <| .op 11 (some 41) (.iadr (.t 39) (.t 40) 1) <| .op 12 (some 42) (.ld (.lf (.int .i64)) (.t 41)) <| .op 13 (some 43) (.mov (.t 0)) <| .op 14 (some 44) (.mov (.t 7)) <| .op 15 (some 45) (.iadr (.t 43) (.t 44) 1) <| .op 16 (some 46) (.ld (.lf .sl) (.t 45)) <| .op 17 (some 47) (.mov (.t 0)) <| .op 18 (some 48) (.mov (.t 8)) <| .op 19 (some 49) (.iadr (.t 47) (.t 48) 1) <| .op 20 (some 50) (.ld (.lf .sl) (.t 49)) <| .op 21 (some 51) (.mov (.t 9)) <| .op 22 (some 52) (.iadr (.t 50) (.t 51) 1) <| .op 23 (some 53) (.ld (.lf (.int .i64)) (.t 52)) <| .op 24 (some 54) (.iadr (.t 46) (.t 53) 1) <| .op 25 (some 55) (.ld (.lf (.int .i64)) (.t 54)) <| .op 26 (some 56) (.bin .neq .i64 (.t 42) (.t 55)) <| .nil) <|
  .ite (.t 56)
  (.reg (.op 0 (some 57) (.mov (.t 7)) <| .op 1 (some 58) (.mov (.t 8)) <| .op 2 (some 59) (.mov (.t 9)) <| .op 3 (some 2) (.mov (.t 57)) <| .op 4 (some 3) (.mov (.t 58)) <| .op 5 (some 4) (.mov (.t 59)) <| .op 6 (some 5) (.mov (.c (.int .i64 5))) <| .nil) <|
  .ret)
  (.reg (.op 0 (some 60) (.bin .add .i64 (.t 27) (.c (.int .i64 1))) <| .op 1 (some 27) (.mov (.t 60)) <| .nil) <|
  .jump 3))
  (.reg (.op 0 (some 61) (.bin .add .i64 (.t 22) (.c (.int .i64 1))) <| .op 1 (some 22) (.mov (.t 61)) <| .nil) <|
  .jump 2)⟩]⟩
noncomputable def semigroupref14_Validate_fn : Fn := ⟨1, [.tmp 2], [
 ⟨[0], [.code 0],
  .reg (.op 0 (some 2) (.mov (.c (.int .i64 0))) <| .nil) <|
  .reg (.op 0 (some 8) (.mov (.t 0)) <| .op 1 (some 9) (.call 30 [(.t 8)] true (.tup [(.lf (.int .i64)), (.lf (.int .i64)), (.lf (.int .i64)), (.lf (.int .i64))])) <| .op 2 (some 7) (.mov (.t 9)) <| .op 3 (some 10) (.ext (.t 7) 0) <| .op 4 (some 11) (.ext (.t 7) 1) <| .op 5 (some 12) (.ext (.t 7) 2) <| .op 6 (some 13) (.ext (.t 7) 3) <| .op 7 (some 3) (.mov (.t 10)) <| .op 8 (some 4) (.mov (.t 11)) <| .op 9 (some 5) (.mov (.t 12)) <| .op 10 (some 6) (.mov (.t 13)) <| .nil) <|
  .reg (.op 0 (some 14) (.mov (.t 6)) <| .op 1 (some 2) (.mov (.t 14)) <| .nil) <|
  .ret⟩]⟩
noncomputable def semigroupref15_Right_fn : Fn := ⟨2, [.tmp 4], [
 ⟨[0, 1], [.code 0],
  .reg (.op 0 (some 4) (.mov (.c (.sl ⟨none, 0⟩))) <| .nil) <|
  .reg (.op 0 (some 8) (.mov (.t 0)) <| .op 1 (some 9) (.len (.t 8)) <| .op 2 (some 10) (.mksl [(.bool false)] 1 (.t 9) (.t 9)) <| .op 3 (some 5) (.mov (.t 10)) <| .nil) <|
  .reg (.op 0 (some 11) (.mov (.t 5)) <| .op 1 (some 12) (.mov (.t 1)) <| .op 2 (some 13) (.iadr (.t 11) (.t 12) 1) <| .op 3 none (.st none (.t 13) (.c (.bool true))) <| .nil) <|
  .reg (.op 0 (some 14) (.mov (.t 0)) <| .op 1 (some 15) (.mov (.t 1)) <| .op 2 (some 16) (.iadr (.t 14) (.t 15) 1) <| .op 3 (some 17) (.ld (.lf .sl) (.t 16)) <| .op 4 (some 18) (.len (.t 17)) <| .op 5 (some 19) (.mov (.c (.int .i64 0))) <| .nil) <|
  .jump 1⟩,
 ⟨[5, 17, 18, 19], [.code 12, .code 13, .inLoop 10, .inBlock 9, .code 23],
  .reg (.op 0 (some 20) (.bin .lss .i64 (.t 19) (.t 18)) <| .nil) <|
  .ite (.t 20)
  (.reg (.op 0 (some 21) (.iadr (.t 17) (.t 19) 1) <| .op 1 (some 22) (.ld (.lf (.int .i64)) (.t 21)) <| .op 2 (some 7) (.mov (.t 22)) <| .nil) <|
  .reg (.op 0 (some 23) (.mov (.t 5)) <| .op 1 (some 24) (.mov (.t 7)) <| .op 2 (some 25) (.iadr (.t 23) (.t 24) 1) <| .op 3 none (.st none (.t 25) (.c (.bool true))) <| .nil) <|
  .reg (.op 0 (some 26) (.bin .add .i64 (.t 19) (.c (.int .i64 1))) <| .op 1 (some 19) (.mov (.t 26)) <| .nil) <|
  .jump 1)
  (.reg (.op 0 (some 27) (.mov (.t 5)) <| .op 1 (some 4) (.mov (.t 27)) <| .nil) <|
  .ret)⟩]⟩
noncomputable def semigroupref15_Left_fn : Fn := ⟨2, [.tmp 4], [
 ⟨[0, 1], [.code 0],
  .reg (.op 0 (some 4) (.mov (.c (.sl ⟨none, 0⟩))) <| .nil) <|
  .reg (.op 0 (some 7) (.mov (.t 0)) <| .op 1 (some 8) (.len (.t 7)) <| .op 2 (some 9) (.mksl [(.bool false)] 1 (.t 8) (.t 8)) <| .op 3 (some 5) (.mov (.t 9)) <| .nil) <|
  .reg (.op 0 (some 10) (.mov (.t 5)) <| .op 1 (some 11) (.mov (.t 1)) <| .op 2 (some 12) (.iadr (.t 10) (.t 11) 1) <| .op 3 none (.st none (.t 12) (.c (.bool true))) <| .nil) <|
  .reg (.op 0 (some 13) (.mov (.t 0)) <| .op 1 (some 14) (.len (.t 13)) <| .op 2 (some 15) (.mov (.c (.int .i64 0))) <| .nil) <|
  .jump 1⟩,
 ⟨[0, 1, 5, 14, 15], [.code 12, .code 13, .inLoop 10, .inBlock 9, .code 23],
  .reg (.op 0 (some 16) (.bin .lss .i64 (.t 15) (.t 14)) <| .nil) <|
  .ite (.t 16)
  (.reg (.op 0 (some 17) (.mov (.t 15)) <| .op 1 (some 6) (.mov (.t 17)) <| .nil) <|
  .reg (.op 0 (some 18) (.mov (.t 5)) <| .op 1 (some 19) (.mov (.t 0)) <| .op 2 (some 20) (.mov (.t 6)) <| .op 3 (some 21) (.iadr (.t 19) (.t 20) 1) <| .op 4 (some 22) (.ld (.lf .sl) (.t 21)) <| .op 5 (some 23) (.mov (.t 1)) <| .op 6 (some 24) (.iadr (.t 22) (.t 23) 1) <| .op 7 (some 25) (.ld (.lf (.int .i64)) (.t 24)) <| .op 8 (some 26) (.iadr (.t 18) (.t 25) 1) <| .op 9 none (.st none (.t 26) (.c (.bool true))) <| .nil) <|
  .reg (.op 0 (some 27) (.bin .add .i64 (.t 15) (.c (.int .i64 1))) <| .op 1 (some 15) (.mov (.t 27)) <| .nil) <|
  .jump 1)
  (.reg (.op 0 (some 28) (.mov (.t 5)) <| .op 1 (some 4) (.mov (.t 28)) <| .nil) <|
  .ret)⟩]⟩
noncomputable def semigroupref15_Both_fn : Fn := ⟨2, [.tmp 4], [
 ⟨[0, 1], [.code 0],
  .reg (.op 0 (some 4) (.mov (.c (.sl ⟨none, 0⟩))) <| .nil) <|
  .reg (.op 0 (some 10) (.mov (.t 0)) <| .op 1 (some 11) (.len (.t 10)) <| .op 2 (some 12) (.mksl [(.bool false)] 1 (.t 11) (.t 11)) <| .op 3 (some 5) (.mov (.t 12)) <| .nil) <|
  .reg (.op 0 (some 13) (.mov (.t 0)) <| .op 1 (some 14) (.mov (.t 1)) <| .op 2 (some 15) (.call 33 [(.t 13), (.t 14)] true (.one (.lf .sl))) <| .op 3 (some 16) (.len (.t 15)) <| .op 4 (some 17) (.mov (.c (.int .i64 0))) <| .nil) <|
  .jump 1⟩,
 ⟨[0, 5, 15, 16, 17], [.code 10, .code 11, .inLoop 8, .inBlock 7, .code 44],
  .reg (.op 0 (some 18) (.bin .lss .i64 (.t 17) (.t 16)) <| .nil) <|
  .ite (.t 18)
  (.reg (.op 0 (some 19) (.mov (.t 17)) <| .op 1 (some 20) (.iadr (.t 15) (.t 17) 1) <| .op 2 (some 21) (.ld (.lf .bool) (.t 20)) <| .op 3 (some 6) (.mov (.t 19)) <| .op 4 (some 7) (.mov (.t 21)) <| .nil) <|
  .reg (.op 0 (some 22) (.mov (.t 7)) <| .op 1 (some 23) (.not (.t 22)) <| .nil) <|
  .ite (.t 23)
  (.jump 3)
  (.reg (.op 0 (some 24) (.mov (.t 5)) <| .op 1 (some 25) (.mov (.t 6)) <| .op 2 (some 26) (.iadr (.t 24) (.t 25) 1) <| .op 3 none (.st none (.t 26) (.c (.bool true))) <| .nil) <|
  .reg (.op 0 (some 27) (.mov (.t 0)) <| .op 1 (some 28) (.mov (.t 6)) <| .op 2 (some 29) (.iadr (.t 27) (.t 28) 1) <| .op 3 (some 30) (.ld (.lf .sl) (.t 29)) <| .op 4 (some 31) (.len (.t 30)) <| .op 5 (some 32) (.mov (.c (.int .i64 0))) <| .nil) <|
  .jump 2))
  (.reg (.op 0 (some 41) (.mov (.t 5)) <| .op 1 (some 4) (.mov (.t 41)) <| .nil) <|
  .ret)⟩,
 ⟨[0, 5, 15, 16, 17, 30, 31, 32], [.code 32, .code 33, .inLoop 30, .inBlock 29, .inBlock 16, .code 43, .inLoop 8, .inBlock 7, .code 44],
  .reg (.op 0 (some 33) (.bin .lss .i64 (.t 32) (.t 31)) <| .nil) <|
  .ite (.t 33)
  (.reg (.op 0 (some 34) (.iadr (.t 30) (.t 32) 1) <| .op 1 (some 35) (.ld (.lf (.int .i64)) (.t 34)) <| .op 2 (some 9) (.mov (.t 35)) <| .nil) <|
  .reg (.op 0 (some 36) (.mov (.t 5)) <| .op 1 (some 37) (.mov (.t 9)) <| .op 2 (some 38) (.iadr (.t 36) (.t 37) 1) <| .op 3 none (.st none (.t 38) (.c (.bool true))) <| .nil) <|
  .reg (.op 0 (some 39) (.bin .add .i64 (.t 32) (.c (.int .i64 1))) <| .op 1 (some 32) (.mov (.t 39)) <| .nil) <|
  .jump 2)
  (.jump 3)⟩,
 ⟨[0, 5, 15, 16, 17], [.code 43, .inLoop 8, .inBlock 7, .code 44],
  .reg (.op 0 (some 40) (.bin .add .i64 (.t 17) (.c (.int .i64 1))) <| .op 1 (some 17) (.mov (.t 40)) <| .nil) <|
  .jump 1⟩]⟩
noncomputable def semigroupref15_ideals_fn : Fn := ⟨2, [.tmp 4], [
 ⟨[0, 1], [.code 0],
  .reg (.op 0 (some 4) (.mov (.c (.sl ⟨none, 0⟩))) <| .nil) <|
  .reg (.op 0 (some 5) (.mov (.c (.sl ⟨none, 0⟩))) <| .nil) <|
  .reg (.op 0 (some 7) (.mov (.t 0)) <| .op 1 (some 8) (.len (.t 7)) <| .op 2 (some 9) (.mov (.c (.int .i64 0))) <| .nil) <|
  .jump 1⟩,
 ⟨[0, 1, 5, 8, 9], [.code 10, .code 11, .inLoop 8, .inBlock 7, .code 32],
  .reg (.op 0 (some 10) (.bin .lss .i64 (.t 9) (.t 8)) <| .nil) <|
  .ite (.t 10)
  (.reg (.op 0 (some 11) (.mov (.t 9)) <| .op 1 (some 6) (.mov (.t 11)) <| .nil) <|
  .reg (.op 0 (some 12) (.mov (.t 1)) <| .nil) <|
  .reg (.op 0 (some 20) (.bin .eql .u8 (.t 12) (.c (.int .u8 82))) <| .op 1 (some 19) (.mov (.t 20)) <| .nil) <|
  .ite (.t 19)
  (.reg (.op 0 (some 21) (.mov (.t 5)) <| .op 1 (some 22) (.mov (.t 0)) <| .op 2 (some 23) (.mov (.t 6)) <| .op 3 (some 24) (.call 32 [(.t 22), (.t 23)] true (.one (.lf .sl))) <| .op 4 (some 25) (.bsl 1 [(.sl ⟨none, 0⟩)] 1 [(0, 1, (.t 24))]) <| .op 5 (some 26) (.app 1 24 (.t 21) (.t 25)) <| .op 6 (some 5) (.mov (.t 26)) <| .nil) <|
  .jump 2)
  (.reg (.op 0 (some 28) (.bin .eql .u8 (.t 12) (.c (.int .u8 76))) <| .op 1 (some 27) (.mov (.t 28)) <| .nil) <|
  .ite (.t 27)
  (.reg (.op 0 (some 29) (.mov (.t 5)) <| .op 1 (some 30) (.mov (.t 0)) <| .op 2 (some 31) (.mov (.t 6)) <| .op 3 (some 32) (.call 33 [(.t 30), (.t 31)] true (.one (.lf .sl))) <| .op 4 (some 33) (.bsl 1 [(.sl ⟨none, 0⟩)] 1 [(0, 1, (.t 32))]) <| .op 5 (some 34) (.app 1 24 (.t 29) (.t 33)) <| .op 6 (some 5) (.mov (.t 34)) <| .nil) <|
  .jump 2)
  (.reg (.op 0 (some 13) (.mov (.t 5)) <| .op 1 (some 14) (.mov (.t 0)) <| .op 2 (some 15) (.mov (.t 6)) <| .op 3 (some 16) (.call 34 [(.t 14), (.t 15)] true (.one (.lf .sl))) <| .op 4 (some 17) (.bsl 1 [(.sl ⟨none, 0⟩)] 1 [(0, 1, (.t 16))]) <| .op 5 (some 18) (.app 1 24 (.t 13) (.t 17)) <| .op 6 (some 5) (.mov (.t 18)) <| .nil) <|
  .jump 2)))
  (.reg (.op 0 (some 36) (.mov (.t 5)) <| .op 1 (some 4) (.mov (.t 36)) <| .nil) <|
  .ret)⟩,
 ⟨[0, 1, 5, 8, 9], [.code 31, .inLoop 8, .inBlock 7, .code 32],
  .reg (.op 0 (some 35) (.bin .add .i64 (.t 9) (.c (.int .i64 1))) <| .op 1 (some 9) (.mov (.t 35)) <| .nil) <|
  .jump 1⟩]⟩
noncomputable def semigroupref03_Canonical_fn : Fn := ⟨1, [.tmp 2], [
 ⟨[0], [.code 0],
  .reg (.op 0 (some 2) (.mov (.c (.sl ⟨none, 0⟩))) <| .nil) <|
  .reg (.op 0 (some 10) (.mov (.t 0)) <| .op 1 (some 11) (.len (.t 10)) <| .op 2 (some 12) (.bin .gtr .i64 (.t 11) (.c (.int .i64 4096))) <| .nil) <|
  .ite (.t 12)
  (.reg (.op 0 (some 2) (.mov (.c (.sl ⟨none, 0⟩))) <| .nil) <|
  .ret)
  (.reg (.op 0 (some 13) (.mov (.t 0)) <| .op 1 (some 14) (.len (.t 13)) <| .op 2 (some 15) (.mksl [(.int .i64 0)] 8 (.t 14) (.t 14)) <| .op 3 (some 3) (.mov (.t 15)) <| .nil) <|
  .reg (.op 0 (some 4) (.mov (.c (.int .i64 0))) <| .nil) <|
  .reg (.op 0 (some 16) (.mkm none) <| .op 1 (some 5) (.mov (.t 16)) <| .nil) <|
  .reg (.op 0 (some 17) (.mov (.t 0)) <| .op 1 (some 18) (.len (.t 17)) <| .op 2 (some 19) (.mov (.c (.int .i64 0))) <| .nil) <|
  .jump 1)⟩,
 ⟨[3, 4, 5, 17, 18, 19], [.code 22, .code 23, .inLoop 20, .inBlock 19, .code 45],
  .reg (.op 0 (some 20) (.bin .lss .i64 (.t 19) (.t 18)) <| .nil) <|
  .ite (.t 20)
  (.reg (.op 0 (some 21) (.mov (.t 19)) <| .op 1 (some 22) (.iadr (.t 17) (.t 19) 1) <| .op 2 (some 23) (.ld (.lf (.int .i64)) (.t 22)) <| .op 3 (some 6) (.mov (.t 21)) <| .op 4 (some 7) (.mov (.t 23)) <| .nil) <|
  .reg (.op 0 (some 25) (.mov (.t 5)) <| .op 1 (some 26) (.mov (.t 7)) <| .op 2 (some 27) (.look false (.int .i64) (.int .i64 0) (.t 25) (.t 26) true) <| .op 3 (some 24) (.mov (.t 27)) <| .op 4 (some 28) (.ext (.t 24) 0) <| .op 5 (some 29) (.ext (.t 24) 1) <| .op 6 (some 8) (.mov (.t 28)) <| .op 7 (some 9) (.mov (.t 29)) <| .nil) <|
  .reg (.op 0 (some 30) (.mov (.t 9)) <| .op 1 (some 31) (.not (.t 30)) <| .nil) <|
  .ite (.t 31)
  (.reg (.op 0 (some 32) (.mov (.t 4)) <| .op 1 (some 8) (.mov (.t 32)) <| .nil) <|
  .reg (.op 0 (some 33) (.mov (.t 5)) <| .op 1 (some 34) (.mov (.t 7)) <| .op 2 (some 35) (.mov (.t 8)) <| .op 3 none (.mupd false (.t 33) (.t 34) (.t 35)) <| .nil) <|
  .reg (.op 0 (some 36) (.mov (.t 4)) <| .op 1 (some 37) (.bin .add .i64 (.t 36) (.c (.int .i64 1))) <| .op 2 (some 4) (.mov (.t 37)) <| .nil) <|
  .jump 2)
  (.jump 2))
  (.reg (.op 0 (some 43) (.mov (.t 3)) <| .op 1 (some 2) (.mov (.t 43)) <| .nil) <|
  .ret)⟩,
 ⟨[3, 4, 5, 6, 8, 17, 18, 19], [.code 43, .inBlock 28, .code 44, .inLoop 20, .inBlock 19, .code 45],
  .reg (.op 0 (some 38) (.mov (.t 3)) <| .op 1 (some 39) (.mov (.t 6)) <| .op 2 (some 40) (.mov (.t 8)) <| .op 3 (some 41) (.iadr (.t 38) (.t 39) 1) <| .op 4 none (.st none (.t 41) (.t 40)) <| .nil) <|
  .reg (.op 0 (some 42) (.bin .add .i64 (.t 19) (.c (.int .i64 1))) <| .op 1 (some 19) (.mov (.t 42)) <| .nil) <|
  .jump 1⟩]⟩
noncomputable def semigroupref15_mutual_fn : Fn := ⟨1, [.tmp 2], [
 ⟨[0], [.code 0],
  .reg (.op 0 (some 2) (.mov (.c (.sl ⟨none, 0⟩))) <| .nil) <|
  .reg (.op 0 (some 6) (.mov (.t 0)) <| .op 1 (some 7) (.len (.t 6)) <| .op 2 (some 8) (.mksl [(.int .i64 0)] 8 (.t 7) (.t 7)) <| .op 3 (some 3) (.mov (.t 8)) <| .nil) <|
  .reg (.op 0 (some 9) (.mov (.t 3)) <| .op 1 (some 10) (.len (.t 9)) <| .op 2 (some 11) (.mov (.c (.int .i64 0))) <| .nil) <|
  .jump 1⟩,
 ⟨[0, 3, 10, 11], [.code 10, .code 11, .inLoop 8, .inBlock 7, .code 42],
  .reg (.op 0 (some 12) (.bin .lss .i64 (.t 11) (.t 10)) <| .nil) <|
  .ite (.t 12)
  (.reg (.op 0 (some 13) (.mov (.t 11)) <| .op 1 (some 4) (.mov (.t 13)) <| .nil) <|
  .reg (.op 0 (some 14) (.mov (.t 3)) <| .op 1 (some 15) (.mov (.t 4)) <| .op 2 (some 16) (.mov (.t 4)) <| .op 3 (some 17) (.iadr (.t 14) (.t 15) 1) <| .op 4 none (.st none (.t 17) (.t 16)) <| .nil) <|
  .reg (.op 0 (some 5) (.mov (.c (.int .i64 0))) <| .nil) <|
  .jump 2)
  (.reg (.op 0 (some 47) (.mov (.t 3)) <| .op 1 (some 48) (.call 36 [(.t 47)] true (.one (.lf .sl))) <| .op 2 (some 2) (.mov (.t 48)) <| .nil) <|
  .ret)⟩,
 ⟨[0, 3, 4, 5, 10, 11], [.code 27, .code 28, .code 31, .inLoop 24, .inBlock 23, .inBlock 16, .code 41, .inLoop 8, .inBlock 7, .code 42],
  .reg (.op 0 (some 18) (.mov (.t 5)) <| .op 1 (some 19) (.mov (.t 4)) <| .op 2 (some 20) (.bin .lss .i64 (.t 18) (.t 19)) <| .nil) <|
  .ite (.t 20)
  (.reg (.op 0 (some 23) (.mov (.t 0)) <| .op 1 (some 24) (.mov (.t 4)) <| .op 2 (some 25) (.iadr (.t 23) (.t 24) 1) <| .op 3 (some 26) (.ld (.lf .sl) (.t 25)) <| .op 4 (some 27) (.mov (.t 5)) <| .op 5 (some 28) (.iadr (.t 26) (.t 27) 1) <| .op 6 (some 29) (.ld (.lf .bool) (.t 28)) <| .op 7 (some 30) (.mov (.t 29)) <| .grp 30 true (.op 8 (some 31) (.mov (.t 0)) <| .op 9 (some 32) (.mov (.t 5)) <| .op 10 (some 33) (.iadr (.t 31) (.t 32) 1) <| .op 11 (some 34) (.ld (.lf .sl) (.t 33)) <| .op 12 (some 35) (.mov (.t 4)) <| .op 13 (some 36) (.iadr (.t 34) (.t 35) 1) <| .op 14 (some 37) (.ld (.lf .bool) (.t 36)) <| .nil) 15 38 (.t 37) <| .nil) <|
  .ite (.t 38)
  (.reg (.op 0 (some 39) (.mov (.t 3)) <| .op 1 (some 40) (.mov (.t 4)) <| .op 2 (some 41) (.mov (.t 3)) <| .op 3 (some 42) (.mov (.t 5)) <| .op 4 (some 43) (.iadr (.t 41) (.t 42) 1) <| .op 5 (some 44) (.ld (.lf (.int .i64)) (.t 43)) <| .op 6 (some 45) (.iadr (.t 39) (.t 40) 1) <| .op 7 none (.st none (.t 45) (.t 44)) <| .nil) <|
  .jump 3)
  (.reg (.op 0 (some 21) (.mov (.t 5)) <| .op 1 (some 22) (.bin .add .i64 (.t 21) (.c (.int .i64 1))) <| .op 2 (some 5) (.mov (.t 22)) <| .nil) <|
  .jump 2))
  (.jump 3)⟩,
 ⟨[0, 3, 10, 11], [.code 41, .inLoop 8, .inBlock 7, .code 42],
  .reg (.op 0 (some 46) (.bin .add .i64 (.t 11) (.c (.int .i64 1))) <| .op 1 (some 11) (.mov (.t 46)) <| .nil) <|
  .jump 1⟩]⟩
noncomputable def semigroupref03_Meet_fn : Fn := ⟨2, [.tmp 4], [
 ⟨[0, 1], [.code 0],
  .reg (.op 0 (some 4) (.mov (.c (.sl ⟨none, 0⟩))) <| .nil) <|
  .reg (.op 0 (some 7) (.mov (.t 0)) <| .op 1 (some 8) (.len (.t 7)) <| .op 2 (some 9) (.mksl [(.int .i64 0)] 8 (.t 8) (.t 8)) <| .op 3 (some 5) (.mov (.t 9)) <| .nil) <|
  .reg (.op 0 (some 10) (.mov (.t 0)) <| .op 1 (some 11) (.len (.t 10)) <| .op 2 (some 12) (.mov (.c (.int .i64 0))) <| .nil) <|
  .jump 1⟩,
 ⟨[0, 1, 5, 11, 12], [.code 10, .code 11, .inLoop 8, .inBlock 7, .code 21],
  .reg (.op 0 (some 13) (.bin .lss .i64 (.t 12) (.t 11)) <| .nil) <|
  .ite (.t 13)
  (.reg (.op 0 (some 14) (.mov (.t 12)) <| .op 1 (some 6) (.mov (.t 14)) <| .nil) <|
  .reg (.op 0 (some 15) (.mov (.t 5)) <| .op 1 (some 16) (.mov (.t 6)) <| .op 2 (some 17) (.mov (.t 0)) <| .op 3 (some 18) (.mov (.t 6)) <| .op 4 (some 19) (.iadr (.t 17) (.t 18) 1) <| .op 5 (some 20) (.ld (.lf (.int .i64)) (.t 19)) <| .op 6 (some 21) (.bin .mul .i64 (.t 20) (.c (.int .i64 4096))) <| .op 7 (some 22) (.mov (.t 1)) <| .op 8 (some 23) (.mov (.t 6)) <| .op 9 (some 24) (.iadr (.t 22) (.t 23) 1) <| .op 10 (some 25) (.ld (.lf (.int .i64)) (.t 24)) <| .op 11 (some 26) (.bin .add .i64 (.t 21) (.t 25)) <| .op 12 (some 27) (.iadr (.t 15) (.t 16) 1) <| .op 13 none (.st none (.t 27) (.t 26)) <| .nil) <|
  .reg (.op 0 (some 28) (.bin .add .i64 (.t 12) (.c (.int .i64 1))) <| .op 1 (some 12) (.mov (.t 28)) <| .nil) <|
  .jump 1)
  (.reg (.op 0 (some 29) (.mov (.t 5)) <| .op 1 (some 30) (.call 36 [(.t 29)] true (.one (.lf .sl))) <| .op 2 (some 4) (.mov (.t 30)) <| .nil) <|
  .ret)⟩]⟩
noncomputable def semigroupref03_Count_fn : Fn := ⟨1, [.tmp 2], [
 ⟨[0], [.code 0],
  .reg (.op 0 (some 2) (.mov (.c (.int .i64 0))) <| .nil) <|
  .reg (.op 0 (some 3) (.mov (.c (.int .i64 0))) <| .nil) <|
  .reg (.op 0 (some 6) (.mov (.t 0)) <| .op 1 (some 7) (.len (.t 6)) <| .op 2 (some 8) (.mov (.c (.int .i64 0))) <| .nil) <|
  .jump 1⟩,
 ⟨[3, 6, 7, 8], [.code 10, .code 11, .inLoop 8, .inBlock 7, .code 21],
  .reg (.op 0 (some 9) (.bin .lss .i64 (.t 8) (.t 7)) <| .nil) <|
  .ite (.t 9)
  (.reg (.op 0 (some 10) (.iadr (.t 6) (.t 8) 1) <| .op 1 (some 11) (.ld (.lf (.int .i64)) (.t 10)) <| .op 2 (some 5) (.mov (.t 11)) <| .nil) <|
  .reg (.op 0 (some 12) (.mov (.t 3)) <| .op 1 (some 13) (.mov (.t 5)) <| .op 2 (some 14) (.bin .add .i64 (.t 13) (.c (.int .i64 1))) <| .op 3 (some 15) (.pf (.mx .i64) [(.t 12), (.t 14)]) <| .op 4 (some 3) (.mov (.t 15)) <| .nil) <|
  .reg (.op 0 (some 16) (.bin .add .i64 (.t 8) (.c (.int .i64 1))) <| .op 1 (some 8) (.mov (.t 16)) <| .nil) <|
  .jump 1)
  (.reg (.op 0 (some 17) (.mov (.t 3)) <| .op 1 (some 2) (.mov (.t 17)) <| .nil) <|
  .ret)⟩]⟩
noncomputable def semigroupref03_Classes_fn : Fn := ⟨1, [.tmp 2], [
 ⟨[0], [.code 0],
  .reg (.op 0 (some 2) (.mov (.c (.sl ⟨none, 0⟩))) <| .nil) <|
  .reg (.op 0 (some 6) (.mov (.t 0)) <| .op 1 (some 7) (.call 39 [(.t 6)] true (.one (.lf (.int .i64)))) <| .op 2 (some 8) (.mksl [(.sl ⟨none, 0⟩)] 24 (.t 7) (.t 7)) <| .op 3 (some 3) (.mov (.t 8)) <| .nil) <|
  .reg (.op 0 (some 9) (.mov (.t 0)) <| .op 1 (some 10) (.len (.t 9)) <| .op 2 (some 11) (.mov (.c (.int .i64 0))) <| .nil) <|
  .jump 1⟩,
 ⟨[3, 9, 10, 11], [.code 10, .code 11, .inLoop 8, .inBlock 7, .code 21],
  .reg (.op 0 (some 12) (.bin .lss .i64 (.t 11) (.t 10)) <| .nil) <|
  .ite (.t 12)
  (.reg (.op 0 (some 13) (.mov (.t 11)) <| .op 1 (some 14) (.iadr (.t 9) (.t 11) 1) <| .op 2 (some 15) (.ld (.lf (.int .i64)) (.t 14)) <| .op 3 (some 4) (.mov (.t 13)) <| .op 4 (some 5) (.mov (.t 15)) <| .nil) <|
  .reg (.op 0 (some 16) (.mov (.t 3)) <| .op 1 (some 17) (.mov (.t 5)) <| .op 2 (some 18) (.mov (.t 3)) <| .op 3 (some 19) (.mov (.t 5)) <| .op 4 (some 20) (.iadr (.t 18) (.t 19) 1) <| .op 5 (some 21) (.ld (.lf .sl) (.t 20)) <| .op 6 (some 22) (.mov (.t 4)) <| .op 7 (some 23) (.bsl 1 [(.int .i64 0)] 1 [(0, 1, (.t 22))]) <| .op 8 (some 24) (.app 1 8 (.t 21) (.t 23)) <| .op 9 (some 25) (.iadr (.t 16) (.t 17) 1) <| .op 10 none (.st none (.t 25) (.t 24)) <| .nil) <|
  .reg (.op 0 (some 26) (.bin .add .i64 (.t 11) (.c (.int .i64 1))) <| .op 1 (some 11) (.mov (.t 26)) <| .nil) <|
  .jump 1)
  (.reg (.op 0 (some 27) (.mov (.t 3)) <| .op 1 (some 2) (.mov (.t 27)) <| .nil) <|
  .ret)⟩]⟩
noncomputable def semigroupref15_Classes_fn : Fn := ⟨1, [.cell 2 (.agg [.sl, .sl, .sl, .sl, .sl])], [
 ⟨[0], [.code 0],
  .reg (.op 0 (some 2) (.alloc [(.sl ⟨none, 0⟩), (.sl ⟨none, 0⟩), (.sl ⟨none, 0⟩), (.sl ⟨none, 0⟩), (.sl ⟨none, 0⟩)]) <| .nil) <|
  .reg (.op 0 (some 11) (.mov (.t 0)) <| .op 1 (some 12) (.call 35 [(.t 11), (.c (.int .u8 82))] true (.one (.lf .sl))) <| .op 2 (some 13) (.call 37 [(.t 12)] true (.one (.lf .sl))) <| .op 3 (some 14) (.mov (.t 0)) <| .op 4 (some 15) (.call 35 [(.t 14), (.c (.int .u8 76))] true (.one (.lf .sl))) <| .op 5 (some 16) (.call 37 [(.t 15)] true (.one (.lf .sl))) <| .op 6 (some 17) (.bld [(.sl ⟨none, 0⟩), (.sl ⟨none, 0⟩), (.sl ⟨none, 0⟩), (.sl ⟨none, 0⟩), (.sl ⟨none, 0⟩)] [(0, 1, (.t 13)), (1, 1, (.t 16))]) <| .op 7 (some 3) (.alloc [(.sl ⟨none, 0⟩), (.sl ⟨none, 0⟩), (.sl ⟨none, 0⟩), (.sl ⟨none, 0⟩), (.sl ⟨none, 0⟩)]) <| .op 8 none (.st (some 5) (.t 3) (.t 17)) <| .nil) <|
  .reg (.op 0 (some 18) (.mov (.t 0)) <| .op 1 (some 19) (.call 35 [(.t 18), (.c (.int .u8 74))] true (.one (.lf .sl))) <| .op 2 (some 4) (.mov (.t 19)) <| .nil) <|
  .reg (.op 0 (some 20) (.mov (.t 4)) <| .op 1 (some 21) (.call 37 [(.t 20)] true (.one (.lf .sl))) <| .op 2 (some 22) (.fadr (.t 3) 2) <| .op 3 none (.st none (.t 22) (.t 21)) <| .nil) <|
  .reg (.op 0 (some 23) (.fadr (.t 3) 0) <| .op 1 (some 24) (.ld (.lf .sl) (.t 23)) <| .op 2 (some 25) (.fadr (.t 3) 1) <| .op 3 (some 26) (.ld (.lf .sl) (.t 25)) <| .op 4 (some 27) (.call 38 [(.t 24), (.t 26)] true (.one (.lf .sl))) <| .op 5 (some 28) (.fadr (.t 3) 3) <| .op 6 none (.st none (.t 28) (.t 27)) <| .nil) <|
  .reg (.op 0 (some 29) (.fadr (.t 3) 2) <| .op 1 (some 30) (.ld (.lf .sl) (.t 29)) <| .op 2 (some 31) (.call 40 [(.t 30)] true (.one (.lf .sl))) <| .op 3 (some 5) (.mov (.t 31)) <| .nil) <|
  .reg (.op 0 (some 32) (.mov (.t 5)) <| .op 1 (some 33) (.len (.t 32)) <| .op 2 (some 34) (.mov (.c (.int .i64 0))) <| .nil) <|
  .jump 1⟩,
 ⟨[2, 3, 4, 5, 32, 33, 34], [.code 18, .code 19, .inLoop 16, .inBlock 15, .code 48],
  .reg (.op 0 (some 35) (.bin .lss .i64 (.t 34) (.t 33)) <| .nil) <|
  .ite (.t 35)
  (.reg (.op 0 (some 36) (.iadr (.t 32) (.t 34) 1) <| .op 1 (some 37) (.ld (.lf .sl) (.t 36)) <| .op 2 (some 7) (.mov (.t 37)) <| .nil) <|
  .reg (.op 0 (some 8) (.mov (.c (.sl ⟨none, 0⟩))) <| .nil) <|
  .reg (.op 0 (some 38) (.mov (.t 5)) <| .op 1 (some 39) (.len (.t 38)) <| .op 2 (some 40) (.mov (.c (.int .i64 0))) <| .nil) <|
  .jump 2)
  (.reg (.op 0 (some 66) (.ld (.agg [.sl, .sl, .sl, .sl, .sl]) (.t 3)) <| .op 1 none (.st (some 5) (.t 2) (.t 66)) <| .nil) <|
  .ret)⟩,
 ⟨[2, 3, 4, 5, 7, 8, 32, 33, 34, 38, 39, 40], [.code 35, .code 36, .inLoop 33, .inBlock 32, .code 46, .inBlock 24, .code 47, .inLoop 16, .inBlock 15, .code 48],
  .reg (.op 0 (some 41) (.bin .lss .i64 (.t 40) (.t 39)) <| .nil) <|
  .ite (.t 41)
  (.reg (.op 0 (some 42) (.iadr (.t 38) (.t 40) 1) <| .op 1 (some 43) (.ld (.lf .sl) (.t 42)) <| .op 2 (some 10) (.mov (.t 43)) <| .nil) <|
  .reg (.op 0 (some 44) (.mov (.t 8)) <| .op 1 (some 45) (.mov (.t 4)) <| .op 2 (some 46) (.mov (.t 10)) <| .op 3 (some 47) (.iadr (.t 46) (.c (.int .i64 0)) 1) <| .op 4 (some 48) (.ld (.lf (.int .i64)) (.t 47)) <| .op 5 (some 49) (.iadr (.t 45) (.t 48) 1) <| .op 6 (some 50) (.ld (.lf .sl) (.t 49)) <| .op 7 (some 51) (.mov (.t 7)) <| .op 8 (some 52) (.iadr (.t 51) (.c (.int .i64 0)) 1) <| .op 9 (some 53) (.ld (.lf (.int .i64)) (.t 52)) <| .op 10 (some 54) (.iadr (.t 50) (.t 53) 1) <| .op 11 (some 55) (.ld (.lf .bool) (.t 54)) <| .op 12 (some 56) (.bsl 1 [(.bool false)] 1 [(0, 1, (.t 55))]) <| .op 13 (some 57) (.app 1 1 (.t 44) (.t 56)) <| .op 14 (some 8) (.mov (.t 57)) <| .nil) <|
  .reg (.op 0 (some 58) (.bin .add .i64 (.t 40) (.c (.int .i64 1))) <| .op 1 (some 40) (.mov (.t 58)) <| .nil) <|
  .jump 2)
  (.reg (.op 0 (some 59) (.fadr (.t 3) 4) <| .op 1 (some 60) (.ld (.lf .sl) (.t 59)) <| .op 2 (some 61) (.mov (.t 8)) <| .op 3 (some 62) (.bsl 1 [(.sl ⟨none, 0⟩)] 1 [(0, 1, (.t 61))]) <| .op 4 (some 63) (.app 1 24 (.t 60) (.t 62)) <| .op 5 (some 64) (.fadr (.t 3) 4) <| .op 6 none (.st none (.t 64) (.t 63)) <| .nil) <|
  .reg (.op 0 (some 65) (.bin .add .i64 (.t 34) (.c (.int .i64 1))) <| .op 1 (some 34) (.mov (.t 65)) <| .nil) <|
  .jump 1)⟩]⟩
noncomputable def semigroupref15_Minimal_fn : Fn := ⟨2, [.tmp 4], [
 ⟨[0, 1], [.code 0],
  .reg (.op 0 (some 2) (.box 5 (.t 0)) <| .op 1 (some 4) (.mov (.c (.bool false))) <| .nil) <|
  .reg (.op 0 (some 6) (.fadr (.t 2) 4) <| .op 1 (some 7) (.ld (.lf .sl) (.t 6)) <| .op 2 (some 8) (.len (.t 7)) <| .op 3 (some 9) (.mov (.c (.int .i64 0))) <| .nil) <|
  .jump 1⟩,
 ⟨[1, 2, 8, 9], [.code 8, .code 9, .inLoop 6, .inBlock 5, .code 25],
  .reg (.op 0 (some 10) (.bin .lss .i64 (.t 9) (.t 8)) <| .nil) <|
  .ite (.t 10)
  (.reg (.op 0 (some 11) (.mov (.t 9)) <| .op 1 (some 5) (.mov (.t 11)) <| .nil) <|
  .reg (.op 0 (some 12) (.mov (.t 5)) <| .op 1 (some 13) (.mov (.t 1)) <| .op 2 (some 14) (.bin .neq .i64 (.t 12) (.t 13)) <| .op 3 (some 15) (.mov (.t 14)) <| .grp 15 true (.op 4 (some 16) (.fadr (.t 2) 4) <| .op 5 (some 17) (.ld (.lf .sl) (.t 16)) <| .op 6 (some 18) (.mov (.t 5)) <| .op 7 (some 19) (.iadr (.t 17) (.t 18) 1) <| .op 8 (some 20) (.ld (.lf .sl) (.t 19)) <| .op 9 (some 21) (.mov (.t 1)) <| .op 10 (some 22) (.iadr (.t 20) (.t 21) 1) <| .op 11 (some 23) (.ld (.lf .bool) (.t 22)) <| .nil) 12 24 (.t 23) <| .nil) <|
  .ite (.t 24)
  (.reg (.op 0 (some 4) (.mov (.c (.bool false))) <| .nil) <|
  .ret)
  (.reg (.op 0 (some 25) (.bin .add .i64 (.t 9) (.c (.int .i64 1))) <| .op 1 (some 9) (.mov (.t 25)) <| .nil) <|
  .jump 1))
  (.reg (.op 0 (some 4) (.mov (.c (.bool true))) <| .nil) <|
  .ret)⟩]⟩
noncomputable def semigroupref17_class_fn : Fn := ⟨2, [.tmp 4, .tmp 5, .tmp 6], [
 ⟨[0, 1], [.code 0],
  .reg (.op 0 (some 4) (.mov (.c (.sl ⟨none, 0⟩))) <| .op 1 (some 5) (.mov (.c (.bool false))) <| .op 2 (some 6) (.mov (.c (.int .i64 0))) <| .nil) <|
  .reg (.op 0 (some 9) (.mov (.t 0)) <| .op 1 (some 10) (.call 31 [(.t 9)] true (.one (.lf (.int .i64)))) <| .op 2 (some 7) (.mov (.t 10)) <| .nil) <|
  .reg (.op 0 (some 11) (.mov (.t 7)) <| .op 1 (some 12) (.bin .neq .i64 (.t 11) (.c (.int .i64 0))) <| .nil) <|
  .ite (.t 12)
  (.reg (.op 0 (some 13) (.mov (.t 7)) <| .op 1 (some 4) (.mov (.c (.sl ⟨none, 0⟩))) <| .op 2 (some 5) (.mov (.c (.bool false))) <| .op 3 (some 6) (.mov (.t 13)) <| .nil) <|
  .ret)
  (.reg (.op 0 (some 14) (.mov (.t 0)) <| .op 1 (some 15) (.call 41 [(.t 14)] true (.one (.agg [.sl, .sl, .sl, .sl, .sl]))) <| .op 2 (some 8) (.alloc [(.sl ⟨none, 0⟩), (.sl ⟨none, 0⟩), (.sl ⟨none, 0⟩), (.sl ⟨none, 0⟩), (.sl ⟨none, 0⟩)]) <| .op 3 none (.st (some 5) (.t 8) (.t 15)) <| .nil) <|
  .reg (.op 0 (some 16) (.mov (.t 1)) <| .op 1 (some 17) (.bin .lss .i64 (.t 16) (.c (.int .i64 0))) <| .op 2 (some 18) (.mov (.t 17)) <| .grp 18 false (.op 3 (some 19) (.mov (.t 1)) <| .op 4 (some 20) (.fadr (.t 8) 4) <| .op 5 (some 21) (.ld (.lf .sl) (.t 20)) <| .op 6 (some 22) (.len (.t 21)) <| .op 7 (some 23) (.bin .geq .i64 (.t 19) (.t 22)) <| .nil) 8 24 (.t 23) <| .nil) <|
  .ite (.t 24)
  (.reg (.op 0 (some 4) (.mov (.c (.sl ⟨none, 0⟩))) <| .op 1 (some 5) (.mov (.c (.bool false))) <| .op 2 (some 6) (.mov (.c (.int .i64 1))) <| .nil) <|
  .ret)
  (.reg (.op 0 (some 25) (.fadr (.t 8) 2) <| .op 1 (some 26) (.ld (.lf .sl) (.t 25)) <| .op 2 (some 27) (.call 40 [(.t 26)] true (.one (.lf .sl))) <| .op 3 (some 28) (.mov (.t 1)) <| .op 4 (some 29) (.iadr (.t 27) (.t 28) 1) <| .op 5 (some 30) (.ld (.lf .sl) (.t 29)) <| .op 6 (some 31) (.ld (.agg [.sl, .sl, .sl, .sl, .sl]) (.t 8)) <| .op 7 (some 32) (.mov (.t 1)) <| .op 8 (some 33) (.call 42 [(.t 31), (.t 32)] true (.one (.lf .bool))) <| .op 9 (some 4) (.mov (.t 30)) <| .op 10 (some 5) (.mov (.t 33)) <| .op 11 (some 6) (.mov (.c (.int .i64 0))) <| .nil) <|
  .ret))⟩]⟩
noncomputable def semigroupref14_Valid_fn : Fn := ⟨1, [.tmp 2], [
 ⟨[0], [.code 0],
  .reg (.op 0 (some 2) (.mov (.c (.bool false))) <| .nil) <|
  .reg (.op 0 (some 3) (.mov (.t 0)) <| .op 1 (some 4) (.call 31 [(.t 3)] true (.one (.lf (.int .i64)))) <| .op 2 (some 5) (.bin .eql .i64 (.t 4) (.c (.int .i64 0))) <| .op 3 (some 2) (.mov (.t 5)) <| .nil) <|
  .ret⟩]⟩
noncomputable def semigroupref14_Identity_fn : Fn := ⟨1, [.tmp 2], [
 ⟨[0], [.code 0],
  .reg (.op 0 (some 2) (.mov (.c (.int .i64 0))) <| .nil) <|
  .reg (.op 0 (some 6) (.mov (.t 0)) <| .op 1 (some 7) (.len (.t 6)) <| .op 2 (some 8) (.mov (.c (.int .i64 0))) <| .nil) <|
  .jump 1⟩,
 ⟨[0, 7, 8], [.code 8, .code 9, .inLoop 6, .inBlock 5, .code 44],
  .reg (.op 0 (some 9) (.bin .lss .i64 (.t 8) (.t 7)) <| .nil) <|
  .ite (.t 9)
  (.reg (.op 0 (some 10) (.mov (.t 8)) <| .op 1 (some 3) (.mov (.t 10)) <| .nil) <|
  .reg (.op 0 (some 4) (.mov (.c (.bool true))) <| .nil) <|
  .reg (.op 0 (some 11) (.mov (.t 0)) <| .op 1 (some 12) (.len (.t 11)) <| .op 2 (some 13) (.mov (.c (.int .i64 0))) <| .nil) <|
  .jump 2)
  (.reg (.op 0 (some 2) (.mov (.c (.int .i64 (-1)))) <| .nil) <|
  .ret)⟩,
 ⟨[0, 3, 4, 7, 8, 12, 13], [.code 25, .code 26, .inLoop 23, .inBlock 22, .code 36, .inBlock 14, .code 43, .inLoop 6, .inBlock 5, .code 44],
  .reg (.op 0 (some 14) (.bin .lss .i64 (.t 13) (.t 12)) <| .nil) <|
  .ite (.t 14)
  (.reg (.op 0 (some 15) (.mov (.t 13)) <| .op 1 (some 5) (.mov (.t 15)) <| .nil) <|
  .reg (.op 0 (some 16) (.mov (.t 4)) <| .op 1 (some 17) (.mov (.t 16)) <| .grp 17 true (.op 2 (some 18) (.mov (.t 0)) <| .op 3 (some 19) (.mov (.t 3)) <| .op 4 (some 20) (.iadr (.t 18) (.t 19) 1) <| .op 5 (some 21) (.ld (.lf .sl) (.t 20)) <| .op 6 (some 22) (.mov (.t 5)) <| .op 7 (some 23) (.iadr (.t 21) (.t 22) 1) <| .op 8 (some 24) (.ld (.lf (.int .i64)) (.t 23)) <| .op 9 (some 25) (.mov (.t 5)) <| .op 10 (some 26) (.bin .eql .i64 (.t 24) (.t 25)) <| .nil) 11 27 (.t 26) <| .op 12 (some 28) (.mov (.t 27)) <| .grp 28 true (.op 13 (some 29) (.mov (.t 0)) <| .op 14 (some 30) (.mov (.t 5)) <| .op 15 (some 31) (.iadr (.t 29) (.t 30) 1) <| .op 16 (some 32) (.ld (.lf .sl) (.t 31)) <| .op 17 (some 33) (.mov (.t 3)) <| .op 18 (some 34) (.iadr (.t 32) (.t 33) 1) <| .op 19 (some 35) (.ld (.lf (.int .i64)) (.t 34)) <| .op 20 (some 36) (.mov (.t 5)) <| .op 21 (some 37) (.bin .eql .i64 (.t 35) (.t 36)) <| .nil) 22 38 (.t 37) <| .op 23 (some 4) (.mov (.t 38)) <| .nil) <|
  .reg (.op 0 (some 39) (.bin .add .i64 (.t 13) (.c (.int .i64 1))) <| .op 1 (some 13) (.mov (.t 39)) <| .nil) <|
  .jump 2)
  (.reg (.op 0 (some 40) (.mov (.t 4)) <| .nil) <|
  .ite (.t 40)
  (.reg (.op 0 (some 41) (.mov (.t 3)) <| .op 1 (some 2) (.mov (.t 41)) <| .nil) <|
  .ret)
  (.reg (.op 0 (some 42) (.bin .add .i64 (.t 8) (.c (.int .i64 1))) <| .op 1 (some 8) (.mov (.t 42)) <| .nil) <|
  .jump 1))⟩]⟩
noncomputable def semigroupref16_Inverse_fn : Fn := ⟨2, [.tmp 4], [
 ⟨[0, 1], [.code 0],
  .reg (.op 0 (some 4) (.mov (.c (.int .i64 0))) <| .nil) <|
  .reg (.op 0 (some 7) (.mov (.t 0)) <| .op 1 (some 8) (.call 45 [(.t 7)] true (.one (.lf (.int .i64)))) <| .op 2 (some 5) (.mov (.t 8)) <| .nil) <|
  .reg (.op 0 (some 9) (.mov (.t 0)) <| .op 1 (some 10) (.len (.t 9)) <| .op 2 (some 11) (.mov (.c (.int .i64 0))) <| .nil) <|
  .jump 1⟩,
 ⟨[0, 1, 5, 10, 11], [.code 10, .code 11, .inLoop 8, .inBlock 7, .code 27],
  .reg (.op 0 (some 12) (.bin .lss .i64 (.t 11) (.t 10)) <| .nil) <|
  .ite (.t 12)
  (.reg (.op 0 (some 13) (.mov (.t 11)) <| .op 1 (some 6) (.mov (.t 13)) <| .nil) <|
  .reg (.op 0 (some 14) (.mov (.t 0)) <| .op 1 (some 15) (.mov (.t 1)) <| .op 2 (some 16) (.iadr (.t 14) (.t 15) 1) <| .op 3 (some 17) (.ld (.lf .sl) (.t 16)) <| .op 4 (some 18) (.mov (.t 6)) <| .op 5 (some 19) (.iadr (.t 17) (.t 18) 1) <| .op 6 (some 20) (.ld (.lf (.int .i64)) (.t 19)) <| .op 7 (some 21) (.mov (.t 5)) <| .op 8 (some 22) (.bin .eql .i64 (.t 20) (.t 21)) <| .op 9 (some 23) (.mov (.t 22)) <| .grp 23 true (.op 10 (some 24) (.mov (.t 0)) <| .op 11 (some 25) (.mov (.t 6)) <| .op 12 (some 26) (.iadr (.t 24) (.t 25) 1) <| .op 13 (some 27) (.ld (.lf .sl) (.t 26)) <| .op 14 (some 28) (.mov (.t 1)) <| .op 15 (some 29) (.iadr (.t 27) (.t 28) 1) <| .op 16 (some 30) (.ld (.lf (.int .i64)) (.t 29)) <| .op 17 (some 31) (.mov (.t 5)) <| .op 18 (some 32) (.bin .eql .i64 (.t 30) (.t 31)) <| .nil) 19 33 (.t 32) <| .nil) <|
  .ite (.t 33)
  (.reg (.op 0 (some 34) (.mov (.t 6)) <| .op 1 (some 4) (.mov (.t 34)) <| .nil) <|
  .ret)
  (.reg (.op 0 (some 35) (.bin .add .i64 (.t 11) (.c (.int .i64 1))) <| .op 1 (some 11) (.mov (.t 35)) <| .nil) <|
  .jump 1))
  (.reg (.op 0 (some 4) (.mov (.c (.int .i64 (-1)))) <| .nil) <|
  .ret)⟩]⟩
noncomputable def semigroupref16_IsGroup_fn : Fn := ⟨1, [.tmp 2], [
 ⟨[0], [.code 0],
  .reg (.op 0 (some 2) (.mov (.c (.bool false))) <| .nil) <|
  .reg (.op 0 (some 4) (.mov (.t 0)) <| .op 1 (some 5) (.call 44 [(.t 4)] true (.one (.lf .bool))) <| .op 2 (some 6) (.not (.t 5)) <| .op 3 (some 7) (.mov (.t 6)) <| .grp 7 false (.op 4 (some 8) (.mov (.t 0)) <| .op 5 (some 9) (.call 45 [(.t 8)] true (.one (.lf (.int .i64)))) <| .op 6 (some 10) (.bin .lss .i64 (.t 9) (.c (.int .i64 0))) <| .nil) 7 11 (.t 10) <| .nil) <|
  .ite (.t 11)
  (.reg (.op 0 (some 2) (.mov (.c (.bool false))) <| .nil) <|
  .ret)
  (.reg (.op 0 (some 12) (.mov (.t 0)) <| .op 1 (some 13) (.len (.t 12)) <| .op 2 (some 14) (.mov (.c (.int .i64 0))) <| .nil) <|
  .jump 1)⟩,
 ⟨[0, 13, 14], [.code 16, .code 17, .inLoop 14, .inBlock 13, .code 33],
  .reg (.op 0 (some 15) (.bin .lss .i64 (.t 14) (.t 13)) <| .nil) <|
  .ite (.t 15)
  (.reg (.op 0 (some 16) (.mov (.t 14)) <| .op 1 (some 3) (.mov (.t 16)) <| .nil) <|
  .reg (.op 0 (some 17) (.mov (.t 0)) <| .op 1 (some 18) (.mov (.t 3)) <| .op 2 (some 19) (.call 46 [(.t 17), (.t 18)] true (.one (.lf (.int .i64)))) <| .op 3 (some 20) (.bin .lss .i64 (.t 19) (.c (.int .i64 0))) <| .nil) <|
  .ite (.t 20)
  (.reg (.op 0 (some 2) (.mov (.c (.bool false))) <| .nil) <|
  .ret)
  (.reg (.op 0 (some 21) (.bin .add .i64 (.t 14) (.c (.int .i64 1))) <| .op 1 (some 14) (.mov (.t 21)) <| .nil) <|
  .jump 1))
  (.reg (.op 0 (some 2) (.mov (.c (.bool true))) <| .nil) <|
  .ret)⟩]⟩
noncomputable def semigroupref17_Validate_fn : Fn := ⟨1, [.tmp 2], [
 ⟨[0], [.code 0],
  .reg (.op 0 (some 1) (.box 5 (.t 0)) <| .op 1 (some 2) (.mov (.c (.int .i64 0))) <| .nil) <|
  .reg (.op 0 (some 8) (.fadr (.t 1) 0) <| .op 1 (some 9) (.ld (.lf .sl) (.t 8)) <| .op 2 (some 10) (.call 47 [(.t 9)] true (.one (.lf .bool))) <| .op 3 (some 11) (.not (.t 10)) <| .op 4 (some 12) (.mov (.t 11)) <| .grp 12 false (.op 5 (some 13) (.fadr (.t 1) 1) <| .op 6 (some 14) (.ld (.lf (.int .i64)) (.t 13)) <| .op 7 (some 15) (.bin .lss .i64 (.t 14) (.c (.int .i64 1))) <| .nil) 8 16 (.t 15) <| .op 9 (some 17) (.mov (.t 16)) <| .grp 17 false (.op 10 (some 18) (.fadr (.t 1) 2) <| .op 11 (some 19) (.ld (.lf (.int .i64)) (.t 18)) <| .op 12 (some 20) (.bin .lss .i64 (.t 19) (.c (.int .i64 1))) <| .nil) 13 21 (.t 20) <| .op 14 (some 22) (.mov (.t 21)) <| .grp 22 false (.op 15 (some 23) (.fadr (.t 1) 3) <| .op 16 (some 24) (.ld (.lf .sl) (.t 23)) <| .op 17 (some 25) (.len (.t 24)) <| .op 18 (some 26) (.fadr (.t 1) 2) <| .op 19 (some 27) (.ld (.lf (.int .i64)) (.t 26)) <| .op 20 (some 28) (.bin .neq .i64 (.t 25) (.t 27)) <| .nil) 21 29 (.t 28) <| .nil) <|
  .ite (.t 29)
  (.reg (.op 0 (some 2) (.mov (.c (.int .i64 4))) <| .nil) <|
  .ret)
  (.reg (.op 0 (some 30) (.fadr (.t 1) 3) <| .op 1 (some 31) (.ld (.lf .sl) (.t 30)) <| .op 2 (some 32) (.len (.t 31)) <| .op 3 (some 33) (.mov (.c (.int .i64 0))) <| .nil) <|
  .jump 1)⟩,
 ⟨[1, 31, 32, 33], [.code 16, .code 17, .inLoop 14, .inBlock 13, .code 56],
  .reg (.op 0 (some 34) (.bin .lss .i64 (.t 33) (.t 32)) <| .nil) <|
  .ite (.t 34)
  (.reg (.op 0 (some 35) (.iadr (.t 31) (.t 33) 1) <| .op 1 (some 36) (.ld (.lf .sl) (.t 35)) <| .op 2 (some 4) (.mov (.t 36)) <| .nil) <|
  .reg (.op 0 (some 37) (.mov (.t 4)) <| .op 1 (some 38) (.len (.t 37)) <| .op 2 (some 39) (.fadr (.t 1) 1) <| .op 3 (some 40) (.ld (.lf (.int .i64)) (.t 39)) <| .op 4 (some 41) (.bin .neq .i64 (.t 38) (.t 40)) <| .nil) <|
  .ite (.t 41)
  (.reg (.op 0 (some 2) (.mov (.c (.int .i64 4))) <| .nil) <|
  .ret)
  (.reg (.op 0 (some 42) (.mov (.t 4)) <| .op 1 (some 43) (.len (.t 42)) <| .op 2 (some 44) (.mov (.c (.int .i64 0))) <| .nil) <|
  .jump 2))
  (.reg (.op 0 (some 7) (.mov (.c (.int .i64 400))) <| .nil) <|
  .reg (.op 0 (some 68) (.fadr (.t 1) 4) <| .op 1 (some 69) (.ld (.lf .bool) (.t 68)) <| .nil) <|
  .ite (.t 69)
  (.reg (.op 0 (some 70) (.mov (.t 7)) <| .op 1 (some 71) (.bin .sub .i64 (.t 70) (.c (.int .i64 1))) <| .op 2 (some 7) (.mov (.t 71)) <| .nil) <|
  .jump 3)
  (.jump 3))⟩,
 ⟨[1, 31, 32, 33, 42, 43, 44], [.code 38, .code 39, .inLoop 36, .inBlock 35, .inBlock 22, .code 55, .inLoop 14, .inBlock 13, .code 56],
  .reg (.op 0 (some 45) (.bin .lss .i64 (.t 44) (.t 43)) <| .nil) <|
  .ite (.t 45)
  (.reg (.op 0 (some 46) (.iadr (.t 42) (.t 44) 1) <| .op 1 (some 47) (.ld (.lf (.int .i64)) (.t 46)) <| .op 2 (some 6) (.mov (.t 47)) <| .nil) <|
  .reg (.op 0 (some 48) (.mov (.t 6)) <| .op 1 (some 49) (.bin .lss .i64 (.t 48) (.c (.int .i64 (-1)))) <| .op 2 (some 50) (.mov (.t 49)) <| .grp 50 false (.op 3 (some 51) (.mov (.t 6)) <| .op 4 (some 52) (.fadr (.t 1) 0) <| .op 5 (some 53) (.ld (.lf .sl) (.t 52)) <| .op 6 (some 54) (.len (.t 53)) <| .op 7 (some 55) (.bin .geq .i64 (.t 51) (.t 54)) <| .nil) 8 56 (.t 55) <| .op 9 (some 57) (.mov (.t 56)) <| .grp 57 false (.op 10 (some 58) (.mov (.t 6)) <| .op 11 (some 59) (.bin .lss .i64 (.t 58) (.c (.int .i64 0))) <| .op 12 (some 60) (.mov (.t 59)) <| .grp 60 true (.op 13 (some 61) (.fadr (.t 1) 4) <| .op 14 (some 62) (.ld (.lf .bool) (.t 61)) <| .op 15 (some 63) (.not (.t 62)) <| .nil) 16 64 (.t 63) <| .nil) 17 65 (.t 64) <| .nil) <|
  .ite (.t 65)
  (.reg (.op 0 (some 2) (.mov (.c (.int .i64 4))) <| .nil) <|
  .ret)
  (.reg (.op 0 (some 66) (.bin .add .i64 (.t 44) (.c (.int .i64 1))) <| .op 1 (some 44) (.mov (.t 66)) <| .nil) <|
  .jump 2))
  (.reg (.op 0 (some 67) (.bin .add .i64 (.t 33) (.c (.int .i64 1))) <| .op 1 (some 33) (.mov (.t 67)) <| .nil) <|
  .jump 1)⟩,
 ⟨[1, 7], [.code 66, .code 67, .code 72],
  .reg (.op 0 (some 72) (.fadr (.t 1) 1) <| .op 1 (some 73) (.ld (.lf (.int .i64)) (.t 72)) <| .op 2 (some 74) (.mov (.t 7)) <| .op 3 (some 75) (.fadr (.t 1) 0) <| .op 4 (some 76) (.ld (.lf .sl) (.t 75)) <| .op 5 (some 77) (.len (.t 76)) <| .op 6 (some 78) (.bin .quo .i64 (.t 74) (.t 77)) <| .op 7 (some 79) (.bin .gtr .i64 (.t 73) (.t 78)) <| .op 8 (some 80) (.mov (.t 79)) <| .grp 80 false (.op 9 (some 81) (.fadr (.t 1) 1) <| .op 10 (some 82) (.ld (.lf (.int .i64)) (.t 81)) <| .op 11 (some 83) (.fadr (.t 1) 0) <| .op 12 (some 84) (.ld (.lf .sl) (.t 83)) <| .op 13 (some 85) (.len (.t 84)) <| .op 14 (some 86) (.bin .mul .i64 (.t 82) (.t 85)) <| .op 15 (some 87) (.mov (.t 7)) <| .op 16 (some 88) (.fadr (.t 1) 2) <| .op 17 (some 89) (.ld (.lf (.int .i64)) (.t 88)) <| .op 18 (some 90) (.bin .quo .i64 (.t 87) (.t 89)) <| .op 19 (some 91) (.bin .gtr .i64 (.t 86) (.t 90)) <| .nil) 20 92 (.t 91) <| .nil) <|
  .ite (.t 92)
  (.reg (.op 0 (some 2) (.mov (.c (.int .i64 3))) <| .nil) <|
  .ret)
  (.reg (.op 0 (some 2) (.mov (.c (.int .i64 0))) <| .nil) <|
  .ret)⟩]⟩
noncomputable def semigroupref17_base_fn : Fn := ⟨1, [.tmp 2], [
 ⟨[0], [.code 0],
  .reg (.op 0 (some 1) (.box 5 (.t 0)) <| .op 1 (some 2) (.mov (.c (.int .i64 0))) <| .nil) <|
  .reg (.op 0 (some 3) (.fadr (.t 1) 4) <| .op 1 (some 4) (.ld (.lf .bool) (.t 3)) <| .nil) <|
  .ite (.t 4)
  (.reg (.op 0 (some 2) (.mov (.c (.int .i64 1))) <| .nil) <|
  .ret)
  (.reg (.op 0 (some 2) (.mov (.c (.int .i64 0))) <| .nil) <|
  .ret)⟩]⟩
noncomputable def semigroupref17_Size_fn : Fn := ⟨1, [.tmp 2], [
 ⟨[0], [.code 0],
  .reg (.op 0 (some 1) (.box 5 (.t 0)) <| .op 1 (some 2) (.mov (.c (.int .i64 0))) <| .nil) <|
  .reg (.op 0 (some 3) (.fadr (.t 1) 1) <| .op 1 (some 4) (.ld (.lf (.int .i64)) (.t 3)) <| .op 2 (some 5) (.fadr (.t 1) 0) <| .op 3 (some 6) (.ld (.lf .sl) (.t 5)) <| .op 4 (some 7) (.len (.t 6)) <| .op 5 (some 8) (.bin .mul .i64 (.t 4) (.t 7)) <| .op 6 (some 9) (.fadr (.t 1) 2) <| .op 7 (some 10) (.ld (.lf (.int .i64)) (.t 9)) <| .op 8 (some 11) (.bin .mul .i64 (.t 8) (.t 10)) <| .op 9 (some 12) (.ld (.agg [.sl, (.int .i64), (.int .i64), .sl, .bool]) (.t 1)) <| .op 10 (some 13) (.call 49 [(.t 12)] true (.one (.lf (.int .i64)))) <| .op 11 (some 14) (.bin .add .i64 (.t 11) (.t 13)) <| .op 12 (some 2) (.mov (.t 14)) <| .nil) <|
  .ret⟩]⟩
noncomputable def semigroupref03_Set_fn : Fn := ⟨2, [.tmp 4], [
 ⟨[0, 1], [.code 0],
  .reg (.op 0 (some 4) (.mov (.c (.sl ⟨none, 0⟩))) <| .nil) <|
  .reg (.op 0 (some 8) (.mov (.t 1)) <| .op 1 (some 9) (.mksl [(.bool false)] 1 (.t 8) (.t 8)) <| .op 2 (some 5) (.mov (.t 9)) <| .nil) <|
  .reg (.op 0 (some 10) (.mov (.t 0)) <| .op 1 (some 11) (.len (.t 10)) <| .op 2 (some 12) (.mov (.c (.int .i64 0))) <| .nil) <|
  .jump 1⟩,
 ⟨[1, 5, 10, 11, 12], [.code 10, .code 11, .inLoop 8, .inBlock 7, .code 25],
  .reg (.op 0 (some 13) (.bin .lss .i64 (.t 12) (.t 11)) <| .nil) <|
  .ite (.t 13)
  (.reg (.op 0 (some 14) (.iadr (.t 10) (.t 12) 1) <| .op 1 (some 15) (.ld (.lf (.int .i64)) (.t 14)) <| .op 2 (some 7) (.mov (.t 15)) <| .nil) <|
  .reg (.op 0 (some 16) (.mov (.t 7)) <| .op 1 (some 17) (.bin .geq .i64 (.t 16) (.c (.int .i64 0))) <| .op 2 (some 18) (.mov (.t 17)) <| .grp 18 true (.op 3 (some 19) (.mov (.t 7)) <| .op 4 (some 20) (.mov (.t 1)) <| .op 5 (some 21) (.bin .lss .i64 (.t 19) (.t 20)) <| .nil) 6 22 (.t 21) <| .nil) <|
  .ite (.t 22)
  (.reg (.op 0 (some 23) (.mov (.t 5)) <| .op 1 (some 24) (.mov (.t 7)) <| .op 2 (some 25) (.iadr (.t 23) (.t 24) 1) <| .op 3 none (.st none (.t 25) (.c (.bool true))) <| .nil) <|
  .jump 2)
  (.jump 2))
  (.reg (.op 0 (some 27) (.mov (.t 5)) <| .op 1 (some 4) (.mov (.t 27)) <| .nil) <|
  .ret)⟩,
 ⟨[1, 5, 10, 11, 12], [.code 24, .inLoop 8, .inBlock 7, .code 25],
  .reg (.op 0 (some 26) (.bin .add .i64 (.t 12) (.c (.int .i64 1))) <| .op 1 (some 12) (.mov (.t 26)) <| .nil) <|
  .jump 1⟩]⟩
noncomputable def semigroupref17_Number_fn : Fn := ⟨4, [.tmp 8], [
 ⟨[0, 1, 2, 3], [.code 0],
  .reg (.op 0 (some 4) (.box 5 (.t 0)) <| .op 1 (some 8) (.mov (.c (.int .i64 0))) <| .nil) <|
  .reg (.op 0 (some 9) (.mov (.t 1)) <| .op 1 (some 10) (.bin .lss .i64 (.t 9) (.c (.int .i64 0))) <| .op 2 (some 11) (.mov (.t 10)) <| .grp 11 false (.op 3 (some 12) (.mov (.t 1)) <| .op 4 (some 13) (.fadr (.t 4) 1) <| .op 5 (some 14) (.ld (.lf (.int .i64)) (.t 13)) <| .op 6 (some 15) (.bin .geq .i64 (.t 12) (.t 14)) <| .nil) 7 16 (.t 15) <| .op 8 (some 17) (.mov (.t 16)) <| .grp 17 false (.op 9 (some 18) (.mov (.t 2)) <| .op 10 (some 19) (.bin .lss .i64 (.t 18) (.c (.int .i64 0))) <| .nil) 11 20 (.t 19) <| .op 12 (some 21) (.mov (.t 20)) <| .grp 21 false (.op 13 (some 22) (.mov (.t 2)) <| .op 14 (some 23) (.fadr (.t 4) 0) <| .op 15 (some 24) (.ld (.lf .sl) (.t 23)) <| .op 16 (some 25) (.len (.t 24)) <| .op 17 (some 26) (.bin .geq .i64 (.t 22) (.t 25)) <| .nil) 18 27 (.t 26) <| .op 19 (some 28) (.mov (.t 27)) <| .grp 28 false (.op 20 (some 29) (.mov (.t 3)) <| .op 21 (some 30) (.bin .lss .i64 (.t 29) (.c (.int .i64 0))) <| .nil) 22 31 (.t 30) <| .op 23 (some 32) (.mov (.t 31)) <| .grp 32 false (.op 24 (some 33) (.mov (.t 3)) <| .op 25 (some 34) (.fadr (.t 4) 2) <| .op 26 (some 35) (.ld (.lf (.int .i64)) (.t 34)) <| .op 27 (some 36) (.bin .geq .i64 (.t 33) (.t 35)) <| .nil) 28 37 (.t 36) <| .nil) <|
  .ite (.t 37)
  (.reg (.op 0 (some 8) (.mov (.c (.int .i64 (-1)))) <| .nil) <|
  .ret)
  (.reg (.op 0 (some 38) (.mov (.t 1)) <| .op 1 (some 39) (.fadr (.t 4) 0) <| .op 2 (some 40) (.ld (.lf .sl) (.t 39)) <| .op 3 (some 41) (.len (.t 40)) <| .op 4 (some 42) (.bin .mul .i64 (.t 38) (.t 41)) <| .op 5 (some 43) (.mov (.t 2)) <| .op 6 (some 44) (.bin .add .i64 (.t 42) (.t 43)) <| .op 7 (some 45) (.fadr (.t 4) 2) <| .op 8 (some 46) (.ld (.lf (.int .i64)) (.t 45)) <| .op 9 (some 47) (.bin .mul .i64 (.t 44) (.t 46)) <| .op 10 (some 48) (.mov (.t 3)) <| .op 11 (some 49) (.bin .add .i64 (.t 47) (.t 48)) <| .op 12 (some 50) (.ld (.agg [.sl, (.int .i64), (.int .i64), .sl, .bool]) (.t 4)) <| .op 13 (some 51) (.call 49 [(.t 50)] true (.one (.lf (.int .i64)))) <| .op 14 (some 52) (.bin .add .i64 (.t 49) (.t 51)) <| .op 15 (some 8) (.mov (.t 52)) <| .nil) <|
  .ret)⟩]⟩
noncomputable def semigroupref17_Mul_fn : Fn := ⟨3, [.tmp 6], [
 ⟨[0, 1, 2], [.code 0],
  .reg (.op 0 (some 3) (.box 5 (.t 0)) <| .op 1 (some 6) (.mov (.c (.int .i64 0))) <| .nil) <|
  .reg (.op 0 (some 12) (.mov (.t 1)) <| .op 1 (some 13) (.bin .lss .i64 (.t 12) (.c (.int .i64 0))) <| .op 2 (some 14) (.mov (.t 13)) <| .grp 14 false (.op 3 (some 15) (.mov (.t 1)) <| .op 4 (some 16) (.ld (.agg [.sl, (.int .i64), (.int .i64), .sl, .bool]) (.t 3)) <| .op 5 (some 17) (.call 50 [(.t 16)] true (.one (.lf (.int .i64)))) <| .op 6 (some 18) (.bin .geq .i64 (.t 15) (.t 17)) <| .nil) 7 19 (.t 18) <| .op 8 (some 20) (.mov (.t 19)) <| .grp 20 false (.op 9 (some 21) (.mov (.t 2)) <| .op 10 (some 22) (.bin .lss .i64 (.t 21) (.c (.int .i64 0))) <| .nil) 11 23 (.t 22) <| .op 12 (some 24) (.mov (.t 23)) <| .grp 24 false (.op 13 (some 25) (.mov (.t 2)) <| .op 14 (some 26) (.ld (.agg [.sl, (.int .i64), (.int .i64), .sl, .bool]) (.t 3)) <| .op 15 (some 27) (.call 50 [(.t 26)] true (.one (.lf (.int .i64)))) <| .op 16 (some 28) (.bin .geq .i64 (.t 25) (.t 27)) <| .nil) 17 29 (.t 28) <| .nil) <|
  .ite (.t 29)
  (.reg (.op 0 (some 6) (.mov (.c (.int .i64 (-1)))) <| .nil) <|
  .ret)
  (.reg (.op 0 (some 30) (.mov (.t 1)) <| .op 1 (some 31) (.ld (.agg [.sl, (.int .i64), (.int .i64), .sl, .bool]) (.t 3)) <| .op 2 (some 32) (.call 49 [(.t 31)] true (.one (.lf (.int .i64)))) <| .op 3 (some 33) (.bin .sub .i64 (.t 30) (.t 32)) <| .op 4 (some 34) (.mov (.t 2)) <| .op 5 (some 35) (.ld (.agg [.sl, (.int .i64), (.int .i64), .sl, .bool]) (.t 3)) <| .op 6 (some 36) (.call 49 [(.t 35)] true (.one (.lf (.int .i64)))) <| .op 7 (some 37) (.bin .sub .i64 (.t 34) (.t 36)) <| .op 8 (some 7) (.mov (.t 33)) <| .op 9 (some 8) (.mov (.t 37)) <| .nil) <|
  .reg (.op 0 (some 38) (.mov (.t 7)) <| .op 1 (some 39) (.bin .lss .i64 (.t 38) (.c (.int .i64 0))) <| .op 2 (some 40) (.mov (.t 39)) <| .grp 40 false (.op 3 (some 41) (.mov (.t 8)) <| .op 4 (some 42) (.bin .lss .i64 (.t 41) (.c (.int .i64 0))) <| .nil) 5 43 (.t 42) <| .nil) <|
  .ite (.t 43)
  (.reg (.op 0 (some 6) (.mov (.c (.int .i64 0))) <| .nil) <|
  .ret)
  (.reg (.op 0 (some 44) (.fadr (.t 3) 0) <| .op 1 (some 45) (.ld (.lf .sl) (.t 44)) <| .op 2 (some 46) (.len (.t 45)) <| .op 3 (some 9) (.mov (.t 46)) <| .nil) <|
  .reg (.op 0 (some 47) (.fadr (.t 3) 3) <| .op 1 (some 48) (.ld (.lf .sl) (.t 47)) <| .op 2 (some 49) (.mov (.t 7)) <| .op 3 (some 50) (.fadr (.t 3) 2) <| .op 4 (some 51) (.ld (.lf (.int .i64)) (.t 50)) <| .op 5 (some 52) (.bin .rem .i64 (.t 49) (.t 51)) <| .op 6 (some 53) (.iadr (.t 48) (.t 52) 1) <| .op 7 (some 54) (.ld (.lf .sl) (.t 53)) <| .op 8 (some 55) (.mov (.t 8)) <| .op 9 (some 56) (.fadr (.t 3) 2) <| .op 10 (some 57) (.ld (.lf (.int .i64)) (.t 56)) <| .op 11 (some 58) (.bin .quo .i64 (.t 55) (.t 57)) <| .op 12 (some 59) (.mov (.t 9)) <| .op 13 (some 60) (.bin .quo .i64 (.t 58) (.t 59)) <| .op 14 (some 61) (.iadr (.t 54) (.t 60) 1) <| .op 15 (some 62) (.ld (.lf (.int .i64)) (.t 61)) <| .op 16 (some 10) (.mov (.t 62)) <| .nil) <|
  .reg (.op 0 (some 63) (.mov (.t 10)) <| .op 1 (some 64) (.bin .lss .i64 (.t 63) (.c (.int .i64 0))) <| .nil) <|
  .ite (.t 64)
  (.reg (.op 0 (some 6) (.mov (.c (.int .i64 0))) <| .nil) <|
  .ret)
  (.reg (.op 0 (some 65) (.fadr (.t 3) 0) <| .op 1 (some 66) (.ld (.lf .sl) (.t 65)) <| .op 2 (some 67) (.fadr (.t 3) 0) <| .op 3 (some 68) (.ld (.lf .sl) (.t 67)) <| .op 4 (some 69) (.mov (.t 7)) <| .op 5 (some 70) (.fadr (.t 3) 2) <| .op 6 (some 71) (.ld (.lf (.int .i64)) (.t 70)) <| .op 7 (some 72) (.bin .quo .i64 (.t 69) (.t 71)) <| .op 8 (some 73) (.mov (.t 9)) <| .op 9 (some 74) (.bin .rem .i64 (.t 72) (.t 73)) <| .op 10 (some 75) (.iadr (.t 68) (.t 74) 1) <| .op 11 (some 76) (.ld (.lf .sl) (.t 75)) <| .op 12 (some 77) (.mov (.t 10)) <| .op 13 (some 78) (.iadr (.t 76) (.t 77) 1) <| .op 14 (some 79) (.ld (.lf (.int .i64)) (.t 78)) <| .op 15 (some 80) (.iadr (.t 66) (.t 79) 1) <| .op 16 (some 81) (.ld (.lf .sl) (.t 80)) <| .op 17 (some 82) (.mov (.t 8)) <| .op 18 (some 83) (.fadr (.t 3) 2) <| .op 19 (some 84) (.ld (.lf (.int .i64)) (.t 83)) <| .op 20 (some 85) (.bin .quo .i64 (.t 82) (.t 84)) <| .op 21 (some 86) (.mov (.t 9)) <| .op 22 (some 87) (.bin .rem .i64 (.t 85) (.t 86)) <| .op 23 (some 88) (.iadr (.t 81) (.t 87) 1) <| .op 24 (some 89) (.ld (.lf (.int .i64)) (.t 88)) <| .op 25 (some 11) (.mov (.t 89)) <| .nil) <|
  .reg (.op 0 (some 90) (.ld (.agg [.sl, (.int .i64), (.int .i64), .sl, .bool]) (.t 3)) <| .op 1 (some 91) (.mov (.t 7)) <| .op 2 (some 92) (.fadr (.t 3) 2) <| .op 3 (some 93) (.ld (.lf (.int .i64)) (.t 92)) <| .op 4 (some 94) (.bin .quo .i64 (.t 91) (.t 93)) <| .op 5 (some 95) (.mov (.t 9)) <| .op 6 (some 96) (.bin .quo .i64 (.t 94) (.t 95)) <| .op 7 (some 97) (.mov (.t 11)) <| .op 8 (some 98) (.mov (.t 8)) <| .op 9 (some 99) (.fadr (.t 3) 2) <| .op 10 (some 100) (.ld (.lf (.int .i64)) (.t 99)) <| .op 11 (some 101) (.bin .rem .i64 (.t 98) (.t 100)) <| .op 12 (some 102) (.call 52 [(.t 90), (.t 96), (.t 97), (.t 101)] true (.one (.lf (.int .i64)))) <| .op 13 (some 6) (.mov (.t 102)) <| .nil) <|
  .ret)))⟩]⟩
noncomputable def semigroupref17_Check_fn : Fn := ⟨4, [.tmp 8], [
 ⟨[0, 1, 2, 3], [.code 0],
  .reg (.op 0 (some 6) (.box 5 (.t 2)) <| .op 1 (some 8) (.mov (.c (.bool false))) <| .nil) <|
  .reg (.op 0 (some 21) (.mov (.t 0)) <| .op 1 (some 22) (.mov (.t 1)) <| .op 2 (some 23) (.call 43 [(.t 21), (.t 22)] true (.tup [(.lf .sl), (.lf .bool), (.lf (.int .i64))])) <| .op 3 (some 20) (.mov (.t 23)) <| .op 4 (some 24) (.ext (.t 20) 0) <| .op 5 (some 25) (.ext (.t 20) 1) <| .op 6 (some 26) (.ext (.t 20) 2) <| .op 7 (some 9) (.mov (.t 24)) <| .op 8 (some 10) (.mov (.t 25)) <| .op 9 (some 11) (.mov (.t 26)) <| .nil) <|
  .reg (.op 0 (some 27) (.mov (.t 11)) <| .op 1 (some 28) (.bin .neq .i64 (.t 27) (.c (.int .i64 0))) <| .op 2 (some 29) (.mov (.t 28)) <| .grp 29 false (.op 3 (some 30) (.ld (.agg [.sl, (.int .i64), (.int .i64), .sl, .bool]) (.t 6)) <| .op 4 (some 31) (.call 48 [(.t 30)] true (.one (.lf (.int .i64)))) <| .op 5 (some 32) (.bin .neq .i64 (.t 31) (.c (.int .i64 0))) <| .nil) 6 33 (.t 32) <| .op 7 (some 34) (.mov (.t 33)) <| .grp 34 false (.op 8 (some 35) (.fadr (.t 6) 4) <| .op 9 (some 36) (.ld (.lf .bool) (.t 35)) <| .op 10 (some 37) (.mov (.t 10)) <| .op 11 (some 38) (.beq false (.t 36) (.t 37)) <| .nil) 12 39 (.t 38) <| .op 13 (some 40) (.mov (.t 39)) <| .grp 40 false (.op 14 (some 41) (.mov (.t 3)) <| .op 15 (some 42) (.len (.t 41)) <| .op 16 (some 43) (.mov (.t 0)) <| .op 17 (some 44) (.len (.t 43)) <| .op 18 (some 45) (.bin .neq .i64 (.t 42) (.t 44)) <| .nil) 19 46 (.t 45) <| .op 20 (some 47) (.mov (.t 46)) <| .grp 47 false (.op 21 (some 48) (.mov (.t 9)) <| .op 22 (some 49) (.len (.t 48)) <| .op 23 (some 50) (.ld (.agg [.sl, (.int .i64), (.int .i64), .sl, .bool]) (.t 6)) <| .op 24 (some 51) (.call 50 [(.t 50)] true (.one (.lf (.int .i64)))) <| .op 25 (some 52) (.ld (.agg [.sl, (.int .i64), (.int .i64), .sl, .bool]) (.t 6)) <| .op 26 (some 53) (.call 49 [(.t 52)] true (.one (.lf (.int .i64)))) <| .op 27 (some 54) (.bin .sub .i64 (.t 51) (.t 53)) <| .op 28 (some 55) (.bin .neq .i64 (.t 49) (.t 54)) <| .nil) 29 56 (.t 55) <| .nil) <|
  .ite (.t 56)
  (.reg (.op 0 (some 8) (.mov (.c (.bool false))) <| .nil) <|
  .ret)
  (.reg (.op 0 (some 57) (.mov (.t 9)) <| .op 1 (some 58) (.mov (.t 0)) <| .op 2 (some 59) (.len (.t 58)) <| .op 3 (some 60) (.call 51 [(.t 57), (.t 59)] true (.one (.lf .sl))) <| .op 4 (some 61) (.ld (.agg [.sl, (.int .i64), (.int .i64), .sl, .bool]) (.t 6)) <| .op 5 (some 62) (.call 50 [(.t 61)] true (.one (.lf (.int .i64)))) <| .op 6 (some 63) (.mksl [(.bool false)] 1 (.t 62) (.t 62)) <| .op 7 (some 12) (.mov (.t 60)) <| .op 8 (some 13) (.mov (.t 63)) <| .nil) <|
  .reg (.op 0 (some 64) (.mov (.t 0)) <| .op 1 (some 65) (.len (.t 64)) <| .op 2 (some 66) (.mov (.c (.int .i64 0))) <| .nil) <|
  .jump 1)⟩,
 ⟨[0, 3, 6, 9, 12, 13, 65, 66], [.code 20, .code 21, .inLoop 18, .inBlock 17, .code 53],
  .reg (.op 0 (some 67) (.bin .lss .i64 (.t 66) (.t 65)) <| .nil) <|
  .ite (.t 67)
  (.reg (.op 0 (some 68) (.mov (.t 66)) <| .op 1 (some 14) (.mov (.t 68)) <| .nil) <|
  .reg (.op 0 (some 69) (.mov (.t 12)) <| .op 1 (some 70) (.mov (.t 14)) <| .op 2 (some 71) (.iadr (.t 69) (.t 70) 1) <| .op 3 (some 72) (.ld (.lf .bool) (.t 71)) <| .op 4 (some 73) (.not (.t 72)) <| .nil) <|
  .ite (.t 73)
  (.reg (.op 0 (some 74) (.mov (.t 3)) <| .op 1 (some 75) (.mov (.t 14)) <| .op 2 (some 76) (.iadr (.t 74) (.t 75) 1) <| .op 3 (some 77) (.ld (.lf (.int .i64)) (.t 76)) <| .op 4 (some 78) (.bin .neq .i64 (.t 77) (.c (.int .i64 (-1)))) <| .nil) <|
  .ite (.t 78)
  (.reg (.op 0 (some 8) (.mov (.c (.bool false))) <| .nil) <|
  .ret)
  (.jump 2))
  (.reg (.op 0 (some 79) (.mov (.t 3)) <| .op 1 (some 80) (.mov (.t 14)) <| .op 2 (some 81) (.iadr (.t 79) (.t 80) 1) <| .op 3 (some 82) (.ld (.lf (.int .i64)) (.t 81)) <| .op 4 (some 83) (.ld (.agg [.sl, (.int .i64), (.int .i64), .sl, .bool]) (.t 6)) <| .op 5 (some 84) (.call 49 [(.t 83)] true (.one (.lf (.int .i64)))) <| .op 6 (some 85) (.bin .lss .i64 (.t 82) (.t 84)) <| .op 7 (some 86) (.mov (.t 85)) <| .grp 86 false (.op 8 (some 87) (.mov (.t 3)) <| .op 9 (some 88) (.mov (.t 14)) <| .op 10 (some 89) (.iadr (.t 87) (.t 88) 1) <| .op 11 (some 90) (.ld (.lf (.int .i64)) (.t 89)) <| .op 12 (some 91) (.ld (.agg [.sl, (.int .i64), (.int .i64), .sl, .bool]) (.t 6)) <| .op 13 (some 92) (.call 50 [(.t 91)] true (.one (.lf (.int .i64)))) <| .op 14 (some 93) (.bin .geq .i64 (.t 90) (.t 92)) <| .nil) 15 94 (.t 93) <| .op 16 (some 95) (.mov (.t 94)) <| .grp 95 false (.op 17 (some 96) (.mov (.t 13)) <| .op 18 (some 97) (.mov (.t 3)) <| .op 19 (some 98) (.mov (.t 14)) <| .op 20 (some 99) (.iadr (.t 97) (.t 98) 1) <| .op 21 (some 100) (.ld (.lf (.int .i64)) (.t 99)) <| .op 22 (some 101) (.iadr (.t 96) (.t 100) 1) <| .op 23 (some 102) (.ld (.lf .bool) (.t 101)) <| .nil) 24 103 (.t 102) <| .nil) <|
  .ite (.t 103)
  (.reg (.op 0 (some 8) (.mov (.c (.bool false))) <| .nil) <|
  .ret)
  (.reg (.op 0 (some 104) (.mov (.t 13)) <| .op 1 (some 105) (.mov (.t 3)) <| .op 2 (some 106) (.mov (.t 14)) <| .op 3 (some 107) (.iadr (.t 105) (.t 106) 1) <| .op 4 (some 108) (.ld (.lf (.int .i64)) (.t 107)) <| .op 5 (some 109) (.iadr (.t 104) (.t 108) 1) <| .op 6 none (.st none (.t 109) (.c (.bool true))) <| .nil) <|
  .jump 2)))
  (.reg (.op 0 (some 111) (.mov (.t 9)) <| .op 1 (some 112) (.len (.t 111)) <| .op 2 (some 113) (.mov (.c (.int .i64 0))) <| .nil) <|
  .jump 3)⟩,
 ⟨[0, 3, 6, 9, 12, 13, 65, 66], [.code 52, .inLoop 18, .inBlock 17, .code 53],
  .reg (.op 0 (some 110) (.bin .add .i64 (.t 66) (.c (.int .i64 1))) <| .op 1 (some 66) (.mov (.t 110)) <| .nil) <|
  .jump 1⟩,
 ⟨[0, 3, 6, 9, 12, 111, 112, 113], [.code 59, .code 60, .inLoop 57, .inBlock 56, .code 93],
  .reg (.op 0 (some 114) (.bin .lss .i64 (.t 113) (.t 112)) <| .nil) <|
  .ite (.t 114)
  (.reg (.op 0 (some 115) (.iadr (.t 111) (.t 113) 1) <| .op 1 (some 116) (.ld (.lf (.int .i64)) (.t 115)) <| .op 2 (some 16) (.mov (.t 116)) <| .nil) <|
  .reg (.op 0 (some 117) (.mov (.t 9)) <| .op 1 (some 118) (.len (.t 117)) <| .op 2 (some 119) (.mov (.c (.int .i64 0))) <| .nil) <|
  .jump 4)
  (.reg (.op 0 (some 8) (.mov (.c (.bool true))) <| .nil) <|
  .ret)⟩,
 ⟨[0, 3, 6, 9, 12, 16, 111, 112, 113, 117, 118, 119], [.code 73, .code 74, .inLoop 71, .inBlock 70, .inBlock 65, .code 92, .inLoop 57, .inBlock 56, .code 93],
  .reg (.op 0 (some 120) (.bin .lss .i64 (.t 119) (.t 118)) <| .nil) <|
  .ite (.t 120)
  (.reg (.op 0 (some 121) (.iadr (.t 117) (.t 119) 1) <| .op 1 (some 122) (.ld (.lf (.int .i64)) (.t 121)) <| .op 2 (some 18) (.mov (.t 122)) <| .nil) <|
  .reg (.op 0 (some 123) (.ld (.agg [.sl, (.int .i64), (.int .i64), .sl, .bool]) (.t 6)) <| .op 1 (some 124) (.mov (.t 3)) <| .op 2 (some 125) (.mov (.t 16)) <| .op 3 (some 126) (.iadr (.t 124) (.t 125) 1) <| .op 4 (some 127) (.ld (.lf (.int .i64)) (.t 126)) <| .op 5 (some 128) (.mov (.t 3)) <| .op 6 (some 129) (.mov (.t 18)) <| .op 7 (some 130) (.iadr (.t 128) (.t 129) 1) <| .op 8 (some 131) (.ld (.lf (.int .i64)) (.t 130)) <| .op 9 (some 132) (.call 53 [(.t 123), (.t 127), (.t 131)] true (.one (.lf (.int .i64)))) <| .op 10 (some 19) (.mov (.t 132)) <| .nil) <|
  .reg (.op 0 (some 133) (.mov (.t 12)) <| .op 1 (some 134) (.mov (.t 0)) <| .op 2 (some 135) (.mov (.t 16)) <| .op 3 (some 136) (.iadr (.t 134) (.t 135) 1) <| .op 4 (some 137) (.ld (.lf .sl) (.t 136)) <| .op 5 (some 138) (.mov (.t 18)) <| .op 6 (some 139) (.iadr (.t 137) (.t 138) 1) <| .op 7 (some 140) (.ld (.lf (.int .i64)) (.t 139)) <| .op 8 (some 141) (.iadr (.t 133) (.t 140) 1) <| .op 9 (some 142) (.ld (.lf .bool) (.t 141)) <| .op 10 (some 143) (.mov (.t 142)) <| .grp 143 true (.op 11 (some 144) (.mov (.t 19)) <| .op 12 (some 145) (.mov (.t 3)) <| .op 13 (some 146) (.mov (.t 0)) <| .op 14 (some 147) (.mov (.t 16)) <| .op 15 (some 148) (.iadr (.t 146) (.t 147) 1) <| .op 16 (some 149) (.ld (.lf .sl) (.t 148)) <| .op 17 (some 150) (.mov (.t 18)) <| .op 18 (some 151) (.iadr (.t 149) (.t 150) 1) <| .op 19 (some 152) (.ld (.lf (.int .i64)) (.t 151)) <| .op 20 (some 153) (.iadr (.t 145) (.t 152) 1) <| .op 21 (some 154) (.ld (.lf (.int .i64)) (.t 153)) <| .op 22 (some 155) (.bin .neq .i64 (.t 144) (.t 154)) <| .nil) 23 156 (.t 155) <| .op 24 (some 157) (.mov (.t 156)) <| .grp 157 false (.op 25 (some 158) (.mov (.t 12)) <| .op 26 (some 159) (.mov (.t 0)) <| .op 27 (some 160) (.mov (.t 16)) <| .op 28 (some 161) (.iadr (.t 159) (.t 160) 1) <| .op 29 (some 162) (.ld (.lf .sl) (.t 161)) <| .op 30 (some 163) (.mov (.t 18)) <| .op 31 (some 164) (.iadr (.t 162) (.t 163) 1) <| .op 32 (some 165) (.ld (.lf (.int .i64)) (.t 164)) <| .op 33 (some 166) (.iadr (.t 158) (.t 165) 1) <| .op 34 (some 167) (.ld (.lf .bool) (.t 166)) <| .op 35 (some 168) (.not (.t 167)) <| .op 36 (some 169) (.mov (.t 168)) <| .grp 169 true (.op 37 (some 170) (.mov (.t 19)) <| .op 38 (some 171) (.bin .neq .i64 (.t 170) (.c (.int .i64 0))) <| .op 39 (some 172) (.mov (.t 171)) <| .grp 172 false (.op 40 (some 173) (.fadr (.t 6) 4) <| .op 41 (some 174) (.ld (.lf .bool) (.t 173)) <| .op 42 (some 175) (.not (.t 174)) <| .nil) 43 176 (.t 175) <| .nil) 44 177 (.t 176) <| .nil) 45 178 (.t 177) <| .nil) <|
  .ite (.t 178)
  (.reg (.op 0 (some 8) (.mov (.c (.bool false))) <| .nil) <|
  .ret)
  (.reg (.op 0 (some 179) (.bin .add .i64 (.t 119) (.c (.int .i64 1))) <| .op 1 (some 119) (.mov (.t 179)) <| .nil) <|
  .jump 4))
  (.reg (.op 0 (some 180) (.bin .add .i64 (.t 113) (.c (.int .i64 1))) <| .op 1 (some 113) (.mov (.t 180)) <| .nil) <|
  .jump 3)⟩]⟩
noncomputable def semigrouplaw17_ReesChecks_fn : Fn := ⟨4, [.tmp 8], [
 ⟨[0, 1, 2, 3], [.code 0],
  .reg (.op 0 (some 6) (.box 5 (.t 2)) <| .op 1 (some 8) (.mov (.c (.bool false))) <| .nil) <|
  .reg (.op 0 (some 9) (.mov (.t 0)) <| .op 1 (some 10) (.call 1 [(.t 9), (.c (.int .i64 16))] true (.one (.lf .bool))) <| .op 2 (some 11) (.mov (.t 10)) <| .grp 11 false (.op 3 (some 12) (.fadr (.t 6) 0) <| .op 4 (some 13) (.ld (.lf .sl) (.t 12)) <| .op 5 (some 14) (.call 1 [(.t 13), (.c (.int .i64 8))] true (.one (.lf .bool))) <| .nil) 6 15 (.t 14) <| .nil) <|
  .ite (.t 15)
  (.reg (.op 0 (some 16) (.call 16 [] true (.one (.lf .bool))) <| .op 1 (some 8) (.mov (.t 16)) <| .nil) <|
  .ret)
  (.reg (.op 0 (some 17) (.mov (.t 0)) <| .op 1 (some 18) (.mov (.t 1)) <| .op 2 (some 19) (.ld (.agg [.sl, (.int .i64), (.int .i64), .sl, .bool]) (.t 6)) <| .op 3 (some 20) (.mov (.t 3)) <| .op 4 (some 21) (.call 29 [(.t 17), (.t 18), (.t 19), (.t 20)] true (.one (.lf .bool))) <| .op 5 (some 22) (.mov (.t 0)) <| .op 6 (some 23) (.mov (.t 1)) <| .op 7 (some 24) (.ld (.agg [.sl, (.int .i64), (.int .i64), .sl, .bool]) (.t 6)) <| .op 8 (some 25) (.mov (.t 3)) <| .op 9 (some 26) (.call 54 [(.t 22), (.t 23), (.t 24), (.t 25)] true (.one (.lf .bool))) <| .op 10 (some 27) (.beq false (.t 21) (.t 26)) <| .op 11 (some 28) (.mov (.t 27)) <| .grp 28 true (.op 12 (some 29) (.call 16 [] true (.one (.lf .bool))) <| .nil) 13 30 (.t 29) <| .op 14 (some 8) (.mov (.t 30)) <| .nil) <|
  .ret)⟩]⟩
noncomputable def G : Pg := [semigroupref14_Shape_fn, semigrouplaw17_large_fn, semigrouplaw17_brandt_fn, mult_shape_fn, mult_failing_fn, mult_Validate_fn, group_inverses_fn, group_of_fn, group_IsGroup_fn, rees_zero_fn, rees_size_fn, rees_Validate_fn, rees_number_fn, rees_mul_fn, rees_Table_fn, rees_Regular_fn, semigrouplaw17_awake_fn, green_right_fn, green_left_fn, green_two_fn, green_mutual_fn, partition_Valid_fn, partition_both_fn, partition_Canonical_fn, partition_Meet_fn, green_firsts_fn, green_classes_fn, green_Classes_fn, rees_class_fn, rees_Check_fn, semigroupref14_Associative_fn, semigroupref14_Validate_fn, semigroupref15_Right_fn, semigroupref15_Left_fn, semigroupref15_Both_fn, semigroupref15_ideals_fn, semigroupref03_Canonical_fn, semigroupref15_mutual_fn, semigroupref03_Meet_fn, semigroupref03_Count_fn, semigroupref03_Classes_fn, semigroupref15_Classes_fn, semigroupref15_Minimal_fn, semigroupref17_class_fn, semigroupref14_Valid_fn, semigroupref14_Identity_fn, semigroupref16_Inverse_fn, semigroupref16_IsGroup_fn, semigroupref17_Validate_fn, semigroupref17_base_fn, semigroupref17_Size_fn, semigroupref03_Set_fn, semigroupref17_Number_fn, semigroupref17_Mul_fn, semigroupref17_Check_fn, semigrouplaw17_ReesChecks_fn]
def ldA_siisb {ρ : Type} (H : AH) (p : Pt) (κ : Sl → Int → Int → Sl → Bool → Option ρ) : Option ρ := ldn H p 5 fun vs => castLfs [.sl, (.int .i64), (.int .i64), .sl, .bool] vs fun vs' => match vs' with | [.sl a0, .int _ a1, .int _ a2, .sl a3, .bool a4] => κ a0 a1 a2 a3 a4 | _ => none
def ldA_sis {ρ : Type} (H : AH) (p : Pt) (κ : Sl → Int → Sl → Option ρ) : Option ρ := ldn H p 3 fun vs => castLfs [.sl, (.int .i64), .sl] vs fun vs' => match vs' with | [.sl a0, .int _ a1, .sl a2] => κ a0 a1 a2 | _ => none
def ldA_sssss {ρ : Type} (H : AH) (p : Pt) (κ : Sl → Sl → Sl → Sl → Sl → Option ρ) : Option ρ := ldn H p 5 fun vs => castLfs [.sl, .sl, .sl, .sl, .sl] vs fun vs' => match vs' with | [.sl a0, .sl a1, .sl a2, .sl a3, .sl a4] => κ a0 a1 a2 a3 a4 | _ => none
noncomputable def semigroupref14_Shape_r {ρ : Type} (κ : Int → AH → Option ρ) (v : AV) (H : AH) : Option ρ := castTy (.one (.lf (.int .i64))) v fun v' => match v' with | .int _ r0 => κ r0 H | _ => none
noncomputable def semigroupref14_Shape {ρ : Type} (k : Nat) (x0 : Sl) (lo : Nat) (H : AH) (κ : Int → AH → Option ρ) : Option ρ := run G k ρ 0 0 [(.sl x0)] lo H (semigroupref14_Shape_r κ)
noncomputable def semigroupref14_Shape_1 {ρ : Type} (k : Nat) (x0 : Sl) (x13 : Sl) (x14 : Int) (x15 : Int) (lo : Nat) (H : AH) (κ : Int → AH → Option ρ) : Option ρ := run G k ρ 0 1 [(.sl x0), (.sl x13), (.int .i64 x14), (.int .i64 x15)] lo H (semigroupref14_Shape_r κ)
noncomputable def semigroupref14_Shape_2 {ρ : Type} (k : Nat) (x0 : Sl) (x13 : Sl) (x14 : Int) (x15 : Int) (x24 : Sl) (x25 : Int) (x26 : Int) (lo : Nat) (H : AH) (κ : Int → AH → Option ρ) : Option ρ := run G k ρ 0 2 [(.sl x0), (.sl x13), (.int .i64 x14), (.int .i64 x15), (.sl x24), (.int .i64 x25), (.int .i64 x26)] lo H (semigroupref14_Shape_r κ)
noncomputable def semigrouplaw17_large_r {ρ : Type} (κ : Bool → AH → Option ρ) (v : AV) (H : AH) : Option ρ := castTy (.one (.lf .bool)) v fun v' => match v' with | .bool r0 => κ r0 H | _ => none
noncomputable def semigrouplaw17_large {ρ : Type} (k : Nat) (x0 : Sl) (x1 : Int) (lo : Nat) (H : AH) (κ : Bool → AH → Option ρ) : Option ρ := run G k ρ 1 0 [(.sl x0), (.int .i64 x1)] lo H (semigrouplaw17_large_r κ)
noncomputable def semigrouplaw17_brandt_r {ρ : Type} (κ : (Sl × Int × Int × Sl × Bool) → AH → Option ρ) (v : AV) (H : AH) : Option ρ := castTy (.one (.agg [.sl, (.int .i64), (.int .i64), .sl, .bool])) v fun v' => match v' with | .agg [.sl r0, .int _ r1, .int _ r2, .sl r3, .bool r4] => κ (r0, r1, r2, r3, r4) H | _ => none
noncomputable def semigrouplaw17_brandt {ρ : Type} (k : Nat) (lo : Nat) (H : AH) (κ : (Sl × Int × Int × Sl × Bool) → AH → Option ρ) : Option ρ := run G k ρ 2 0 [] lo H (semigrouplaw17_brandt_r κ)
noncomputable def mult_shape_r {ρ : Type} (κ : Int → AH → Option ρ) (v : AV) (H : AH) : Option ρ := castTy (.one (.lf (.int .i64))) v fun v' => match v' with | .int _ r0 => κ r0 H | _ => none
noncomputable def mult_shape {ρ : Type} (k : Nat) (x0 : Sl) (lo : Nat) (H : AH) (κ : Int → AH → Option ρ) : Option ρ := run G k ρ 3 0 [(.sl x0)] lo H (mult_shape_r κ)
noncomputable def mult_shape_1 {ρ : Type} (k : Nat) (x0 : Sl) (x15 : Sl) (x16 : Int) (x17 : Int) (lo : Nat) (H : AH) (κ : Int → AH → Option ρ) : Option ρ := run G k ρ 3 1 [(.sl x0), (.sl x15), (.int .i64 x16), (.int .i64 x17)] lo H (mult_shape_r κ)
noncomputable def mult_shape_2 {ρ : Type} (k : Nat) (x0 : Sl) (x15 : Sl) (x16 : Int) (x17 : Int) (x26 : Sl) (x27 : Int) (x28 : Int) (lo : Nat) (H : AH) (κ : Int → AH → Option ρ) : Option ρ := run G k ρ 3 2 [(.sl x0), (.sl x15), (.int .i64 x16), (.int .i64 x17), (.sl x26), (.int .i64 x27), (.int .i64 x28)] lo H (mult_shape_r κ)
noncomputable def mult_failing_r {ρ : Type} (κ : (Int × Int × Int × Bool) → AH → Option ρ) (v : AV) (H : AH) : Option ρ := castTy (.tup [(.lf (.int .i64)), (.lf (.int .i64)), (.lf (.int .i64)), (.lf .bool)]) v fun v' => match v' with | .tup [.int _ r0, .int _ r1, .int _ r2, .bool r3] => κ (r0, r1, r2, r3) H | _ => none
noncomputable def mult_failing {ρ : Type} (k : Nat) (x0 : Sl) (lo : Nat) (H : AH) (κ : (Int × Int × Int × Bool) → AH → Option ρ) : Option ρ := run G k ρ 4 0 [(.sl x0)] lo H (mult_failing_r κ)
noncomputable def mult_failing_1 {ρ : Type} (k : Nat) (x0 : Sl) (x10 : Int) (x11 : Int) (lo : Nat) (H : AH) (κ : (Int × Int × Int × Bool) → AH → Option ρ) : Option ρ := run G k ρ 4 1 [(.sl x0), (.int .i64 x10), (.int .i64 x11)] lo H (mult_failing_r κ)
noncomputable def mult_failing_2 {ρ : Type} (k : Nat) (x0 : Sl) (x6 : Int) (x10 : Int) (x11 : Int) (x15 : Int) (x16 : Int) (lo : Nat) (H : AH) (κ : (Int × Int × Int × Bool) → AH → Option ρ) : Option ρ := run G k ρ 4 2 [(.sl x0), (.int .i64 x6), (.int .i64 x10), (.int .i64 x11), (.int .i64 x15), (.int .i64 x16)] lo H (mult_failing_r κ)
noncomputable def mult_failing_3 {ρ : Type} (k : Nat) (x0 : Sl) (x6 : Int) (x7 : Int) (x10 : Int) (x11 : Int) (x15 : Int) (x16 : Int) (x20 : Int) (x21 : Int) (lo : Nat) (H : AH) (κ : (Int × Int × Int × Bool) → AH → Option ρ) : Option ρ := run G k ρ 4 3 [(.sl x0), (.int .i64 x6), (.int .i64 x7), (.int .i64 x10), (.int .i64 x11), (.int .i64 x15), (.int .i64 x16), (.int .i64 x20), (.int .i64 x21)] lo H (mult_failing_r κ)
noncomputable def mult_Validate_r {ρ : Type} (κ : Int → AH → Option ρ) (v : AV) (H : AH) : Option ρ := castTy (.one (.lf (.int .i64))) v fun v' => match v' with | .int _ r0 => κ r0 H | _ => none
noncomputable def mult_Validate {ρ : Type} (k : Nat) (x0 : Sl) (lo : Nat) (H : AH) (κ : Int → AH → Option ρ) : Option ρ := run G k ρ 5 0 [(.sl x0)] lo H (mult_Validate_r κ)
noncomputable def group_inverses_r {ρ : Type} (κ : (Int × Sl × Bool) → AH → Option ρ) (v : AV) (H : AH) : Option ρ := castTy (.tup [(.lf (.int .i64)), (.lf .sl), (.lf .bool)]) v fun v' => match v' with | .tup [.int _ r0, .sl r1, .bool r2] => κ (r0, r1, r2) H | _ => none
noncomputable def group_inverses {ρ : Type} (k : Nat) (x0 : Sl) (lo : Nat) (H : AH) (κ : (Int × Sl × Bool) → AH → Option ρ) : Option ρ := run G k ρ 6 0 [(.sl x0)] lo H (group_inverses_r κ)
noncomputable def group_inverses_1 {ρ : Type} (k : Nat) (x0 : Sl) (x5 : Int) (x13 : Int) (x14 : Int) (lo : Nat) (H : AH) (κ : (Int × Sl × Bool) → AH → Option ρ) : Option ρ := run G k ρ 6 1 [(.sl x0), (.int .i64 x5), (.int .i64 x13), (.int .i64 x14)] lo H (group_inverses_r κ)
noncomputable def group_inverses_2 {ρ : Type} (k : Nat) (x0 : Sl) (x5 : Int) (x6 : Int) (x7 : Bool) (x13 : Int) (x14 : Int) (x18 : Int) (x19 : Int) (lo : Nat) (H : AH) (κ : (Int × Sl × Bool) → AH → Option ρ) : Option ρ := run G k ρ 6 2 [(.sl x0), (.int .i64 x5), (.int .i64 x6), (.bool x7), (.int .i64 x13), (.int .i64 x14), (.int .i64 x18), (.int .i64 x19)] lo H (group_inverses_r κ)
noncomputable def group_inverses_3 {ρ : Type} (k : Nat) (x0 : Sl) (x5 : Int) (lo : Nat) (H : AH) (κ : (Int × Sl × Bool) → AH → Option ρ) : Option ρ := run G k ρ 6 3 [(.sl x0), (.int .i64 x5)] lo H (group_inverses_r κ)
noncomputable def group_inverses_4 {ρ : Type} (k : Nat) (x0 : Sl) (x5 : Int) (x9 : Sl) (x55 : Int) (x56 : Int) (lo : Nat) (H : AH) (κ : (Int × Sl × Bool) → AH → Option ρ) : Option ρ := run G k ρ 6 4 [(.sl x0), (.int .i64 x5), (.sl x9), (.int .i64 x55), (.int .i64 x56)] lo H (group_inverses_r κ)
noncomputable def group_inverses_5 {ρ : Type} (k : Nat) (x0 : Sl) (x5 : Int) (x9 : Sl) (x10 : Int) (x55 : Int) (x56 : Int) (x63 : Int) (x64 : Int) (lo : Nat) (H : AH) (κ : (Int × Sl × Bool) → AH → Option ρ) : Option ρ := run G k ρ 6 5 [(.sl x0), (.int .i64 x5), (.sl x9), (.int .i64 x10), (.int .i64 x55), (.int .i64 x56), (.int .i64 x63), (.int .i64 x64)] lo H (group_inverses_r κ)
noncomputable def group_inverses_6 {ρ : Type} (k : Nat) (x0 : Sl) (x5 : Int) (x9 : Sl) (x10 : Int) (x55 : Int) (x56 : Int) (x63 : Int) (x64 : Int) (lo : Nat) (H : AH) (κ : (Int × Sl × Bool) → AH → Option ρ) : Option ρ := run G k ρ 6 6 [(.sl x0), (.int .i64 x5), (.sl x9), (.int .i64 x10), (.int .i64 x55), (.int .i64 x56), (.int .i64 x63), (.int .i64 x64)] lo H (group_inverses_r κ)
noncomputable def group_of_r {ρ : Type} (κ : (Sl × Int × Sl × Bool) → AH → Option ρ) (v : AV) (H : AH) : Option ρ := castTy (.tup [(.agg [.sl, (.int .i64), .sl]), (.lf .bool)]) v fun v' => match v' with | .tup [.agg [.sl r0, .int _ r1, .sl r2], .bool r3] => κ (r0, r1, r2, r3) H | _ => none
noncomputable def group_of {ρ : Type} (k : Nat) (x0 : Sl) (lo : Nat) (H : AH) (κ : (Sl × Int × Sl × Bool) → AH → Option ρ) : Option ρ := run G k ρ 7 0 [(.sl x0)] lo H (group_of_r κ)
noncomputable def group_IsGroup_r {ρ : Type} (κ : Bool → AH → Option ρ) (v : AV) (H : AH) : Option ρ := castTy (.one (.lf .bool)) v fun v' => match v' with | .bool r0 => κ r0 H | _ => none
noncomputable def group_IsGroup {ρ : Type} (k : Nat) (x0 : Sl) (lo : Nat) (H : AH) (κ : Bool → AH → Option ρ) : Option ρ := run G k ρ 8 0 [(.sl x0)] lo H (group_IsGroup_r κ)
noncomputable def rees_zero_r {ρ : Type} (κ : Int → AH → Option ρ) (v : AV) (H : AH) : Option ρ := castTy (.one (.lf (.int .i64))) v fun v' => match v' with | .int _ r0 => κ r0 H | _ => none
noncomputable def rees_zero {ρ : Type} (k : Nat) (x0_0 : Sl) (x0_1 : Int) (x0_2 : Int) (x0_3 : Sl) (x0_4 : Bool) (lo : Nat) (H : AH) (κ : Int → AH → Option ρ) : Option ρ := run G k ρ 9 0 [(.agg [(.sl x0_0), (.int .i64 x0_1), (.int .i64 x0_2), (.sl x0_3), (.bool x0_4)])] lo H (rees_zero_r κ)
noncomputable def rees_size_r {ρ : Type} (κ : Int → AH → Option ρ) (v : AV) (H : AH) : Option ρ := castTy (.one (.lf (.int .i64))) v fun v' => match v' with | .int _ r0 => κ r0 H | _ => none
noncomputable def rees_size {ρ : Type} (k : Nat) (x0_0 : Sl) (x0_1 : Int) (x0_2 : Int) (x0_3 : Sl) (x0_4 : Bool) (lo : Nat) (H : AH) (κ : Int → AH → Option ρ) : Option ρ := run G k ρ 10 0 [(.agg [(.sl x0_0), (.int .i64 x0_1), (.int .i64 x0_2), (.sl x0_3), (.bool x0_4)])] lo H (rees_size_r κ)
noncomputable def rees_Validate_r {ρ : Type} (κ : Int → AH → Option ρ) (v : AV) (H : AH) : Option ρ := castTy (.one (.lf (.int .i64))) v fun v' => match v' with | .int _ r0 => κ r0 H | _ => none
noncomputable def rees_Validate {ρ : Type} (k : Nat) (x0_0 : Sl) (x0_1 : Int) (x0_2 : Int) (x0_3 : Sl) (x0_4 : Bool) (lo : Nat) (H : AH) (κ : Int → AH → Option ρ) : Option ρ := run G k ρ 11 0 [(.agg [(.sl x0_0), (.int .i64 x0_1), (.int .i64 x0_2), (.sl x0_3), (.bool x0_4)])] lo H (rees_Validate_r κ)
noncomputable def rees_Validate_1 {ρ : Type} (k : Nat) (x1 : Option Pt) (x30 : Sl) (x31 : Int) (x32 : Int) (lo : Nat) (H : AH) (κ : Int → AH → Option ρ) : Option ρ := run G k ρ 11 1 [(.ptr x1), (.sl x30), (.int .i64 x31), (.int .i64 x32)] lo H (rees_Validate_r κ)
noncomputable def rees_Validate_2 {ρ : Type} (k : Nat) (x1 : Option Pt) (x30 : Sl) (x31 : Int) (x32 : Int) (x41 : Sl) (x42 : Int) (x43 : Int) (lo : Nat) (H : AH) (κ : Int → AH → Option ρ) : Option ρ := run G k ρ 11 2 [(.ptr x1), (.sl x30), (.int .i64 x31), (.int .i64 x32), (.sl x41), (.int .i64 x42), (.int .i64 x43)] lo H (rees_Validate_r κ)
noncomputable def rees_number_r {ρ : Type} (κ : Int → AH → Option ρ) (v : AV) (H : AH) : Option ρ := castTy (.one (.lf (.int .i64))) v fun v' => match v' with | .int _ r0 => κ r0 H | _ => none
noncomputable def rees_number {ρ : Type} (k : Nat) (x0_0 : Sl) (x0_1 : Int) (x0_2 : Int) (x0_3 : Sl) (x0_4 : Bool) (x1 : Int) (x2 : Int) (x3 : Int) (lo : Nat) (H : AH) (κ : Int → AH → Option ρ) : Option ρ := run G k ρ 12 0 [(.agg [(.sl x0_0), (.int .i64 x0_1), (.int .i64 x0_2), (.sl x0_3), (.bool x0_4)]), (.int .i64 x1), (.int .i64 x2), (.int .i64 x3)] lo H (rees_number_r κ)
noncomputable def rees_mul_r {ρ : Type} (κ : Int → AH → Option ρ) (v : AV) (H : AH) : Option ρ := castTy (.one (.lf (.int .i64))) v fun v' => match v' with | .int _ r0 => κ r0 H | _ => none
noncomputable def rees_mul {ρ : Type} (k : Nat) (x0_0 : Sl) (x0_1 : Int) (x0_2 : Int) (x0_3 : Sl) (x0_4 : Bool) (x1 : Int) (x2 : Int) (lo : Nat) (H : AH) (κ : Int → AH → Option ρ) : Option ρ := run G k ρ 13 0 [(.agg [(.sl x0_0), (.int .i64 x0_1), (.int .i64 x0_2), (.sl x0_3), (.bool x0_4)]), (.int .i64 x1), (.int .i64 x2)] lo H (rees_mul_r κ)
noncomputable def rees_Table_r {ρ : Type} (κ : (Sl × Int) → AH → Option ρ) (v : AV) (H : AH) : Option ρ := castTy (.tup [(.lf .sl), (.lf (.int .i64))]) v fun v' => match v' with | .tup [.sl r0, .int _ r1] => κ (r0, r1) H | _ => none
noncomputable def rees_Table {ρ : Type} (k : Nat) (x0_0 : Sl) (x0_1 : Int) (x0_2 : Int) (x0_3 : Sl) (x0_4 : Bool) (lo : Nat) (H : AH) (κ : (Sl × Int) → AH → Option ρ) : Option ρ := run G k ρ 14 0 [(.agg [(.sl x0_0), (.int .i64 x0_1), (.int .i64 x0_2), (.sl x0_3), (.bool x0_4)])] lo H (rees_Table_r κ)
noncomputable def rees_Table_1 {ρ : Type} (k : Nat) (x1 : Option Pt) (x5 : Sl) (x17 : Int) (x18 : Int) (lo : Nat) (H : AH) (κ : (Sl × Int) → AH → Option ρ) : Option ρ := run G k ρ 14 1 [(.ptr x1), (.sl x5), (.int .i64 x17), (.int .i64 x18)] lo H (rees_Table_r κ)
noncomputable def rees_Table_2 {ρ : Type} (k : Nat) (x1 : Option Pt) (x5 : Sl) (x6 : Int) (x17 : Int) (x18 : Int) (x28 : Int) (x29 : Int) (lo : Nat) (H : AH) (κ : (Sl × Int) → AH → Option ρ) : Option ρ := run G k ρ 14 2 [(.ptr x1), (.sl x5), (.int .i64 x6), (.int .i64 x17), (.int .i64 x18), (.int .i64 x28), (.int .i64 x29)] lo H (rees_Table_r κ)
noncomputable def rees_Regular_r {ρ : Type} (κ : Bool → AH → Option ρ) (v : AV) (H : AH) : Option ρ := castTy (.one (.lf .bool)) v fun v' => match v' with | .bool r0 => κ r0 H | _ => none
noncomputable def rees_Regular {ρ : Type} (k : Nat) (x0_0 : Sl) (x0_1 : Int) (x0_2 : Int) (x0_3 : Sl) (x0_4 : Bool) (lo : Nat) (H : AH) (κ : Bool → AH → Option ρ) : Option ρ := run G k ρ 15 0 [(.agg [(.sl x0_0), (.int .i64 x0_1), (.int .i64 x0_2), (.sl x0_3), (.bool x0_4)])] lo H (rees_Regular_r κ)
noncomputable def rees_Regular_1 {ρ : Type} (k : Nat) (x1 : Option Pt) (x3 : Sl) (x4 : Sl) (x21 : Int) (x22 : Int) (lo : Nat) (H : AH) (κ : Bool → AH → Option ρ) : Option ρ := run G k ρ 15 1 [(.ptr x1), (.sl x3), (.sl x4), (.int .i64 x21), (.int .i64 x22)] lo H (rees_Regular_r κ)
noncomputable def rees_Regular_2 {ρ : Type} (k : Nat) (x1 : Option Pt) (x3 : Sl) (x4 : Sl) (x5 : Int) (x21 : Int) (x22 : Int) (x29 : Sl) (x30 : Int) (x31 : Int) (lo : Nat) (H : AH) (κ : Bool → AH → Option ρ) : Option ρ := run G k ρ 15 2 [(.ptr x1), (.sl x3), (.sl x4), (.int .i64 x5), (.int .i64 x21), (.int .i64 x22), (.sl x29), (.int .i64 x30), (.int .i64 x31)] lo H (rees_Regular_r κ)
noncomputable def rees_Regular_3 {ρ : Type} (k : Nat) (x62 : Sl) (x63 : Int) (x64 : Int) (lo : Nat) (H : AH) (κ : Bool → AH → Option ρ) : Option ρ := run G k ρ 15 3 [(.sl x62), (.int .i64 x63), (.int .i64 x64)] lo H (rees_Regular_r κ)
noncomputable def semigrouplaw17_awake_r {ρ : Type} (κ : Bool → AH → Option ρ) (v : AV) (H : AH) : Option ρ := castTy (.one (.lf .bool)) v fun v' => match v' with | .bool r0 => κ r0 H | _ => none
noncomputable def semigrouplaw17_awake {ρ : Type} (k : Nat) (lo : Nat) (H : AH) (κ : Bool → AH → Option ρ) : Option ρ := run G k ρ 16 0 [] lo H (semigrouplaw17_awake_r κ)
noncomputable def green_right_r {ρ : Type} (κ : Sl → AH → Option ρ) (v : AV) (H : AH) : Option ρ := castTy (.one (.lf .sl)) v fun v' => match v' with | .sl r0 => κ r0 H | _ => none
noncomputable def green_right {ρ : Type} (k : Nat) (x0 : Sl) (lo : Nat) (H : AH) (κ : Sl → AH → Option ρ) : Option ρ := run G k ρ 17 0 [(.sl x0)] lo H (green_right_r κ)
noncomputable def green_right_1 {ρ : Type} (k : Nat) (x0 : Sl) (x3 : Sl) (x10 : Int) (x11 : Int) (lo : Nat) (H : AH) (κ : Sl → AH → Option ρ) : Option ρ := run G k ρ 17 1 [(.sl x0), (.sl x3), (.int .i64 x10), (.int .i64 x11)] lo H (green_right_r κ)
noncomputable def green_right_2 {ρ : Type} (k : Nat) (x0 : Sl) (x3 : Sl) (x4 : Int) (x10 : Int) (x11 : Int) (x27 : Int) (x28 : Int) (lo : Nat) (H : AH) (κ : Sl → AH → Option ρ) : Option ρ := run G k ρ 17 2 [(.sl x0), (.sl x3), (.int .i64 x4), (.int .i64 x10), (.int .i64 x11), (.int .i64 x27), (.int .i64 x28)] lo H (green_right_r κ)
noncomputable def green_left_r {ρ : Type} (κ : Sl → AH → Option ρ) (v : AV) (H : AH) : Option ρ := castTy (.one (.lf .sl)) v fun v' => match v' with | .sl r0 => κ r0 H | _ => none
noncomputable def green_left {ρ : Type} (k : Nat) (x0 : Sl) (lo : Nat) (H : AH) (κ : Sl → AH → Option ρ) : Option ρ := run G k ρ 18 0 [(.sl x0)] lo H (green_left_r κ)
noncomputable def green_left_1 {ρ : Type} (k : Nat) (x0 : Sl) (x3 : Sl) (x10 : Int) (x11 : Int) (lo : Nat) (H : AH) (κ : Sl → AH → Option ρ) : Option ρ := run G k ρ 18 1 [(.sl x0), (.sl x3), (.int .i64 x10), (.int .i64 x11)] lo H (green_left_r κ)
noncomputable def green_left_2 {ρ : Type} (k : Nat) (x0 : Sl) (x3 : Sl) (x4 : Int) (x10 : Int) (x11 : Int) (x27 : Int) (x28 : Int) (lo : Nat) (H : AH) (κ : Sl → AH → Option ρ) : Option ρ := run G k ρ 18 2 [(.sl x0), (.sl x3), (.int .i64 x4), (.int .i64 x10), (.int .i64 x11), (.int .i64 x27), (.int .i64 x28)] lo H (green_left_r κ)
noncomputable def green_two_r {ρ : Type} (κ : Sl → AH → Option ρ) (v : AV) (H : AH) : Option ρ := castTy (.one (.lf .sl)) v fun v' => match v' with | .sl r0 => κ r0 H | _ => none
noncomputable def green_two {ρ : Type} (k : Nat) (x0 : Sl) (lo : Nat) (H : AH) (κ : Sl → AH → Option ρ) : Option ρ := run G k ρ 19 0 [(.sl x0)] lo H (green_two_r κ)
noncomputable def green_two_1 {ρ : Type} (k : Nat) (x0 : Sl) (x3 : Sl) (x4 : Sl) (x5 : Sl) (x19 : Int) (x20 : Int) (lo : Nat) (H : AH) (κ : Sl → AH → Option ρ) : Option ρ := run G k ρ 19 1 [(.sl x0), (.sl x3), (.sl x4), (.sl x5), (.int .i64 x19), (.int .i64 x20)] lo H (green_two_r κ)
noncomputable def green_two_2 {ρ : Type} (k : Nat) (x0 : Sl) (x3 : Sl) (x4 : Sl) (x5 : Sl) (x6 : Int) (x19 : Int) (x20 : Int) (x32 : Sl) (x33 : Int) (x34 : Int) (lo : Nat) (H : AH) (κ : Sl → AH → Option ρ) : Option ρ := run G k ρ 19 2 [(.sl x0), (.sl x3), (.sl x4), (.sl x5), (.int .i64 x6), (.int .i64 x19), (.int .i64 x20), (.sl x32), (.int .i64 x33), (.int .i64 x34)] lo H (green_two_r κ)
noncomputable def green_two_3 {ρ : Type} (k : Nat) (x0 : Sl) (x3 : Sl) (x4 : Sl) (x5 : Sl) (x6 : Int) (x19 : Int) (x20 : Int) (x32 : Sl) (x33 : Int) (x34 : Int) (x44 : Sl) (x45 : Int) (x46 : Int) (lo : Nat) (H : AH) (κ : Sl → AH → Option ρ) : Option ρ := run G k ρ 19 3 [(.sl x0), (.sl x3), (.sl x4), (.sl x5), (.int .i64 x6), (.int .i64 x19), (.int .i64 x20), (.sl x32), (.int .i64 x33), (.int .i64 x34), (.sl x44), (.int .i64 x45), (.int .i64 x46)] lo H (green_two_r κ)
noncomputable def green_two_4 {ρ : Type} (k : Nat) (x0 : Sl) (x3 : Sl) (x4 : Sl) (x5 : Sl) (x6 : Int) (x19 : Int) (x20 : Int) (x32 : Sl) (x33 : Int) (x34 : Int) (lo : Nat) (H : AH) (κ : Sl → AH → Option ρ) : Option ρ := run G k ρ 19 4 [(.sl x0), (.sl x3), (.sl x4), (.sl x5), (.int .i64 x6), (.int .i64 x19), (.int .i64 x20), (.sl x32), (.int .i64 x33), (.int .i64 x34)] lo H (green_two_r κ)
noncomputable def green_mutual_r {ρ : Type} (κ : Sl → AH → Option ρ) (v : AV) (H : AH) : Option ρ := castTy (.one (.lf .sl)) v fun v' => match v' with | .sl r0 => κ r0 H | _ => none
noncomputable def green_mutual {ρ : Type} (k : Nat) (x0 : Sl) (lo : Nat) (H : AH) (κ : Sl → AH → Option ρ) : Option ρ := run G k ρ 20 0 [(.sl x0)] lo H (green_mutual_r κ)
noncomputable def green_mutual_1 {ρ : Type} (k : Nat) (x0 : Sl) (x3 : Sl) (x12 : Int) (x13 : Int) (lo : Nat) (H : AH) (κ : Sl → AH → Option ρ) : Option ρ := run G k ρ 20 1 [(.sl x0), (.sl x3), (.int .i64 x12), (.int .i64 x13)] lo H (green_mutual_r κ)
noncomputable def green_mutual_2 {ρ : Type} (k : Nat) (x0 : Sl) (x3 : Sl) (x5 : Int) (x21 : Int) (x22 : Int) (lo : Nat) (H : AH) (κ : Sl → AH → Option ρ) : Option ρ := run G k ρ 20 2 [(.sl x0), (.sl x3), (.int .i64 x5), (.int .i64 x21), (.int .i64 x22)] lo H (green_mutual_r κ)
noncomputable def green_mutual_3 {ρ : Type} (k : Nat) (x0 : Sl) (x3 : Sl) (x5 : Int) (x6 : Int) (x7 : Int) (x21 : Int) (x22 : Int) (lo : Nat) (H : AH) (κ : Sl → AH → Option ρ) : Option ρ := run G k ρ 20 3 [(.sl x0), (.sl x3), (.int .i64 x5), (.int .i64 x6), (.int .i64 x7), (.int .i64 x21), (.int .i64 x22)] lo H (green_mutual_r κ)
noncomputable def green_mutual_4 {ρ : Type} (k : Nat) (x0 : Sl) (x3 : Sl) (x5 : Int) (x6 : Int) (x7 : Int) (x21 : Int) (x22 : Int) (lo : Nat) (H : AH) (κ : Sl → AH → Option ρ) : Option ρ := run G k ρ 20 4 [(.sl x0), (.sl x3), (.int .i64 x5), (.int .i64 x6), (.int .i64 x7), (.int .i64 x21), (.int .i64 x22)] lo H (green_mutual_r κ)
noncomputable def green_mutual_5 {ρ : Type} (k : Nat) (x0 : Sl) (x3 : Sl) (x5 : Int) (x21 : Int) (x22 : Int) (lo : Nat) (H : AH) (κ : Sl → AH → Option ρ) : Option ρ := run G k ρ 20 5 [(.sl x0), (.sl x3), (.int .i64 x5), (.int .i64 x21), (.int .i64 x22)] lo H (green_mutual_r κ)
noncomputable def partition_Valid_r {ρ : Type} (κ : Bool → AH → Option ρ) (v : AV) (H : AH) : Option ρ := castTy (.one (.lf .bool)) v fun v' => match v' with | .bool r0 => κ r0 H | _ => none
noncomputable def partition_Valid {ρ : Type} (k : Nat) (x0 : Sl) (lo : Nat) (H : AH) (κ : Bool → AH → Option ρ) : Option ρ := run G k ρ 21 0 [(.sl x0)] lo H (partition_Valid_r κ)
noncomputable def partition_Valid_1 {ρ : Type} (k : Nat) (x3 : Int) (x9 : Sl) (x10 : Int) (x11 : Int) (lo : Nat) (H : AH) (κ : Bool → AH → Option ρ) : Option ρ := run G k ρ 21 1 [(.int .i64 x3), (.sl x9), (.int .i64 x10), (.int .i64 x11)] lo H (partition_Valid_r κ)
noncomputable def partition_Valid_2 {ρ : Type} (k : Nat) (x3 : Int) (x9 : Sl) (x10 : Int) (x11 : Int) (lo : Nat) (H : AH) (κ : Bool → AH → Option ρ) : Option ρ := run G k ρ 21 2 [(.int .i64 x3), (.sl x9), (.int .i64 x10), (.int .i64 x11)] lo H (partition_Valid_r κ)
noncomputable def partition_both_r {ρ : Type} (κ : Bool → AH → Option ρ) (v : AV) (H : AH) : Option ρ := castTy (.one (.lf .bool)) v fun v' => match v' with | .bool r0 => κ r0 H | _ => none
noncomputable def partition_both {ρ : Type} (k : Nat) (x0 : Sl) (x1 : Sl) (lo : Nat) (H : AH) (κ : Bool → AH → Option ρ) : Option ρ := run G k ρ 22 0 [(.sl x0), (.sl x1)] lo H (partition_both_r κ)
noncomputable def partition_Canonical_r {ρ : Type} (κ : Sl → AH → Option ρ) (v : AV) (H : AH) : Option ρ := castTy (.one (.lf .sl)) v fun v' => match v' with | .sl r0 => κ r0 H | _ => none
noncomputable def partition_Canonical {ρ : Type} (k : Nat) (x0 : Sl) (lo : Nat) (H : AH) (κ : Sl → AH → Option ρ) : Option ρ := run G k ρ 23 0 [(.sl x0)] lo H (partition_Canonical_r κ)
noncomputable def partition_Canonical_1 {ρ : Type} (k : Nat) (x3 : Option Nat) (x4 : Sl) (x16 : Sl) (x17 : Int) (x18 : Int) (lo : Nat) (H : AH) (κ : Sl → AH → Option ρ) : Option ρ := run G k ρ 23 1 [(.map x3), (.sl x4), (.sl x16), (.int .i64 x17), (.int .i64 x18)] lo H (partition_Canonical_r κ)
noncomputable def partition_Canonical_2 {ρ : Type} (k : Nat) (x3 : Option Nat) (x4 : Sl) (x5 : Int) (x7 : Int) (x16 : Sl) (x17 : Int) (x18 : Int) (lo : Nat) (H : AH) (κ : Sl → AH → Option ρ) : Option ρ := run G k ρ 23 2 [(.map x3), (.sl x4), (.int .i64 x5), (.int .i64 x7), (.sl x16), (.int .i64 x17), (.int .i64 x18)] lo H (partition_Canonical_r κ)
noncomputable def partition_Meet_r {ρ : Type} (κ : Sl → AH → Option ρ) (v : AV) (H : AH) : Option ρ := castTy (.one (.lf .sl)) v fun v' => match v' with | .sl r0 => κ r0 H | _ => none
noncomputable def partition_Meet {ρ : Type} (k : Nat) (x0 : Sl) (x1 : Sl) (lo : Nat) (H : AH) (κ : Sl → AH → Option ρ) : Option ρ := run G k ρ 24 0 [(.sl x0), (.sl x1)] lo H (partition_Meet_r κ)
noncomputable def partition_Meet_1 {ρ : Type} (k : Nat) (x0 : Sl) (x1 : Sl) (x5 : Sl) (x15 : Int) (x16 : Int) (lo : Nat) (H : AH) (κ : Sl → AH → Option ρ) : Option ρ := run G k ρ 24 1 [(.sl x0), (.sl x1), (.sl x5), (.int .i64 x15), (.int .i64 x16)] lo H (partition_Meet_r κ)
noncomputable def green_firsts_r {ρ : Type} (κ : Sl → AH → Option ρ) (v : AV) (H : AH) : Option ρ := castTy (.one (.lf .sl)) v fun v' => match v' with | .sl r0 => κ r0 H | _ => none
noncomputable def green_firsts {ρ : Type} (k : Nat) (x0 : Sl) (lo : Nat) (H : AH) (κ : Sl → AH → Option ρ) : Option ρ := run G k ρ 25 0 [(.sl x0)] lo H (green_firsts_r κ)
noncomputable def green_firsts_1 {ρ : Type} (k : Nat) (x3 : Sl) (x6 : Sl) (x7 : Int) (x8 : Int) (lo : Nat) (H : AH) (κ : Sl → AH → Option ρ) : Option ρ := run G k ρ 25 1 [(.sl x3), (.sl x6), (.int .i64 x7), (.int .i64 x8)] lo H (green_firsts_r κ)
noncomputable def green_firsts_2 {ρ : Type} (k : Nat) (x3 : Sl) (x6 : Sl) (x7 : Int) (x8 : Int) (lo : Nat) (H : AH) (κ : Sl → AH → Option ρ) : Option ρ := run G k ρ 25 2 [(.sl x3), (.sl x6), (.int .i64 x7), (.int .i64 x8)] lo H (green_firsts_r κ)
noncomputable def green_classes_r {ρ : Type} (κ : (Sl × Sl × Sl × Sl × Sl) → AH → Option ρ) (v : AV) (H : AH) : Option ρ := castTy (.one (.agg [.sl, .sl, .sl, .sl, .sl])) v fun v' => match v' with | .agg [.sl r0, .sl r1, .sl r2, .sl r3, .sl r4] => κ (r0, r1, r2, r3, r4) H | _ => none
noncomputable def green_classes {ρ : Type} (k : Nat) (x0 : Sl) (lo : Nat) (H : AH) (κ : (Sl × Sl × Sl × Sl × Sl) → AH → Option ρ) : Option ρ := run G k ρ 26 0 [(.sl x0)] lo H (green_classes_r κ)
noncomputable def green_classes_1 {ρ : Type} (k : Nat) (x2 : Option Pt) (x3 : Sl) (x4 : Option Pt) (x5 : Sl) (x34 : Sl) (x35 : Int) (x36 : Int) (lo : Nat) (H : AH) (κ : (Sl × Sl × Sl × Sl × Sl) → AH → Option ρ) : Option ρ := run G k ρ 26 1 [(.ptr x2), (.sl x3), (.ptr x4), (.sl x5), (.sl x34), (.int .i64 x35), (.int .i64 x36)] lo H (green_classes_r κ)
noncomputable def green_classes_2 {ρ : Type} (k : Nat) (x2 : Option Pt) (x3 : Sl) (x4 : Option Pt) (x5 : Sl) (x6 : Int) (x7 : Int) (x34 : Sl) (x35 : Int) (x36 : Int) (x48 : Sl) (x49 : Int) (x50 : Int) (lo : Nat) (H : AH) (κ : (Sl × Sl × Sl × Sl × Sl) → AH → Option ρ) : Option ρ := run G k ρ 26 2 [(.ptr x2), (.sl x3), (.ptr x4), (.sl x5), (.int .i64 x6), (.int .i64 x7), (.sl x34), (.int .i64 x35), (.int .i64 x36), (.sl x48), (.int .i64 x49), (.int .i64 x50)] lo H (green_classes_r κ)
noncomputable def green_Classes_r {ρ : Type} (κ : (Sl × Sl × Sl × Sl × Sl) → AH → Option ρ) (v : AV) (H : AH) : Option ρ := castTy (.one (.agg [.sl, .sl, .sl, .sl, .sl])) v fun v' => match v' with | .agg [.sl r0, .sl r1, .sl r2, .sl r3, .sl r4] => κ (r0, r1, r2, r3, r4) H | _ => none
noncomputable def green_Classes {ρ : Type} (k : Nat) (x0 : Sl) (lo : Nat) (H : AH) (κ : (Sl × Sl × Sl × Sl × Sl) → AH → Option ρ) : Option ρ := run G k ρ 27 0 [(.sl x0)] lo H (green_Classes_r κ)
noncomputable def rees_class_r {ρ : Type} (κ : (Sl × Sl × Sl × Sl × Sl × Sl × Bool × Int) → AH → Option ρ) (v : AV) (H : AH) : Option ρ := castTy (.tup [(.agg [.sl, .sl, .sl, .sl, .sl]), (.lf .sl), (.lf .bool), (.lf (.int .i64))]) v fun v' => match v' with | .tup [.agg [.sl r0, .sl r1, .sl r2, .sl r3, .sl r4], .sl r5, .bool r6, .int _ r7] => κ (r0, r1, r2, r3, r4, r5, r6, r7) H | _ => none
noncomputable def rees_class {ρ : Type} (k : Nat) (x0 : Sl) (x1 : Int) (lo : Nat) (H : AH) (κ : (Sl × Sl × Sl × Sl × Sl × Sl × Bool × Int) → AH → Option ρ) : Option ρ := run G k ρ 28 0 [(.sl x0), (.int .i64 x1)] lo H (rees_class_r κ)
noncomputable def rees_class_1 {ρ : Type} (k : Nat) (x1 : Int) (x4 : Option Pt) (x5 : Sl) (x30 : Sl) (x31 : Int) (x32 : Int) (lo : Nat) (H : AH) (κ : (Sl × Sl × Sl × Sl × Sl × Sl × Bool × Int) → AH → Option ρ) : Option ρ := run G k ρ 28 1 [(.int .i64 x1), (.ptr x4), (.sl x5), (.sl x30), (.int .i64 x31), (.int .i64 x32)] lo H (rees_class_r κ)
noncomputable def rees_class_2 {ρ : Type} (k : Nat) (x1 : Int) (x4 : Option Pt) (x5 : Sl) (x30 : Sl) (x31 : Int) (x32 : Int) (lo : Nat) (H : AH) (κ : (Sl × Sl × Sl × Sl × Sl × Sl × Bool × Int) → AH → Option ρ) : Option ρ := run G k ρ 28 2 [(.int .i64 x1), (.ptr x4), (.sl x5), (.sl x30), (.int .i64 x31), (.int .i64 x32)] lo H (rees_class_r κ)
noncomputable def rees_class_3 {ρ : Type} (k : Nat) (x1 : Int) (x4 : Option Pt) (x5 : Sl) (x6 : Bool) (x47 : Int) (x48 : Int) (lo : Nat) (H : AH) (κ : (Sl × Sl × Sl × Sl × Sl × Sl × Bool × Int) → AH → Option ρ) : Option ρ := run G k ρ 28 3 [(.int .i64 x1), (.ptr x4), (.sl x5), (.bool x6), (.int .i64 x47), (.int .i64 x48)] lo H (rees_class_r κ)
noncomputable def rees_Check_r {ρ : Type} (κ : Bool → AH → Option ρ) (v : AV) (H : AH) : Option ρ := castTy (.one (.lf .bool)) v fun v' => match v' with | .bool r0 => κ r0 H | _ => none
noncomputable def rees_Check {ρ : Type} (k : Nat) (x0 : Sl) (x1 : Int) (x2_0 : Sl) (x2_1 : Int) (x2_2 : Int) (x2_3 : Sl) (x2_4 : Bool) (x3 : Sl) (lo : Nat) (H : AH) (κ : Bool → AH → Option ρ) : Option ρ := run G k ρ 29 0 [(.sl x0), (.int .i64 x1), (.agg [(.sl x2_0), (.int .i64 x2_1), (.int .i64 x2_2), (.sl x2_3), (.bool x2_4)]), (.sl x3)] lo H (rees_Check_r κ)
noncomputable def rees_Check_1 {ρ : Type} (k : Nat) (x0 : Sl) (x3 : Sl) (x6 : Option Pt) (x10 : Sl) (x13 : Sl) (x65 : Sl) (x66 : Int) (x67 : Int) (lo : Nat) (H : AH) (κ : Bool → AH → Option ρ) : Option ρ := run G k ρ 29 1 [(.sl x0), (.sl x3), (.ptr x6), (.sl x10), (.sl x13), (.sl x65), (.int .i64 x66), (.int .i64 x67)] lo H (rees_Check_r κ)
noncomputable def rees_Check_2 {ρ : Type} (k : Nat) (x0 : Sl) (x3 : Sl) (x6 : Option Pt) (x10 : Sl) (x13 : Sl) (x16 : Sl) (x78 : Sl) (x79 : Int) (x80 : Int) (lo : Nat) (H : AH) (κ : Bool → AH → Option ρ) : Option ρ := run G k ρ 29 2 [(.sl x0), (.sl x3), (.ptr x6), (.sl x10), (.sl x13), (.sl x16), (.sl x78), (.int .i64 x79), (.int .i64 x80)] lo H (rees_Check_r κ)
noncomputable def rees_Check_3 {ρ : Type} (k : Nat) (x0 : Sl) (x3 : Sl) (x6 : Option Pt) (x10 : Sl) (x13 : Sl) (x16 : Sl) (x78 : Sl) (x79 : Int) (x80 : Int) (lo : Nat) (H : AH) (κ : Bool → AH → Option ρ) : Option ρ := run G k ρ 29 3 [(.sl x0), (.sl x3), (.ptr x6), (.sl x10), (.sl x13), (.sl x16), (.sl x78), (.int .i64 x79), (.int .i64 x80)] lo H (rees_Check_r κ)
noncomputable def rees_Check_4 {ρ : Type} (k : Nat) (x0 : Sl) (x3 : Sl) (x6 : Option Pt) (x10 : Sl) (x13 : Sl) (x112 : Sl) (x113 : Int) (x114 : Int) (lo : Nat) (H : AH) (κ : Bool → AH → Option ρ) : Option ρ := run G k ρ 29 4 [(.sl x0), (.sl x3), (.ptr x6), (.sl x10), (.sl x13), (.sl x112), (.int .i64 x113), (.int .i64 x114)] lo H (rees_Check_r κ)
noncomputable def rees_Check_5 {ρ : Type} (k : Nat) (x0 : Sl) (x3 : Sl) (x6 : Option Pt) (x10 : Sl) (x13 : Sl) (x20 : Int) (x112 : Sl) (x113 : Int) (x114 : Int) (x118 : Sl) (x119 : Int) (x120 : Int) (lo : Nat) (H : AH) (κ : Bool → AH → Option ρ) : Option ρ := run G k ρ 29 5 [(.sl x0), (.sl x3), (.ptr x6), (.sl x10), (.sl x13), (.int .i64 x20), (.sl x112), (.int .i64 x113), (.int .i64 x114), (.sl x118), (.int .i64 x119), (.int .i64 x120)] lo H (rees_Check_r κ)
noncomputable def rees_Check_6 {ρ : Type} (k : Nat) (x0 : Sl) (x3 : Sl) (x6 : Option Pt) (x10 : Sl) (x13 : Sl) (x20 : Int) (x22 : Int) (x23 : Int) (x112 : Sl) (x113 : Int) (x114 : Int) (x118 : Sl) (x119 : Int) (x120 : Int) (lo : Nat) (H : AH) (κ : Bool → AH → Option ρ) : Option ρ := run G k ρ 29 6 [(.sl x0), (.sl x3), (.ptr x6), (.sl x10), (.sl x13), (.int .i64 x20), (.int .i64 x22), (.int .i64 x23), (.sl x112), (.int .i64 x113), (.int .i64 x114), (.sl x118), (.int .i64 x119), (.int .i64 x120)] lo H (rees_Check_r κ)
noncomputable def semigroupref14_Associative_r {ρ : Type} (κ : (Int × Int × Int × Int) → AH → Option ρ) (v : AV) (H : AH) : Option ρ := castTy (.tup [(.lf (.int .i64)), (.lf (.int .i64)), (.lf (.int .i64)), (.lf (.int .i64))]) v fun v' => match v' with | .tup [.int _ r0, .int _ r1, .int _ r2, .int _ r3] => κ (r0, r1, r2, r3) H | _ => none
noncomputable def semigroupref14_Associative {ρ : Type} (k : Nat) (x0 : Sl) (lo : Nat) (H : AH) (κ : (Int × Int × Int × Int) → AH → Option ρ) : Option ρ := run G k ρ 30 0 [(.sl x0)] lo H (semigroupref14_Associative_r κ)
noncomputable def semigroupref14_Associative_1 {ρ : Type} (k : Nat) (x0 : Sl) (x16 : Int) (x17 : Int) (lo : Nat) (H : AH) (κ : (Int × Int × Int × Int) → AH → Option ρ) : Option ρ := run G k ρ 30 1 [(.sl x0), (.int .i64 x16), (.int .i64 x17)] lo H (semigroupref14_Associative_r κ)
noncomputable def semigroupref14_Associative_2 {ρ : Type} (k : Nat) (x0 : Sl) (x7 : Int) (x16 : Int) (x17 : Int) (x21 : Int) (x22 : Int) (lo : Nat) (H : AH) (κ : (Int × Int × Int × Int) → AH → Option ρ) : Option ρ := run G k ρ 30 2 [(.sl x0), (.int .i64 x7), (.int .i64 x16), (.int .i64 x17), (.int .i64 x21), (.int .i64 x22)] lo H (semigroupref14_Associative_r κ)
noncomputable def semigroupref14_Associative_3 {ρ : Type} (k : Nat) (x0 : Sl) (x7 : Int) (x8 : Int) (x16 : Int) (x17 : Int) (x21 : Int) (x22 : Int) (x26 : Int) (x27 : Int) (lo : Nat) (H : AH) (κ : (Int × Int × Int × Int) → AH → Option ρ) : Option ρ := run G k ρ 30 3 [(.sl x0), (.int .i64 x7), (.int .i64 x8), (.int .i64 x16), (.int .i64 x17), (.int .i64 x21), (.int .i64 x22), (.int .i64 x26), (.int .i64 x27)] lo H (semigroupref14_Associative_r κ)
noncomputable def semigroupref14_Validate_r {ρ : Type} (κ : Int → AH → Option ρ) (v : AV) (H : AH) : Option ρ := castTy (.one (.lf (.int .i64))) v fun v' => match v' with | .int _ r0 => κ r0 H | _ => none
noncomputable def semigroupref14_Validate {ρ : Type} (k : Nat) (x0 : Sl) (lo : Nat) (H : AH) (κ : Int → AH → Option ρ) : Option ρ := run G k ρ 31 0 [(.sl x0)] lo H (semigroupref14_Validate_r κ)
noncomputable def semigroupref15_Right_r {ρ : Type} (κ : Sl → AH → Option ρ) (v : AV) (H : AH) : Option ρ := castTy (.one (.lf .sl)) v fun v' => match v' with | .sl r0 => κ r0 H | _ => none
noncomputable def semigroupref15_Right {ρ : Type} (k : Nat) (x0 : Sl) (x1 : Int) (lo : Nat) (H : AH) (κ : Sl → AH → Option ρ) : Option ρ := run G k ρ 32 0 [(.sl x0), (.int .i64 x1)] lo H (semigroupref15_Right_r κ)
noncomputable def semigroupref15_Right_1 {ρ : Type} (k : Nat) (x5 : Sl) (x17 : Sl) (x18 : Int) (x19 : Int) (lo : Nat) (H : AH) (κ : Sl → AH → Option ρ) : Option ρ := run G k ρ 32 1 [(.sl x5), (.sl x17), (.int .i64 x18), (.int .i64 x19)] lo H (semigroupref15_Right_r κ)
noncomputable def semigroupref15_Left_r {ρ : Type} (κ : Sl → AH → Option ρ) (v : AV) (H : AH) : Option ρ := castTy (.one (.lf .sl)) v fun v' => match v' with | .sl r0 => κ r0 H | _ => none
noncomputable def semigroupref15_Left {ρ : Type} (k : Nat) (x0 : Sl) (x1 : Int) (lo : Nat) (H : AH) (κ : Sl → AH → Option ρ) : Option ρ := run G k ρ 33 0 [(.sl x0), (.int .i64 x1)] lo H (semigroupref15_Left_r κ)
noncomputable def semigroupref15_Left_1 {ρ : Type} (k : Nat) (x0 : Sl) (x1 : Int) (x5 : Sl) (x14 : Int) (x15 : Int) (lo : Nat) (H : AH) (κ : Sl → AH → Option ρ) : Option ρ := run G k ρ 33 1 [(.sl x0), (.int .i64 x1), (.sl x5), (.int .i64 x14), (.int .i64 x15)] lo H (semigroupref15_Left_r κ)
noncomputable def semigroupref15_Both_r {ρ : Type} (κ : Sl → AH → Option ρ) (v : AV) (H : AH) : Option ρ := castTy (.one (.lf .sl)) v fun v' => match v' with | .sl r0 => κ r0 H | _ => none
noncomputable def semigroupref15_Both {ρ : Type} (k : Nat) (x0 : Sl) (x1 : Int) (lo : Nat) (H : AH) (κ : Sl → AH → Option ρ) : Option ρ := run G k ρ 34 0 [(.sl x0), (.int .i64 x1)] lo H (semigroupref15_Both_r κ)
noncomputable def semigroupref15_Both_1 {ρ : Type} (k : Nat) (x0 : Sl) (x5 : Sl) (x15 : Sl) (x16 : Int) (x17 : Int) (lo : Nat) (H : AH) (κ : Sl → AH → Option ρ) : Option ρ := run G k ρ 34 1 [(.sl x0), (.sl x5), (.sl x15), (.int .i64 x16), (.int .i64 x17)] lo H (semigroupref15_Both_r κ)
noncomputable def semigroupref15_Both_2 {ρ : Type} (k : Nat) (x0 : Sl) (x5 : Sl) (x15 : Sl) (x16 : Int) (x17 : Int) (x30 : Sl) (x31 : Int) (x32 : Int) (lo : Nat) (H : AH) (κ : Sl → AH → Option ρ) : Option ρ := run G k ρ 34 2 [(.sl x0), (.sl x5), (.sl x15), (.int .i64 x16), (.int .i64 x17), (.sl x30), (.int .i64 x31), (.int .i64 x32)] lo H (semigroupref15_Both_r κ)
noncomputable def semigroupref15_Both_3 {ρ : Type} (k : Nat) (x0 : Sl) (x5 : Sl) (x15 : Sl) (x16 : Int) (x17 : Int) (lo : Nat) (H : AH) (κ : Sl → AH → Option ρ) : Option ρ := run G k ρ 34 3 [(.sl x0), (.sl x5), (.sl x15), (.int .i64 x16), (.int .i64 x17)] lo H (semigroupref15_Both_r κ)
noncomputable def semigroupref15_ideals_r {ρ : Type} (κ : Sl → AH → Option ρ) (v : AV) (H : AH) : Option ρ := castTy (.one (.lf .sl)) v fun v' => match v' with | .sl r0 => κ r0 H | _ => none
noncomputable def semigroupref15_ideals {ρ : Type} (k : Nat) (x0 : Sl) (x1 : Int) (lo : Nat) (H : AH) (κ : Sl → AH → Option ρ) : Option ρ := run G k ρ 35 0 [(.sl x0), (.int .u8 x1)] lo H (semigroupref15_ideals_r κ)
noncomputable def semigroupref15_ideals_1 {ρ : Type} (k : Nat) (x0 : Sl) (x1 : Int) (x5 : Sl) (x8 : Int) (x9 : Int) (lo : Nat) (H : AH) (κ : Sl → AH → Option ρ) : Option ρ := run G k ρ 35 1 [(.sl x0), (.int .u8 x1), (.sl x5), (.int .i64 x8), (.int .i64 x9)] lo H (semigroupref15_ideals_r κ)
noncomputable def semigroupref15_ideals_2 {ρ : Type} (k : Nat) (x0 : Sl) (x1 : Int) (x5 : Sl) (x8 : Int) (x9 : Int) (lo : Nat) (H : AH) (κ : Sl → AH → Option ρ) : Option ρ := run G k ρ 35 2 [(.sl x0), (.int .u8 x1), (.sl x5), (.int .i64 x8), (.int .i64 x9)] lo H (semigroupref15_ideals_r κ)
noncomputable def semigroupref03_Canonical_r {ρ : Type} (κ : Sl → AH → Option ρ) (v : AV) (H : AH) : Option ρ := castTy (.one (.lf .sl)) v fun v' => match v' with | .sl r0 => κ r0 H | _ => none
noncomputable def semigroupref03_Canonical {ρ : Type} (k : Nat) (x0 : Sl) (lo : Nat) (H : AH) (κ : Sl → AH → Option ρ) : Option ρ := run G k ρ 36 0 [(.sl x0)] lo H (semigroupref03_Canonical_r κ)
noncomputable def semigroupref03_Canonical_1 {ρ : Type} (k : Nat) (x3 : Sl) (x4 : Int) (x5 : Option Nat) (x17 : Sl) (x18 : Int) (x19 : Int) (lo : Nat) (H : AH) (κ : Sl → AH → Option ρ) : Option ρ := run G k ρ 36 1 [(.sl x3), (.int .i64 x4), (.map x5), (.sl x17), (.int .i64 x18), (.int .i64 x19)] lo H (semigroupref03_Canonical_r κ)
noncomputable def semigroupref03_Canonical_2 {ρ : Type} (k : Nat) (x3 : Sl) (x4 : Int) (x5 : Option Nat) (x6 : Int) (x8 : Int) (x17 : Sl) (x18 : Int) (x19 : Int) (lo : Nat) (H : AH) (κ : Sl → AH → Option ρ) : Option ρ := run G k ρ 36 2 [(.sl x3), (.int .i64 x4), (.map x5), (.int .i64 x6), (.int .i64 x8), (.sl x17), (.int .i64 x18), (.int .i64 x19)] lo H (semigroupref03_Canonical_r κ)
noncomputable def semigroupref15_mutual_r {ρ : Type} (κ : Sl → AH → Option ρ) (v : AV) (H : AH) : Option ρ := castTy (.one (.lf .sl)) v fun v' => match v' with | .sl r0 => κ r0 H | _ => none
noncomputable def semigroupref15_mutual {ρ : Type} (k : Nat) (x0 : Sl) (lo : Nat) (H : AH) (κ : Sl → AH → Option ρ) : Option ρ := run G k ρ 37 0 [(.sl x0)] lo H (semigroupref15_mutual_r κ)
noncomputable def semigroupref15_mutual_1 {ρ : Type} (k : Nat) (x0 : Sl) (x3 : Sl) (x10 : Int) (x11 : Int) (lo : Nat) (H : AH) (κ : Sl → AH → Option ρ) : Option ρ := run G k ρ 37 1 [(.sl x0), (.sl x3), (.int .i64 x10), (.int .i64 x11)] lo H (semigroupref15_mutual_r κ)
noncomputable def semigroupref15_mutual_2 {ρ : Type} (k : Nat) (x0 : Sl) (x3 : Sl) (x4 : Int) (x5 : Int) (x10 : Int) (x11 : Int) (lo : Nat) (H : AH) (κ : Sl → AH → Option ρ) : Option ρ := run G k ρ 37 2 [(.sl x0), (.sl x3), (.int .i64 x4), (.int .i64 x5), (.int .i64 x10), (.int .i64 x11)] lo H (semigroupref15_mutual_r κ)
noncomputable def semigroupref15_mutual_3 {ρ : Type} (k : Nat) (x0 : Sl) (x3 : Sl) (x10 : Int) (x11 : Int) (lo : Nat) (H : AH) (κ : Sl → AH → Option ρ) : Option ρ := run G k ρ 37 3 [(.sl x0), (.sl x3), (.int .i64 x10), (.int .i64 x11)] lo H (semigroupref15_mutual_r κ)
noncomputable def semigroupref03_Meet_r {ρ : Type} (κ : Sl → AH → Option ρ) (v : AV) (H : AH) : Option ρ := castTy (.one (.lf .sl)) v fun v' => match v' with | .sl r0 => κ r0 H | _ => none
noncomputable def semigroupref03_Meet {ρ : Type} (k : Nat) (x0 : Sl) (x1 : Sl) (lo : Nat) (H : AH) (κ : Sl → AH → Option ρ) : Option ρ := run G k ρ 38 0 [(.sl x0), (.sl x1)] lo H (semigroupref03_Meet_r κ)
noncomputable def semigroupref03_Meet_1 {ρ : Type} (k : Nat) (x0 : Sl) (x1 : Sl) (x5 : Sl) (x11 : Int) (x12 : Int) (lo : Nat) (H : AH) (κ : Sl → AH → Option ρ) : Option ρ := run G k ρ 38 1 [(.sl x0), (.sl x1), (.sl x5), (.int .i64 x11), (.int .i64 x12)] lo H (semigroupref03_Meet_r κ)
noncomputable def semigroupref03_Count_r {ρ : Type} (κ : Int → AH → Option ρ) (v : AV) (H : AH) : Option ρ := castTy (.one (.lf (.int .i64))) v fun v' => match v' with | .int _ r0 => κ r0 H | _ => none
noncomputable def semigroupref03_Count {ρ : Type} (k : Nat) (x0 : Sl) (lo : Nat) (H : AH) (κ : Int → AH → Option ρ) : Option ρ := run G k ρ 39 0 [(.sl x0)] lo H (semigroupref03_Count_r κ)
noncomputable def semigroupref03_Count_1 {ρ : Type} (k : Nat) (x3 : Int) (x6 : Sl) (x7 : Int) (x8 : Int) (lo : Nat) (H : AH) (κ : Int → AH → Option ρ) : Option ρ := run G k ρ 39 1 [(.int .i64 x3), (.sl x6), (.int .i64 x7), (.int .i64 x8)] lo H (semigroupref03_Count_r κ)
noncomputable def semigroupref03_Classes_r {ρ : Type} (κ : Sl → AH → Option ρ) (v : AV) (H : AH) : Option ρ := castTy (.one (.lf .sl)) v fun v' => match v' with | .sl r0 => κ r0 H | _ => none
noncomputable def semigroupref03_Classes {ρ : Type} (k : Nat) (x0 : Sl) (lo : Nat) (H : AH) (κ : Sl → AH → Option ρ) : Option ρ := run G k ρ 40 0 [(.sl x0)] lo H (semigroupref03_Classes_r κ)
noncomputable def semigroupref03_Classes_1 {ρ : Type} (k : Nat) (x3 : Sl) (x9 : Sl) (x10 : Int) (x11 : Int) (lo : Nat) (H : AH) (κ : Sl → AH → Option ρ) : Option ρ := run G k ρ 40 1 [(.sl x3), (.sl x9), (.int .i64 x10), (.int .i64 x11)] lo H (semigroupref03_Classes_r κ)
noncomputable def semigroupref15_Classes_r {ρ : Type} (κ : (Sl × Sl × Sl × Sl × Sl) → AH → Option ρ) (v : AV) (H : AH) : Option ρ := castTy (.one (.agg [.sl, .sl, .sl, .sl, .sl])) v fun v' => match v' with | .agg [.sl r0, .sl r1, .sl r2, .sl r3, .sl r4] => κ (r0, r1, r2, r3, r4) H | _ => none
noncomputable def semigroupref15_Classes {ρ : Type} (k : Nat) (x0 : Sl) (lo : Nat) (H : AH) (κ : (Sl × Sl × Sl × Sl × Sl) → AH → Option ρ) : Option ρ := run G k ρ 41 0 [(.sl x0)] lo H (semigroupref15_Classes_r κ)
noncomputable def semigroupref15_Classes_1 {ρ : Type} (k : Nat) (x2 : Option Pt) (x3 : Option Pt) (x4 : Sl) (x5 : Sl) (x32 : Sl) (x33 : Int) (x34 : Int) (lo : Nat) (H : AH) (κ : (Sl × Sl × Sl × Sl × Sl) → AH → Option ρ) : Option ρ := run G k ρ 41 1 [(.ptr x2), (.ptr x3), (.sl x4), (.sl x5), (.sl x32), (.int .i64 x33), (.int .i64 x34)] lo H (semigroupref15_Classes_r κ)
noncomputable def semigroupref15_Classes_2 {ρ : Type} (k : Nat) (x2 : Option Pt) (x3 : Option Pt) (x4 : Sl) (x5 : Sl) (x7 : Sl) (x8 : Sl) (x32 : Sl) (x33 : Int) (x34 : Int) (x38 : Sl) (x39 : Int) (x40 : Int) (lo : Nat) (H : AH) (κ : (Sl × Sl × Sl × Sl × Sl) → AH → Option ρ) : Option ρ := run G k ρ 41 2 [(.ptr x2), (.ptr x3), (.sl x4), (.sl x5), (.sl x7), (.sl x8), (.sl x32), (.int .i64 x33), (.int .i64 x34), (.sl x38), (.int .i64 x39), (.int .i64 x40)] lo H (semigroupref15_Classes_r κ)
noncomputable def semigroupref15_Minimal_r {ρ : Type} (κ : Bool → AH → Option ρ) (v : AV) (H : AH) : Option ρ := castTy (.one (.lf .bool)) v fun v' => match v' with | .bool r0 => κ r0 H | _ => none
noncomputable def semigroupref15_Minimal {ρ : Type} (k : Nat) (x0_0 : Sl) (x0_1 : Sl) (x0_2 : Sl) (x0_3 : Sl) (x0_4 : Sl) (x1 : Int) (lo : Nat) (H : AH) (κ : Bool → AH → Option ρ) : Option ρ := run G k ρ 42 0 [(.agg [(.sl x0_0), (.sl x0_1), (.sl x0_2), (.sl x0_3), (.sl x0_4)]), (.int .i64 x1)] lo H (semigroupref15_Minimal_r κ)
noncomputable def semigroupref15_Minimal_1 {ρ : Type} (k : Nat) (x1 : Int) (x2 : Option Pt) (x8 : Int) (x9 : Int) (lo : Nat) (H : AH) (κ : Bool → AH → Option ρ) : Option ρ := run G k ρ 42 1 [(.int .i64 x1), (.ptr x2), (.int .i64 x8), (.int .i64 x9)] lo H (semigroupref15_Minimal_r κ)
noncomputable def semigroupref17_class_r {ρ : Type} (κ : (Sl × Bool × Int) → AH → Option ρ) (v : AV) (H : AH) : Option ρ := castTy (.tup [(.lf .sl), (.lf .bool), (.lf (.int .i64))]) v fun v' => match v' with | .tup [.sl r0, .bool r1, .int _ r2] => κ (r0, r1, r2) H | _ => none
noncomputable def semigroupref17_class {ρ : Type} (k : Nat) (x0 : Sl) (x1 : Int) (lo : Nat) (H : AH) (κ : (Sl × Bool × Int) → AH → Option ρ) : Option ρ := run G k ρ 43 0 [(.sl x0), (.int .i64 x1)] lo H (semigroupref17_class_r κ)
noncomputable def semigroupref14_Valid_r {ρ : Type} (κ : Bool → AH → Option ρ) (v : AV) (H : AH) : Option ρ := castTy (.one (.lf .bool)) v fun v' => match v' with | .bool r0 => κ r0 H | _ => none
noncomputable def semigroupref14_Valid {ρ : Type} (k : Nat) (x0 : Sl) (lo : Nat) (H : AH) (κ : Bool → AH → Option ρ) : Option ρ := run G k ρ 44 0 [(.sl x0)] lo H (semigroupref14_Valid_r κ)
noncomputable def semigroupref14_Identity_r {ρ : Type} (κ : Int → AH → Option ρ) (v : AV) (H : AH) : Option ρ := castTy (.one (.lf (.int .i64))) v fun v' => match v' with | .int _ r0 => κ r0 H | _ => none
noncomputable def semigroupref14_Identity {ρ : Type} (k : Nat) (x0 : Sl) (lo : Nat) (H : AH) (κ : Int → AH → Option ρ) : Option ρ := run G k ρ 45 0 [(.sl x0)] lo H (semigroupref14_Identity_r κ)
noncomputable def semigroupref14_Identity_1 {ρ : Type} (k : Nat) (x0 : Sl) (x7 : Int) (x8 : Int) (lo : Nat) (H : AH) (κ : Int → AH → Option ρ) : Option ρ := run G k ρ 45 1 [(.sl x0), (.int .i64 x7), (.int .i64 x8)] lo H (semigroupref14_Identity_r κ)
noncomputable def semigroupref14_Identity_2 {ρ : Type} (k : Nat) (x0 : Sl) (x3 : Int) (x4 : Bool) (x7 : Int) (x8 : Int) (x12 : Int) (x13 : Int) (lo : Nat) (H : AH) (κ : Int → AH → Option ρ) : Option ρ := run G k ρ 45 2 [(.sl x0), (.int .i64 x3), (.bool x4), (.int .i64 x7), (.int .i64 x8), (.int .i64 x12), (.int .i64 x13)] lo H (semigroupref14_Identity_r κ)
noncomputable def semigroupref16_Inverse_r {ρ : Type} (κ : Int → AH → Option ρ) (v : AV) (H : AH) : Option ρ := castTy (.one (.lf (.int .i64))) v fun v' => match v' with | .int _ r0 => κ r0 H | _ => none
noncomputable def semigroupref16_Inverse {ρ : Type} (k : Nat) (x0 : Sl) (x1 : Int) (lo : Nat) (H : AH) (κ : Int → AH → Option ρ) : Option ρ := run G k ρ 46 0 [(.sl x0), (.int .i64 x1)] lo H (semigroupref16_Inverse_r κ)
noncomputable def semigroupref16_Inverse_1 {ρ : Type} (k : Nat) (x0 : Sl) (x1 : Int) (x5 : Int) (x10 : Int) (x11 : Int) (lo : Nat) (H : AH) (κ : Int → AH → Option ρ) : Option ρ := run G k ρ 46 1 [(.sl x0), (.int .i64 x1), (.int .i64 x5), (.int .i64 x10), (.int .i64 x11)] lo H (semigroupref16_Inverse_r κ)
noncomputable def semigroupref16_IsGroup_r {ρ : Type} (κ : Bool → AH → Option ρ) (v : AV) (H : AH) : Option ρ := castTy (.one (.lf .bool)) v fun v' => match v' with | .bool r0 => κ r0 H | _ => none
noncomputable def semigroupref16_IsGroup {ρ : Type} (k : Nat) (x0 : Sl) (lo : Nat) (H : AH) (κ : Bool → AH → Option ρ) : Option ρ := run G k ρ 47 0 [(.sl x0)] lo H (semigroupref16_IsGroup_r κ)
noncomputable def semigroupref16_IsGroup_1 {ρ : Type} (k : Nat) (x0 : Sl) (x13 : Int) (x14 : Int) (lo : Nat) (H : AH) (κ : Bool → AH → Option ρ) : Option ρ := run G k ρ 47 1 [(.sl x0), (.int .i64 x13), (.int .i64 x14)] lo H (semigroupref16_IsGroup_r κ)
noncomputable def semigroupref17_Validate_r {ρ : Type} (κ : Int → AH → Option ρ) (v : AV) (H : AH) : Option ρ := castTy (.one (.lf (.int .i64))) v fun v' => match v' with | .int _ r0 => κ r0 H | _ => none
noncomputable def semigroupref17_Validate {ρ : Type} (k : Nat) (x0_0 : Sl) (x0_1 : Int) (x0_2 : Int) (x0_3 : Sl) (x0_4 : Bool) (lo : Nat) (H : AH) (κ : Int → AH → Option ρ) : Option ρ := run G k ρ 48 0 [(.agg [(.sl x0_0), (.int .i64 x0_1), (.int .i64 x0_2), (.sl x0_3), (.bool x0_4)])] lo H (semigroupref17_Validate_r κ)
noncomputable def semigroupref17_Validate_1 {ρ : Type} (k : Nat) (x1 : Option Pt) (x31 : Sl) (x32 : Int) (x33 : Int) (lo : Nat) (H : AH) (κ : Int → AH → Option ρ) : Option ρ := run G k ρ 48 1 [(.ptr x1), (.sl x31), (.int .i64 x32), (.int .i64 x33)] lo H (semigroupref17_Validate_r κ)
noncomputable def semigroupref17_Validate_2 {ρ : Type} (k : Nat) (x1 : Option Pt) (x31 : Sl) (x32 : Int) (x33 : Int) (x42 : Sl) (x43 : Int) (x44 : Int) (lo : Nat) (H : AH) (κ : Int → AH → Option ρ) : Option ρ := run G k ρ 48 2 [(.ptr x1), (.sl x31), (.int .i64 x32), (.int .i64 x33), (.sl x42), (.int .i64 x43), (.int .i64 x44)] lo H (semigroupref17_Validate_r κ)
noncomputable def semigroupref17_Validate_3 {ρ : Type} (k : Nat) (x1 : Option Pt) (x7 : Int) (lo : Nat) (H : AH) (κ : Int → AH → Option ρ) : Option ρ := run G k ρ 48 3 [(.ptr x1), (.int .i64 x7)] lo H (semigroupref17_Validate_r κ)
noncomputable def semigroupref17_base_r {ρ : Type} (κ : Int → AH → Option ρ) (v : AV) (H : AH) : Option ρ := castTy (.one (.lf (.int .i64))) v fun v' => match v' with | .int _ r0 => κ r0 H | _ => none
noncomputable def semigroupref17_base {ρ : Type} (k : Nat) (x0_0 : Sl) (x0_1 : Int) (x0_2 : Int) (x0_3 : Sl) (x0_4 : Bool) (lo : Nat) (H : AH) (κ : Int → AH → Option ρ) : Option ρ := run G k ρ 49 0 [(.agg [(.sl x0_0), (.int .i64 x0_1), (.int .i64 x0_2), (.sl x0_3), (.bool x0_4)])] lo H (semigroupref17_base_r κ)
noncomputable def semigroupref17_Size_r {ρ : Type} (κ : Int → AH → Option ρ) (v : AV) (H : AH) : Option ρ := castTy (.one (.lf (.int .i64))) v fun v' => match v' with | .int _ r0 => κ r0 H | _ => none
noncomputable def semigroupref17_Size {ρ : Type} (k : Nat) (x0_0 : Sl) (x0_1 : Int) (x0_2 : Int) (x0_3 : Sl) (x0_4 : Bool) (lo : Nat) (H : AH) (κ : Int → AH → Option ρ) : Option ρ := run G k ρ 50 0 [(.agg [(.sl x0_0), (.int .i64 x0_1), (.int .i64 x0_2), (.sl x0_3), (.bool x0_4)])] lo H (semigroupref17_Size_r κ)
noncomputable def semigroupref03_Set_r {ρ : Type} (κ : Sl → AH → Option ρ) (v : AV) (H : AH) : Option ρ := castTy (.one (.lf .sl)) v fun v' => match v' with | .sl r0 => κ r0 H | _ => none
noncomputable def semigroupref03_Set {ρ : Type} (k : Nat) (x0 : Sl) (x1 : Int) (lo : Nat) (H : AH) (κ : Sl → AH → Option ρ) : Option ρ := run G k ρ 51 0 [(.sl x0), (.int .i64 x1)] lo H (semigroupref03_Set_r κ)
noncomputable def semigroupref03_Set_1 {ρ : Type} (k : Nat) (x1 : Int) (x5 : Sl) (x10 : Sl) (x11 : Int) (x12 : Int) (lo : Nat) (H : AH) (κ : Sl → AH → Option ρ) : Option ρ := run G k ρ 51 1 [(.int .i64 x1), (.sl x5), (.sl x10), (.int .i64 x11), (.int .i64 x12)] lo H (semigroupref03_Set_r κ)
noncomputable def semigroupref03_Set_2 {ρ : Type} (k : Nat) (x1 : Int) (x5 : Sl) (x10 : Sl) (x11 : Int) (x12 : Int) (lo : Nat) (H : AH) (κ : Sl → AH → Option ρ) : Option ρ := run G k ρ 51 2 [(.int .i64 x1), (.sl x5), (.sl x10), (.int .i64 x11), (.int .i64 x12)] lo H (semigroupref03_Set_r κ)
noncomputable def semigroupref17_Number_r {ρ : Type} (κ : Int → AH → Option ρ) (v : AV) (H : AH) : Option ρ := castTy (.one (.lf (.int .i64))) v fun v' => match v' with | .int _ r0 => κ r0 H | _ => none
noncomputable def semigroupref17_Number {ρ : Type} (k : Nat) (x0_0 : Sl) (x0_1 : Int) (x0_2 : Int) (x0_3 : Sl) (x0_4 : Bool) (x1 : Int) (x2 : Int) (x3 : Int) (lo : Nat) (H : AH) (κ : Int → AH → Option ρ) : Option ρ := run G k ρ 52 0 [(.agg [(.sl x0_0), (.int .i64 x0_1), (.int .i64 x0_2), (.sl x0_3), (.bool x0_4)]), (.int .i64 x1), (.int .i64 x2), (.int .i64 x3)] lo H (semigroupref17_Number_r κ)
noncomputable def semigroupref17_Mul_r {ρ : Type} (κ : Int → AH → Option ρ) (v : AV) (H : AH) : Option ρ := castTy (.one (.lf (.int .i64))) v fun v' => match v' with | .int _ r0 => κ r0 H | _ => none
noncomputable def semigroupref17_Mul {ρ : Type} (k : Nat) (x0_0 : Sl) (x0_1 : Int) (x0_2 : Int) (x0_3 : Sl) (x0_4 : Bool) (x1 : Int) (x2 : Int) (lo : Nat) (H : AH) (κ : Int → AH → Option ρ) : Option ρ := run G k ρ 53 0 [(.agg [(.sl x0_0), (.int .i64 x0_1), (.int .i64 x0_2), (.sl x0_3), (.bool x0_4)]), (.int .i64 x1), (.int .i64 x2)] lo H (semigroupref17_Mul_r κ)
noncomputable def semigroupref17_Check_r {ρ : Type} (κ : Bool → AH → Option ρ) (v : AV) (H : AH) : Option ρ := castTy (.one (.lf .bool)) v fun v' => match v' with | .bool r0 => κ r0 H | _ => none
noncomputable def semigroupref17_Check {ρ : Type} (k : Nat) (x0 : Sl) (x1 : Int) (x2_0 : Sl) (x2_1 : Int) (x2_2 : Int) (x2_3 : Sl) (x2_4 : Bool) (x3 : Sl) (lo : Nat) (H : AH) (κ : Bool → AH → Option ρ) : Option ρ := run G k ρ 54 0 [(.sl x0), (.int .i64 x1), (.agg [(.sl x2_0), (.int .i64 x2_1), (.int .i64 x2_2), (.sl x2_3), (.bool x2_4)]), (.sl x3)] lo H (semigroupref17_Check_r κ)
noncomputable def semigroupref17_Check_1 {ρ : Type} (k : Nat) (x0 : Sl) (x3 : Sl) (x6 : Option Pt) (x9 : Sl) (x12 : Sl) (x13 : Sl) (x65 : Int) (x66 : Int) (lo : Nat) (H : AH) (κ : Bool → AH → Option ρ) : Option ρ := run G k ρ 54 1 [(.sl x0), (.sl x3), (.ptr x6), (.sl x9), (.sl x12), (.sl x13), (.int .i64 x65), (.int .i64 x66)] lo H (semigroupref17_Check_r κ)
noncomputable def semigroupref17_Check_2 {ρ : Type} (k : Nat) (x0 : Sl) (x3 : Sl) (x6 : Option Pt) (x9 : Sl) (x12 : Sl) (x13 : Sl) (x65 : Int) (x66 : Int) (lo : Nat) (H : AH) (κ : Bool → AH → Option ρ) : Option ρ := run G k ρ 54 2 [(.sl x0), (.sl x3), (.ptr x6), (.sl x9), (.sl x12), (.sl x13), (.int .i64 x65), (.int .i64 x66)] lo H (semigroupref17_Check_r κ)
noncomputable def semigroupref17_Check_3 {ρ : Type} (k : Nat) (x0 : Sl) (x3 : Sl) (x6 : Option Pt) (x9 : Sl) (x12 : Sl) (x111 : Sl) (x112 : Int) (x113 : Int) (lo : Nat) (H : AH) (κ : Bool → AH → Option ρ) : Option ρ := run G k ρ 54 3 [(.sl x0), (.sl x3), (.ptr x6), (.sl x9), (.sl x12), (.sl x111), (.int .i64 x112), (.int .i64 x113)] lo H (semigroupref17_Check_r κ)
noncomputable def semigroupref17_Check_4 {ρ : Type} (k : Nat) (x0 : Sl) (x3 : Sl) (x6 : Option Pt) (x9 : Sl) (x12 : Sl) (x16 : Int) (x111 : Sl) (x112 : Int) (x113 : Int) (x117 : Sl) (x118 : Int) (x119 : Int) (lo : Nat) (H : AH) (κ : Bool → AH → Option ρ) : Option ρ := run G k ρ 54 4 [(.sl x0), (.sl x3), (.ptr x6), (.sl x9), (.sl x12), (.int .i64 x16), (.sl x111), (.int .i64 x112), (.int .i64 x113), (.sl x117), (.int .i64 x118), (.int .i64 x119)] lo H (semigroupref17_Check_r κ)
noncomputable def semigrouplaw17_ReesChecks_r {ρ : Type} (κ : Bool → AH → Option ρ) (v : AV) (H : AH) : Option ρ := castTy (.one (.lf .bool)) v fun v' => match v' with | .bool r0 => κ r0 H | _ => none
noncomputable def semigrouplaw17_ReesChecks {ρ : Type} (k : Nat) (x0 : Sl) (x1 : Int) (x2_0 : Sl) (x2_1 : Int) (x2_2 : Int) (x2_3 : Sl) (x2_4 : Bool) (x3 : Sl) (lo : Nat) (H : AH) (κ : Bool → AH → Option ρ) : Option ρ := run G k ρ 55 0 [(.sl x0), (.int .i64 x1), (.agg [(.sl x2_0), (.int .i64 x2_1), (.int .i64 x2_2), (.sl x2_3), (.bool x2_4)]), (.sl x3)] lo H (semigrouplaw17_ReesChecks_r κ)
end Go.Ab
