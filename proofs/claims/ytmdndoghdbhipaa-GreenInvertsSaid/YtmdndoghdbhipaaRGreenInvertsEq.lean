/- Each label's equation. Printed. -/
import Derived.Test.YtmdndoghdbhipaaRGreenInvertsIr
import Derived.Test.YtmdndoghdbhipaaAbAS
import Derived.KernelRfl
set_option linter.unusedVariables false
namespace Go.Ab
theorem noid_ok : noidG G = true := by kernel_rfl
theorem semigrouplaw15_awake_true {H : AH} : Ev (fun _ k κ => semigrouplaw15_awake k H.length H κ) (fun v _ => v = true) := ev_awake (k := 400) noid_ok (by kernel_rfl) H
theorem semigroupref14_Shape_eq {ρ : Type} (k : Nat) {x0 : Sl} {lo : Nat} {H : AH} {κ : Int → AH → Option ρ} : semigroupref14_Shape (k + 1) x0 lo H κ =
  bif decide ((x0.len : Int) > 400) then
    κ 3 H
  else
  bif decide ((x0.len : Int) = 0) then
    κ 4 H
  else
  semigroupref14_Shape_1 k x0 x0 (x0.len : Int) 0 lo H κ := by kernel_rfl
theorem semigroupref14_Shape_1_eq {ρ : Type} (k : Nat) {x0 : Sl} {x13 : Sl} {x14 : Int} {x15 : Int} {lo : Nat} {H : AH} {κ : Int → AH → Option ρ} : semigroupref14_Shape_1 (k + 1) x0 x13 x14 x15 lo H κ =
  bif decide (x15 < x14) then
    rdS H x13 x15 fun v1 =>
    bif !decide ((v1.len : Int) = (x0.len : Int)) then
      κ 4 H
    else
    semigroupref14_Shape_2 k x0 x13 x14 x15 v1 (v1.len : Int) 0 lo H κ
  else
  κ 0 H := by kernel_rfl
theorem semigroupref14_Shape_2_eq {ρ : Type} (k : Nat) {x0 : Sl} {x13 : Sl} {x14 : Int} {x15 : Int} {x24 : Sl} {x25 : Int} {x26 : Int} {lo : Nat} {H : AH} {κ : Int → AH → Option ρ} : semigroupref14_Shape_2 (k + 1) x0 x13 x14 x15 x24 x25 x26 lo H κ =
  bif decide (x26 < x25) then
    rdI H x24 x26 fun v1 =>
    orB (decide (v1 < 0)) (fun _ κ' => κ' (decide (v1 ≥ (x0.len : Int))) H) H fun b2 H3 =>
    bif b2 then
      κ 4 H3
    else
    semigroupref14_Shape_2 k x0 x13 x14 x15 x24 x25 (W (x26 + 1)) lo H3 κ
  else
  semigroupref14_Shape_1 k x0 x13 x14 (W (x15 + 1)) lo H κ := by kernel_rfl
theorem semigroupref14_Associative_eq {ρ : Type} (k : Nat) {x0 : Sl} {lo : Nat} {H : AH} {κ : (Int × Int × Int × Int) → AH → Option ρ} : semigroupref14_Associative (k + 1) x0 lo H κ =
  semigroupref14_Shape k x0 H.length H fun v1 H2 =>
  bif !decide (v1 = 0) then
    κ (0, 0, 0, v1) H2
  else
  semigroupref14_Associative_1 k x0 (x0.len : Int) 0 lo H2 κ := by kernel_rfl
theorem semigroupref14_Associative_1_eq {ρ : Type} (k : Nat) {x0 : Sl} {x16 : Int} {x17 : Int} {lo : Nat} {H : AH} {κ : (Int × Int × Int × Int) → AH → Option ρ} : semigroupref14_Associative_1 (k + 1) x0 x16 x17 lo H κ =
  bif decide (x17 < x16) then
    semigroupref14_Associative_2 k x0 x17 x16 x17 (x0.len : Int) 0 lo H κ
  else
  κ (0, 0, 0, 0) H := by kernel_rfl
theorem semigroupref14_Associative_2_eq {ρ : Type} (k : Nat) {x0 : Sl} {x7 : Int} {x16 : Int} {x17 : Int} {x21 : Int} {x22 : Int} {lo : Nat} {H : AH} {κ : (Int × Int × Int × Int) → AH → Option ρ} : semigroupref14_Associative_2 (k + 1) x0 x7 x16 x17 x21 x22 lo H κ =
  bif decide (x22 < x21) then
    semigroupref14_Associative_3 k x0 x7 x22 x16 x17 x21 x22 (x0.len : Int) 0 lo H κ
  else
  semigroupref14_Associative_1 k x0 x16 (W (x17 + 1)) lo H κ := by kernel_rfl
theorem semigroupref14_Associative_3_eq {ρ : Type} (k : Nat) {x0 : Sl} {x7 : Int} {x8 : Int} {x16 : Int} {x17 : Int} {x21 : Int} {x22 : Int} {x26 : Int} {x27 : Int} {lo : Nat} {H : AH} {κ : (Int × Int × Int × Int) → AH → Option ρ} : semigroupref14_Associative_3 (k + 1) x0 x7 x8 x16 x17 x21 x22 x26 x27 lo H κ =
  bif decide (x27 < x26) then
    rdS H x0 x7 fun v1 =>
    rdI H v1 x8 fun v2 =>
    rdS H x0 v2 fun v3 =>
    rdI H v3 x27 fun v4 =>
    rdS H x0 x7 fun v5 =>
    rdS H x0 x8 fun v6 =>
    rdI H v6 x27 fun v7 =>
    rdI H v5 v7 fun v8 =>
    bif !decide (v4 = v8) then
      κ (x7, x8, x27, 5) H
    else
    semigroupref14_Associative_3 k x0 x7 x8 x16 x17 x21 x22 x26 (W (x27 + 1)) lo H κ
  else
  semigroupref14_Associative_2 k x0 x7 x16 x17 x21 (W (x22 + 1)) lo H κ := by kernel_rfl
theorem semigroupref14_Validate_eq {ρ : Type} (k : Nat) {x0 : Sl} {lo : Nat} {H : AH} {κ : Int → AH → Option ρ} : semigroupref14_Validate (k + 1) x0 lo H κ =
  semigroupref14_Associative k x0 H.length H fun r1 H2 =>
  κ r1.2.2.2 H2 := by kernel_rfl
theorem semigroupref14_Valid_eq {ρ : Type} (k : Nat) {x0 : Sl} {lo : Nat} {H : AH} {κ : Bool → AH → Option ρ} : semigroupref14_Valid (k + 1) x0 lo H κ =
  semigroupref14_Validate k x0 H.length H fun v1 H2 =>
  κ (decide (v1 = 0)) H2 := by kernel_rfl
theorem semigrouplaw15_small_eq {ρ : Type} (k : Nat) {x0 : Sl} {x1 : Int} {lo : Nat} {H : AH} {κ : Bool → AH → Option ρ} : semigrouplaw15_small (k + 1) x0 x1 lo H κ =
  andB (decide ((x0.len : Int) ≤ x1)) (fun _ κ' => semigroupref14_Valid k x0 H.length H fun v1 H2 =>
    κ' v1 H2) H fun b3 H4 =>
  κ b3 H4 := by kernel_rfl
theorem semigroupref14_In_eq {ρ : Type} (k : Nat) {x0 : Sl} {x1 : Sl} {lo : Nat} {H : AH} {κ : Bool → AH → Option ρ} : semigroupref14_In (k + 1) x0 x1 lo H κ =
  semigroupref14_In_1 k x0 x1 (x1.len : Int) 0 lo H κ := by kernel_rfl
theorem semigroupref14_In_1_eq {ρ : Type} (k : Nat) {x0 : Sl} {x7 : Sl} {x8 : Int} {x9 : Int} {lo : Nat} {H : AH} {κ : Bool → AH → Option ρ} : semigroupref14_In_1 (k + 1) x0 x7 x8 x9 lo H κ =
  bif decide (x9 < x8) then
    rdI H x7 x9 fun v1 =>
    orB (decide (v1 < 0)) (fun _ κ' => κ' (decide (v1 ≥ (x0.len : Int))) H) H fun b2 H3 =>
    bif b2 then
      κ false H3
    else
    semigroupref14_In_1 k x0 x7 x8 (W (x9 + 1)) lo H3 κ
  else
  κ true H := by kernel_rfl
theorem semigrouplaw15_flip_eq {ρ : Type} (k : Nat) {lo : Nat} {H : AH} {κ : Sl → AH → Option ρ} : semigrouplaw15_flip (k + 1) lo H κ =
  mkb H [(.int .i64 0), (.int .i64 1), (.int .i64 2)] 1 3 fun s1 H2 =>
  mkb H2 [(.int .i64 1), (.int .i64 0), (.int .i64 2)] 1 3 fun s3 H4 =>
  mkb H4 [(.int .i64 2), (.int .i64 2), (.int .i64 2)] 1 3 fun s5 H6 =>
  mkb H6 [(.sl s1), (.sl s3), (.sl s5)] 1 3 fun s7 H8 =>
  κ s7 H8 := by kernel_rfl
theorem mult_shape_eq {ρ : Type} (k : Nat) {x0 : Sl} {lo : Nat} {H : AH} {κ : Int → AH → Option ρ} : mult_shape (k + 1) x0 lo H κ =
  bif decide ((x0.len : Int) > 400) then
    κ 3 H
  else
  bif decide ((x0.len : Int) = 0) then
    κ 4 H
  else
  mult_shape_1 k x0 x0 (x0.len : Int) 0 lo H κ := by kernel_rfl
theorem mult_shape_1_eq {ρ : Type} (k : Nat) {x0 : Sl} {x15 : Sl} {x16 : Int} {x17 : Int} {lo : Nat} {H : AH} {κ : Int → AH → Option ρ} : mult_shape_1 (k + 1) x0 x15 x16 x17 lo H κ =
  bif decide (x17 < x16) then
    rdS H x15 x17 fun v1 =>
    bif !decide ((v1.len : Int) = (x0.len : Int)) then
      κ 4 H
    else
    mult_shape_2 k x0 x15 x16 x17 v1 (v1.len : Int) 0 lo H κ
  else
  κ 0 H := by kernel_rfl
theorem mult_shape_2_eq {ρ : Type} (k : Nat) {x0 : Sl} {x15 : Sl} {x16 : Int} {x17 : Int} {x26 : Sl} {x27 : Int} {x28 : Int} {lo : Nat} {H : AH} {κ : Int → AH → Option ρ} : mult_shape_2 (k + 1) x0 x15 x16 x17 x26 x27 x28 lo H κ =
  bif decide (x28 < x27) then
    rdI H x26 x28 fun v1 =>
    orB (decide (v1 < 0)) (fun _ κ' => κ' (decide (v1 ≥ (x0.len : Int))) H) H fun b2 H3 =>
    bif b2 then
      κ 4 H3
    else
    mult_shape_2 k x0 x15 x16 x17 x26 x27 (W (x28 + 1)) lo H3 κ
  else
  mult_shape_1 k x0 x15 x16 (W (x17 + 1)) lo H κ := by kernel_rfl
theorem mult_failing_eq {ρ : Type} (k : Nat) {x0 : Sl} {lo : Nat} {H : AH} {κ : (Int × Int × Int × Bool) → AH → Option ρ} : mult_failing (k + 1) x0 lo H κ =
  mult_failing_1 k x0 (x0.len : Int) 0 lo H κ := by kernel_rfl
theorem mult_failing_1_eq {ρ : Type} (k : Nat) {x0 : Sl} {x10 : Int} {x11 : Int} {lo : Nat} {H : AH} {κ : (Int × Int × Int × Bool) → AH → Option ρ} : mult_failing_1 (k + 1) x0 x10 x11 lo H κ =
  bif decide (x11 < x10) then
    mult_failing_2 k x0 x11 x10 x11 (x0.len : Int) 0 lo H κ
  else
  κ (0, 0, 0, false) H := by kernel_rfl
theorem mult_failing_2_eq {ρ : Type} (k : Nat) {x0 : Sl} {x6 : Int} {x10 : Int} {x11 : Int} {x15 : Int} {x16 : Int} {lo : Nat} {H : AH} {κ : (Int × Int × Int × Bool) → AH → Option ρ} : mult_failing_2 (k + 1) x0 x6 x10 x11 x15 x16 lo H κ =
  bif decide (x16 < x15) then
    mult_failing_3 k x0 x6 x16 x10 x11 x15 x16 (x0.len : Int) 0 lo H κ
  else
  mult_failing_1 k x0 x10 (W (x11 + 1)) lo H κ := by kernel_rfl
theorem mult_failing_3_eq {ρ : Type} (k : Nat) {x0 : Sl} {x6 : Int} {x7 : Int} {x10 : Int} {x11 : Int} {x15 : Int} {x16 : Int} {x20 : Int} {x21 : Int} {lo : Nat} {H : AH} {κ : (Int × Int × Int × Bool) → AH → Option ρ} : mult_failing_3 (k + 1) x0 x6 x7 x10 x11 x15 x16 x20 x21 lo H κ =
  bif decide (x21 < x20) then
    rdS H x0 x6 fun v1 =>
    rdI H v1 x7 fun v2 =>
    rdS H x0 v2 fun v3 =>
    rdI H v3 x21 fun v4 =>
    rdS H x0 x6 fun v5 =>
    rdS H x0 x7 fun v6 =>
    rdI H v6 x21 fun v7 =>
    rdI H v5 v7 fun v8 =>
    bif !decide (v4 = v8) then
      κ (x6, x7, x21, true) H
    else
    mult_failing_3 k x0 x6 x7 x10 x11 x15 x16 x20 (W (x21 + 1)) lo H κ
  else
  mult_failing_2 k x0 x6 x10 x11 x15 (W (x16 + 1)) lo H κ := by kernel_rfl
theorem mult_Validate_eq {ρ : Type} (k : Nat) {x0 : Sl} {lo : Nat} {H : AH} {κ : Int → AH → Option ρ} : mult_Validate (k + 1) x0 lo H κ =
  mult_shape k x0 H.length H fun v1 H2 =>
  bif !decide (v1 = 0) then
    κ v1 H2
  else
  mult_failing k x0 H2.length H2 fun r3 H4 =>
  bif r3.2.2.2 then
    κ 5 H4
  else
  κ 0 H4 := by kernel_rfl
theorem green_right_eq {ρ : Type} (k : Nat) {x0 : Sl} {lo : Nat} {H : AH} {κ : Sl → AH → Option ρ} : green_right (k + 1) x0 lo H κ =
  mks H [(.sl ⟨none, 0⟩)] 24 (x0.len : Int) (x0.len : Int) fun s1 H2 =>
  green_right_1 k x0 s1 (x0.len : Int) 0 lo H2 κ := by kernel_rfl
theorem green_right_1_eq {ρ : Type} (k : Nat) {x0 : Sl} {x3 : Sl} {x10 : Int} {x11 : Int} {lo : Nat} {H : AH} {κ : Sl → AH → Option ρ} : green_right_1 (k + 1) x0 x3 x10 x11 lo H κ =
  bif decide (x11 < x10) then
    mks H [(.bool false)] 1 (x0.len : Int) (x0.len : Int) fun s1 H2 =>
    idx x3 x11 1 fun p3 =>
    stc lo H2 p3 (.sl s1) fun H4 =>
    rdS H4 x3 x11 fun v5 =>
    idx v5 x11 1 fun p6 =>
    stc lo H4 p6 (.bool true) fun H7 =>
    green_right_2 k x0 x3 x11 x10 x11 (x0.len : Int) 0 lo H7 κ
  else
  κ x3 H := by kernel_rfl
theorem green_right_2_eq {ρ : Type} (k : Nat) {x0 : Sl} {x3 : Sl} {x4 : Int} {x10 : Int} {x11 : Int} {x27 : Int} {x28 : Int} {lo : Nat} {H : AH} {κ : Sl → AH → Option ρ} : green_right_2 (k + 1) x0 x3 x4 x10 x11 x27 x28 lo H κ =
  bif decide (x28 < x27) then
    rdS H x3 x4 fun v1 =>
    rdS H x0 x4 fun v2 =>
    rdI H v2 x28 fun v3 =>
    idx v1 v3 1 fun p4 =>
    stc lo H p4 (.bool true) fun H5 =>
    green_right_2 k x0 x3 x4 x10 x11 x27 (W (x28 + 1)) lo H5 κ
  else
  green_right_1 k x0 x3 x10 (W (x11 + 1)) lo H κ := by kernel_rfl
theorem green_left_eq {ρ : Type} (k : Nat) {x0 : Sl} {lo : Nat} {H : AH} {κ : Sl → AH → Option ρ} : green_left (k + 1) x0 lo H κ =
  mks H [(.sl ⟨none, 0⟩)] 24 (x0.len : Int) (x0.len : Int) fun s1 H2 =>
  green_left_1 k x0 s1 (x0.len : Int) 0 lo H2 κ := by kernel_rfl
theorem green_left_1_eq {ρ : Type} (k : Nat) {x0 : Sl} {x3 : Sl} {x10 : Int} {x11 : Int} {lo : Nat} {H : AH} {κ : Sl → AH → Option ρ} : green_left_1 (k + 1) x0 x3 x10 x11 lo H κ =
  bif decide (x11 < x10) then
    mks H [(.bool false)] 1 (x0.len : Int) (x0.len : Int) fun s1 H2 =>
    idx x3 x11 1 fun p3 =>
    stc lo H2 p3 (.sl s1) fun H4 =>
    rdS H4 x3 x11 fun v5 =>
    idx v5 x11 1 fun p6 =>
    stc lo H4 p6 (.bool true) fun H7 =>
    green_left_2 k x0 x3 x11 x10 x11 (x0.len : Int) 0 lo H7 κ
  else
  κ x3 H := by kernel_rfl
theorem green_left_2_eq {ρ : Type} (k : Nat) {x0 : Sl} {x3 : Sl} {x4 : Int} {x10 : Int} {x11 : Int} {x27 : Int} {x28 : Int} {lo : Nat} {H : AH} {κ : Sl → AH → Option ρ} : green_left_2 (k + 1) x0 x3 x4 x10 x11 x27 x28 lo H κ =
  bif decide (x28 < x27) then
    rdS H x3 x4 fun v1 =>
    rdS H x0 x28 fun v2 =>
    rdI H v2 x4 fun v3 =>
    idx v1 v3 1 fun p4 =>
    stc lo H p4 (.bool true) fun H5 =>
    green_left_2 k x0 x3 x4 x10 x11 x27 (W (x28 + 1)) lo H5 κ
  else
  green_left_1 k x0 x3 x10 (W (x11 + 1)) lo H κ := by kernel_rfl
theorem green_two_eq {ρ : Type} (k : Nat) {x0 : Sl} {lo : Nat} {H : AH} {κ : Sl → AH → Option ρ} : green_two (k + 1) x0 lo H κ =
  green_right k x0 H.length H fun v1 H2 =>
  green_left k x0 H2.length H2 fun v3 H4 =>
  mks H4 [(.sl ⟨none, 0⟩)] 24 (x0.len : Int) (x0.len : Int) fun s5 H6 =>
  green_two_1 k x0 v1 v3 s5 (x0.len : Int) 0 lo H6 κ := by kernel_rfl
theorem green_two_1_eq {ρ : Type} (k : Nat) {x0 : Sl} {x3 : Sl} {x4 : Sl} {x5 : Sl} {x19 : Int} {x20 : Int} {lo : Nat} {H : AH} {κ : Sl → AH → Option ρ} : green_two_1 (k + 1) x0 x3 x4 x5 x19 x20 lo H κ =
  bif decide (x20 < x19) then
    mks H [(.bool false)] 1 (x0.len : Int) (x0.len : Int) fun s1 H2 =>
    idx x5 x20 1 fun p3 =>
    stc lo H2 p3 (.sl s1) fun H4 =>
    rdS H4 x4 x20 fun v5 =>
    green_two_2 k x0 x3 x4 x5 x20 x19 x20 v5 (v5.len : Int) 0 lo H4 κ
  else
  κ x5 H := by kernel_rfl
theorem green_two_2_eq {ρ : Type} (k : Nat) {x0 : Sl} {x3 : Sl} {x4 : Sl} {x5 : Sl} {x6 : Int} {x19 : Int} {x20 : Int} {x32 : Sl} {x33 : Int} {x34 : Int} {lo : Nat} {H : AH} {κ : Sl → AH → Option ρ} : green_two_2 (k + 1) x0 x3 x4 x5 x6 x19 x20 x32 x33 x34 lo H κ =
  bif decide (x34 < x33) then
    rdB H x32 x34 fun v1 =>
    bif !v1 then
      green_two_4 k x0 x3 x4 x5 x6 x19 x20 x32 x33 x34 lo H κ
    else
    rdS H x3 x34 fun v2 =>
    green_two_3 k x0 x3 x4 x5 x6 x19 x20 x32 x33 x34 v2 (v2.len : Int) 0 lo H κ
  else
  green_two_1 k x0 x3 x4 x5 x19 (W (x20 + 1)) lo H κ := by kernel_rfl
theorem green_two_3_eq {ρ : Type} (k : Nat) {x0 : Sl} {x3 : Sl} {x4 : Sl} {x5 : Sl} {x6 : Int} {x19 : Int} {x20 : Int} {x32 : Sl} {x33 : Int} {x34 : Int} {x44 : Sl} {x45 : Int} {x46 : Int} {lo : Nat} {H : AH} {κ : Sl → AH → Option ρ} : green_two_3 (k + 1) x0 x3 x4 x5 x6 x19 x20 x32 x33 x34 x44 x45 x46 lo H κ =
  bif decide (x46 < x45) then
    rdB H x44 x46 fun v1 =>
    rdS H x5 x6 fun v2 =>
    rdS H x5 x6 fun v3 =>
    rdB H v3 x46 fun v4 =>
    orB v4 (fun _ κ' => κ' v1 H) H fun b5 H6 =>
    idx v2 x46 1 fun p7 =>
    stc lo H6 p7 (.bool b5) fun H8 =>
    green_two_3 k x0 x3 x4 x5 x6 x19 x20 x32 x33 x34 x44 x45 (W (x46 + 1)) lo H8 κ
  else
  green_two_4 k x0 x3 x4 x5 x6 x19 x20 x32 x33 x34 lo H κ := by kernel_rfl
theorem green_two_4_eq {ρ : Type} (k : Nat) {x0 : Sl} {x3 : Sl} {x4 : Sl} {x5 : Sl} {x6 : Int} {x19 : Int} {x20 : Int} {x32 : Sl} {x33 : Int} {x34 : Int} {lo : Nat} {H : AH} {κ : Sl → AH → Option ρ} : green_two_4 (k + 1) x0 x3 x4 x5 x6 x19 x20 x32 x33 x34 lo H κ =
  green_two_2 k x0 x3 x4 x5 x6 x19 x20 x32 x33 (W (x34 + 1)) lo H κ := by kernel_rfl
theorem green_mutual_eq {ρ : Type} (k : Nat) {x0 : Sl} {lo : Nat} {H : AH} {κ : Sl → AH → Option ρ} : green_mutual (k + 1) x0 lo H κ =
  mks H [(.int .i64 0)] 8 (x0.len : Int) (x0.len : Int) fun s1 H2 =>
  green_mutual_1 k x0 s1 (s1.len : Int) 0 lo H2 κ := by kernel_rfl
theorem green_mutual_1_eq {ρ : Type} (k : Nat) {x0 : Sl} {x3 : Sl} {x12 : Int} {x13 : Int} {lo : Nat} {H : AH} {κ : Sl → AH → Option ρ} : green_mutual_1 (k + 1) x0 x3 x12 x13 lo H κ =
  bif decide (x13 < x12) then
    idx x3 x13 1 fun p1 =>
    stc lo H p1 (.int .i64 (-1)) fun H2 =>
    green_mutual_1 k x0 x3 x12 (W (x13 + 1)) lo H2 κ
  else
  green_mutual_2 k x0 x3 0 (x3.len : Int) 0 lo H κ := by kernel_rfl
theorem green_mutual_2_eq {ρ : Type} (k : Nat) {x0 : Sl} {x3 : Sl} {x5 : Int} {x21 : Int} {x22 : Int} {lo : Nat} {H : AH} {κ : Sl → AH → Option ρ} : green_mutual_2 (k + 1) x0 x3 x5 x21 x22 lo H κ =
  bif decide (x22 < x21) then
    rdI H x3 x22 fun v1 =>
    bif decide (v1 ≥ 0) then
      green_mutual_5 k x0 x3 x5 x21 x22 lo H κ
    else
    green_mutual_3 k x0 x3 x5 x22 x22 x21 x22 lo H κ
  else
  κ x3 H := by kernel_rfl
theorem green_mutual_3_eq {ρ : Type} (k : Nat) {x0 : Sl} {x3 : Sl} {x5 : Int} {x6 : Int} {x7 : Int} {x21 : Int} {x22 : Int} {lo : Nat} {H : AH} {κ : Sl → AH → Option ρ} : green_mutual_3 (k + 1) x0 x3 x5 x6 x7 x21 x22 lo H κ =
  bif decide (x7 < (x3.len : Int)) then
    rdS H x0 x6 fun v1 =>
    rdB H v1 x7 fun v2 =>
    andB v2 (fun _ κ' => rdS H x0 x7 fun v3 =>
      rdB H v3 x6 fun v4 =>
      κ' v4 H) H fun b5 H6 =>
    bif b5 then
      idx x3 x7 1 fun p7 =>
      stc lo H6 p7 (.int .i64 x5) fun H8 =>
      green_mutual_4 k x0 x3 x5 x6 x7 x21 x22 lo H8 κ
    else
    green_mutual_4 k x0 x3 x5 x6 x7 x21 x22 lo H6 κ
  else
  green_mutual_5 k x0 x3 (W (x5 + 1)) x21 x22 lo H κ := by kernel_rfl
theorem green_mutual_4_eq {ρ : Type} (k : Nat) {x0 : Sl} {x3 : Sl} {x5 : Int} {x6 : Int} {x7 : Int} {x21 : Int} {x22 : Int} {lo : Nat} {H : AH} {κ : Sl → AH → Option ρ} : green_mutual_4 (k + 1) x0 x3 x5 x6 x7 x21 x22 lo H κ =
  green_mutual_3 k x0 x3 x5 x6 (W (x7 + 1)) x21 x22 lo H κ := by kernel_rfl
theorem green_mutual_5_eq {ρ : Type} (k : Nat) {x0 : Sl} {x3 : Sl} {x5 : Int} {x21 : Int} {x22 : Int} {lo : Nat} {H : AH} {κ : Sl → AH → Option ρ} : green_mutual_5 (k + 1) x0 x3 x5 x21 x22 lo H κ =
  green_mutual_2 k x0 x3 x5 x21 (W (x22 + 1)) lo H κ := by kernel_rfl
theorem partition_Valid_eq {ρ : Type} (k : Nat) {x0 : Sl} {lo : Nat} {H : AH} {κ : Bool → AH → Option ρ} : partition_Valid (k + 1) x0 lo H κ =
  bif decide ((x0.len : Int) > 4096) then
    κ false H
  else
  partition_Valid_1 k 0 x0 (x0.len : Int) 0 lo H κ := by kernel_rfl
theorem partition_Valid_1_eq {ρ : Type} (k : Nat) {x3 : Int} {x9 : Sl} {x10 : Int} {x11 : Int} {lo : Nat} {H : AH} {κ : Bool → AH → Option ρ} : partition_Valid_1 (k + 1) x3 x9 x10 x11 lo H κ =
  bif decide (x11 < x10) then
    rdI H x9 x11 fun v1 =>
    orB (decide (v1 < 0)) (fun _ κ' => κ' (decide (v1 > x3)) H) H fun b2 H3 =>
    bif b2 then
      κ false H3
    else
    bif decide (v1 = x3) then
      partition_Valid_2 k (W (x3 + 1)) x9 x10 x11 lo H3 κ
    else
    partition_Valid_2 k x3 x9 x10 x11 lo H3 κ
  else
  κ true H := by kernel_rfl
theorem partition_Valid_2_eq {ρ : Type} (k : Nat) {x3 : Int} {x9 : Sl} {x10 : Int} {x11 : Int} {lo : Nat} {H : AH} {κ : Bool → AH → Option ρ} : partition_Valid_2 (k + 1) x3 x9 x10 x11 lo H κ =
  partition_Valid_1 k x3 x9 x10 (W (x11 + 1)) lo H κ := by kernel_rfl
theorem partition_both_eq {ρ : Type} (k : Nat) {x0 : Sl} {x1 : Sl} {lo : Nat} {H : AH} {κ : Bool → AH → Option ρ} : partition_both (k + 1) x0 x1 lo H κ =
  andB (decide ((x0.len : Int) = (x1.len : Int))) (fun _ κ' => partition_Valid k x0 H.length H fun v1 H2 =>
    κ' v1 H2) H fun b3 H4 =>
  andB b3 (fun _ κ' => partition_Valid k x1 H4.length H4 fun v5 H6 =>
    κ' v5 H6) H4 fun b7 H8 =>
  κ b7 H8 := by kernel_rfl
theorem partition_Canonical_eq {ρ : Type} (k : Nat) {x0 : Sl} {lo : Nat} {H : AH} {κ : Sl → AH → Option ρ} : partition_Canonical (k + 1) x0 lo H κ =
  bif decide ((x0.len : Int) > 4096) then
    κ ⟨none, 0⟩ H
  else
  mkm H fun m2 H1 =>
  mks H1 [(.int .i64 0)] 8 (x0.len : Int) (x0.len : Int) fun s3 H4 =>
  partition_Canonical_1 k (some m2) s3 x0 (x0.len : Int) 0 lo H4 κ := by kernel_rfl
theorem partition_Canonical_1_eq {ρ : Type} (k : Nat) {x3 : Option Nat} {x4 : Sl} {x16 : Sl} {x17 : Int} {x18 : Int} {lo : Nat} {H : AH} {κ : Sl → AH → Option ρ} : partition_Canonical_1 (k + 1) x3 x4 x16 x17 x18 lo H κ =
  bif decide (x18 < x17) then
    rdI H x16 x18 fun v1 =>
    mlook false H x3 (.int .i64 v1) fun r2 => asI .i64 (Option.getD r2 (.int .i64 0)) fun v3 =>
    bif !(Option.isSome r2) then
      mlen H x3 fun v4 =>
      mput false lo H x3 (.int .i64 v1) (.int .i64 v4) fun H5 =>
      partition_Canonical_2 k x3 x4 x18 v4 x16 x17 x18 lo H5 κ
    else
    partition_Canonical_2 k x3 x4 x18 v3 x16 x17 x18 lo H κ
  else
  κ x4 H := by kernel_rfl
theorem partition_Canonical_2_eq {ρ : Type} (k : Nat) {x3 : Option Nat} {x4 : Sl} {x5 : Int} {x7 : Int} {x16 : Sl} {x17 : Int} {x18 : Int} {lo : Nat} {H : AH} {κ : Sl → AH → Option ρ} : partition_Canonical_2 (k + 1) x3 x4 x5 x7 x16 x17 x18 lo H κ =
  idx x4 x5 1 fun p1 =>
  stc lo H p1 (.int .i64 x7) fun H2 =>
  partition_Canonical_1 k x3 x4 x16 x17 (W (x18 + 1)) lo H2 κ := by kernel_rfl
theorem partition_Meet_eq {ρ : Type} (k : Nat) {x0 : Sl} {x1 : Sl} {lo : Nat} {H : AH} {κ : Sl → AH → Option ρ} : partition_Meet (k + 1) x0 x1 lo H κ =
  partition_both k x0 x1 H.length H fun v1 H2 =>
  bif !v1 then
    κ ⟨none, 0⟩ H2
  else
  mks H2 [(.int .i64 0)] 8 (x0.len : Int) (x0.len : Int) fun s3 H4 =>
  partition_Meet_1 k x0 x1 s3 (x0.len : Int) 0 lo H4 κ := by kernel_rfl
theorem partition_Meet_1_eq {ρ : Type} (k : Nat) {x0 : Sl} {x1 : Sl} {x5 : Sl} {x15 : Int} {x16 : Int} {lo : Nat} {H : AH} {κ : Sl → AH → Option ρ} : partition_Meet_1 (k + 1) x0 x1 x5 x15 x16 lo H κ =
  bif decide (x16 < x15) then
    rdI H x0 x16 fun v1 =>
    rdI H x1 x16 fun v2 =>
    idx x5 x16 1 fun p3 =>
    stc lo H p3 (.int .i64 (W ((W (v1 * 4096)) + v2))) fun H4 =>
    partition_Meet_1 k x0 x1 x5 x15 (W (x16 + 1)) lo H4 κ
  else
  partition_Canonical k x5 H.length H fun v5 H6 =>
  κ v5 H6 := by kernel_rfl
theorem green_firsts_eq {ρ : Type} (k : Nat) {x0 : Sl} {lo : Nat} {H : AH} {κ : Sl → AH → Option ρ} : green_firsts (k + 1) x0 lo H κ =
  green_firsts_1 k ⟨none, 0⟩ x0 (x0.len : Int) 0 lo H κ := by kernel_rfl
theorem green_firsts_1_eq {ρ : Type} (k : Nat) {x3 : Sl} {x6 : Sl} {x7 : Int} {x8 : Int} {lo : Nat} {H : AH} {κ : Sl → AH → Option ρ} : green_firsts_1 (k + 1) x3 x6 x7 x8 lo H κ =
  bif decide (x8 < x7) then
    rdI H x6 x8 fun v1 =>
    bif decide (v1 = (x3.len : Int)) then
      mkb H [(.int .i64 x8)] 1 1 fun s2 H3 =>
      appS lo H3 x3 s2 1 8 fun s4 H5 =>
      green_firsts_2 k s4 x6 x7 x8 lo H5 κ
    else
    green_firsts_2 k x3 x6 x7 x8 lo H κ
  else
  κ x3 H := by kernel_rfl
theorem green_firsts_2_eq {ρ : Type} (k : Nat) {x3 : Sl} {x6 : Sl} {x7 : Int} {x8 : Int} {lo : Nat} {H : AH} {κ : Sl → AH → Option ρ} : green_firsts_2 (k + 1) x3 x6 x7 x8 lo H κ =
  green_firsts_1 k x3 x6 x7 (W (x8 + 1)) lo H κ := by kernel_rfl
theorem green_classes_eq {ρ : Type} (k : Nat) {x0 : Sl} {lo : Nat} {H : AH} {κ : (Sl × Sl × Sl × Sl × Sl) → AH → Option ρ} : green_classes (k + 1) x0 lo H κ =
  alc H [(.sl ⟨none, 0⟩), (.sl ⟨none, 0⟩), (.sl ⟨none, 0⟩), (.sl ⟨none, 0⟩), (.sl ⟨none, 0⟩)] fun p1 H2 =>
  green_two k x0 H2.length H2 fun v3 H4 =>
  green_right k x0 H4.length H4 fun v5 H6 =>
  green_mutual k v5 H6.length H6 fun v7 H8 =>
  green_left k x0 H8.length H8 fun v9 H10 =>
  green_mutual k v9 H10.length H10 fun v11 H12 =>
  green_mutual k v3 H12.length H12 fun v13 H14 =>
  alc H14 [(.sl ⟨none, 0⟩), (.sl ⟨none, 0⟩), (.sl ⟨none, 0⟩), (.sl ⟨none, 0⟩), (.sl ⟨none, 0⟩)] fun p15 H16 =>
  stn lo H16 p15 [(.sl v7), (.sl v11), (.sl v13), (.sl ⟨none, 0⟩), (.sl ⟨none, 0⟩)] fun H17 =>
  ldc H17 ⟨p15.b, p15.o + 0⟩ fun u18 => asS u18 fun v19 =>
  ldc H17 ⟨p15.b, p15.o + 1⟩ fun u20 => asS u20 fun v21 =>
  partition_Meet k v19 v21 H17.length H17 fun v22 H23 =>
  stc lo H23 ⟨p15.b, p15.o + 3⟩ (.sl v22) fun H24 =>
  ldc H24 ⟨p15.b, p15.o + 2⟩ fun u25 => asS u25 fun v26 =>
  green_firsts k v26 H24.length H24 fun v27 H28 =>
  mks H28 [(.sl ⟨none, 0⟩)] 24 (v27.len : Int) (v27.len : Int) fun s29 H30 =>
  stc lo H30 ⟨p15.b, p15.o + 4⟩ (.sl s29) fun H31 =>
  green_classes_1 k (some p1) v3 (some p15) v27 v27 (v27.len : Int) 0 lo H31 κ := by kernel_rfl
theorem green_classes_1_eq {ρ : Type} (k : Nat) {x2 : Option Pt} {x3 : Sl} {x4 : Option Pt} {x5 : Sl} {x34 : Sl} {x35 : Int} {x36 : Int} {lo : Nat} {H : AH} {κ : (Sl × Sl × Sl × Sl × Sl) → AH → Option ρ} : green_classes_1 (k + 1) x2 x3 x4 x5 x34 x35 x36 lo H κ =
  bif decide (x36 < x35) then
    rdI H x34 x36 fun v1 =>
    asP (.ptr x4) fun p2 => 
    ldc H ⟨p2.b, p2.o + 4⟩ fun u3 => asS u3 fun v4 =>
    mks H [(.bool false)] 1 (x5.len : Int) (x5.len : Int) fun s5 H6 =>
    idx v4 x36 1 fun p7 =>
    stc lo H6 p7 (.sl s5) fun H8 =>
    green_classes_2 k x2 x3 x4 x5 x36 v1 x34 x35 x36 x5 (x5.len : Int) 0 lo H8 κ
  else
  asP (.ptr x4) fun p9 => ldA_sssss H p9 fun v10 v11 v12 v13 v14 =>
  asP (.ptr x2) fun p15 => stn lo H p15 [(.sl v10), (.sl v11), (.sl v12), (.sl v13), (.sl v14)] fun H16 =>
  asP (.ptr x2) fun p17 => ldA_sssss H16 p17 fun v18 v19 v20 v21 v22 => κ (v18, v19, v20, v21, v22) H16 := by kernel_rfl
theorem green_classes_2_eq {ρ : Type} (k : Nat) {x2 : Option Pt} {x3 : Sl} {x4 : Option Pt} {x5 : Sl} {x6 : Int} {x7 : Int} {x34 : Sl} {x35 : Int} {x36 : Int} {x48 : Sl} {x49 : Int} {x50 : Int} {lo : Nat} {H : AH} {κ : (Sl × Sl × Sl × Sl × Sl) → AH → Option ρ} : green_classes_2 (k + 1) x2 x3 x4 x5 x6 x7 x34 x35 x36 x48 x49 x50 lo H κ =
  bif decide (x50 < x49) then
    rdI H x48 x50 fun v1 =>
    asP (.ptr x4) fun p2 => 
    ldc H ⟨p2.b, p2.o + 4⟩ fun u3 => asS u3 fun v4 =>
    rdS H v4 x6 fun v5 =>
    rdS H x3 v1 fun v6 =>
    rdB H v6 x7 fun v7 =>
    idx v5 x50 1 fun p8 =>
    stc lo H p8 (.bool v7) fun H9 =>
    green_classes_2 k x2 x3 x4 x5 x6 x7 x34 x35 x36 x48 x49 (W (x50 + 1)) lo H9 κ
  else
  green_classes_1 k x2 x3 x4 x5 x34 x35 (W (x36 + 1)) lo H κ := by kernel_rfl
theorem green_Classes_eq {ρ : Type} (k : Nat) {x0 : Sl} {lo : Nat} {H : AH} {κ : (Sl × Sl × Sl × Sl × Sl) → AH → Option ρ} : green_Classes (k + 1) x0 lo H κ =
  alc H [(.sl ⟨none, 0⟩), (.sl ⟨none, 0⟩), (.sl ⟨none, 0⟩), (.sl ⟨none, 0⟩), (.sl ⟨none, 0⟩)] fun p1 H2 =>
  mult_Validate k x0 H2.length H2 fun v3 H4 =>
  bif !decide (v3 = 0) then
    stn lo H4 p1 [(.sl ⟨none, 0⟩), (.sl ⟨none, 0⟩), (.sl ⟨none, 0⟩), (.sl ⟨none, 0⟩), (.sl ⟨none, 0⟩)] fun H5 =>
    ldA_sssss H5 p1 fun v6 v7 v8 v9 v10 => κ (v6, v7, v8, v9, v10) H5
  else
  green_classes k x0 H4.length H4 fun r11 H12 =>
  stn lo H12 p1 [(.sl r11.1), (.sl r11.2.1), (.sl r11.2.2.1), (.sl r11.2.2.2.1), (.sl r11.2.2.2.2)] fun H13 =>
  ldA_sssss H13 p1 fun v14 v15 v16 v17 v18 => κ (v14, v15, v16, v17, v18) H13 := by kernel_rfl
theorem semigroupref03_Same_eq {ρ : Type} (k : Nat) {x0 : Sl} {x1 : Sl} {lo : Nat} {H : AH} {κ : Bool → AH → Option ρ} : semigroupref03_Same (k + 1) x0 x1 lo H κ =
  bif !decide ((x0.len : Int) = (x1.len : Int)) then
    κ false H
  else
  semigroupref03_Same_1 k x0 x1 (x0.len : Int) 0 lo H κ := by kernel_rfl
theorem semigroupref03_Same_1_eq {ρ : Type} (k : Nat) {x0 : Sl} {x1 : Sl} {x12 : Int} {x13 : Int} {lo : Nat} {H : AH} {κ : Bool → AH → Option ρ} : semigroupref03_Same_1 (k + 1) x0 x1 x12 x13 lo H κ =
  bif decide (x13 < x12) then
    rdI H x0 x13 fun v1 =>
    rdI H x1 x13 fun v2 =>
    bif !decide (v1 = v2) then
      κ false H
    else
    semigroupref03_Same_1 k x0 x1 x12 (W (x13 + 1)) lo H κ
  else
  κ true H := by kernel_rfl
theorem green_Heights_eq {ρ : Type} (k : Nat) {x0 : Sl} {lo : Nat} {H : AH} {κ : Sl → AH → Option ρ} : green_Heights (k + 1) x0 lo H κ =
  mult_Validate k x0 H.length H fun v1 H2 =>
  bif !decide (v1 = 0) then
    κ ⟨none, 0⟩ H2
  else
  green_classes k x0 H2.length H2 fun r3 H4 =>
  alc H4 [(.sl ⟨none, 0⟩), (.sl ⟨none, 0⟩), (.sl ⟨none, 0⟩), (.sl ⟨none, 0⟩), (.sl ⟨none, 0⟩)] fun p5 H6 =>
  stn lo H6 p5 [(.sl r3.1), (.sl r3.2.1), (.sl r3.2.2.1), (.sl r3.2.2.2.1), (.sl r3.2.2.2.2)] fun H7 =>
  ldc H7 ⟨p5.b, p5.o + 4⟩ fun u8 => asS u8 fun v9 =>
  mks H7 [(.int .i64 0)] 8 (v9.len : Int) (v9.len : Int) fun s10 H11 =>
  green_Heights_1 k (some p5) s10 true lo H11 κ := by kernel_rfl
theorem green_Heights_1_eq {ρ : Type} (k : Nat) {x3 : Option Pt} {x4 : Sl} {x5 : Bool} {lo : Nat} {H : AH} {κ : Sl → AH → Option ρ} : green_Heights_1 (k + 1) x3 x4 x5 lo H κ =
  bif x5 then
    green_Heights_2 k x3 x4 false (x4.len : Int) 0 lo H κ
  else
  κ x4 H := by kernel_rfl
theorem green_Heights_2_eq {ρ : Type} (k : Nat) {x3 : Option Pt} {x4 : Sl} {x5 : Bool} {x19 : Int} {x20 : Int} {lo : Nat} {H : AH} {κ : Sl → AH → Option ρ} : green_Heights_2 (k + 1) x3 x4 x5 x19 x20 lo H κ =
  bif decide (x20 < x19) then
    green_Heights_3 k x3 x4 x5 x20 x19 x20 (x4.len : Int) 0 lo H κ
  else
  green_Heights_1 k x3 x4 x5 lo H κ := by kernel_rfl
theorem green_Heights_3_eq {ρ : Type} (k : Nat) {x3 : Option Pt} {x4 : Sl} {x5 : Bool} {x6 : Int} {x19 : Int} {x20 : Int} {x24 : Int} {x25 : Int} {lo : Nat} {H : AH} {κ : Sl → AH → Option ρ} : green_Heights_3 (k + 1) x3 x4 x5 x6 x19 x20 x24 x25 lo H κ =
  bif decide (x25 < x24) then
    andB (!decide (x6 = x25)) (fun _ κ' => asP (.ptr x3) fun p1 => 
      ldc H ⟨p1.b, p1.o + 4⟩ fun u2 => asS u2 fun v3 =>
      rdS H v3 x6 fun v4 =>
      rdB H v4 x25 fun v5 =>
      κ' v5 H) H fun b6 H7 =>
    andB b6 (fun _ κ' => rdI H7 x4 x6 fun v8 =>
      rdI H7 x4 x25 fun v9 =>
      κ' (decide (v8 < (W (v9 + 1)))) H7) H7 fun b10 H11 =>
    bif b10 then
      rdI H11 x4 x25 fun v12 =>
      idx x4 x6 1 fun p13 =>
      stc lo H11 p13 (.int .i64 (W (v12 + 1))) fun H14 =>
      green_Heights_4 k x3 x4 true x6 x19 x20 x24 x25 lo H14 κ
    else
    green_Heights_4 k x3 x4 x5 x6 x19 x20 x24 x25 lo H11 κ
  else
  green_Heights_2 k x3 x4 x5 x19 (W (x20 + 1)) lo H κ := by kernel_rfl
theorem green_Heights_4_eq {ρ : Type} (k : Nat) {x3 : Option Pt} {x4 : Sl} {x5 : Bool} {x6 : Int} {x19 : Int} {x20 : Int} {x24 : Int} {x25 : Int} {lo : Nat} {H : AH} {κ : Sl → AH → Option ρ} : green_Heights_4 (k + 1) x3 x4 x5 x6 x19 x20 x24 x25 lo H κ =
  green_Heights_3 k x3 x4 x5 x6 x19 x20 x24 (W (x25 + 1)) lo H κ := by kernel_rfl
theorem semigrouplaw15_awake_eq {ρ : Type} (k : Nat) {lo : Nat} {H : AH} {κ : Bool → AH → Option ρ} : semigrouplaw15_awake (k + 1) lo H κ =
  semigrouplaw15_flip k  H.length H fun v1 H2 =>
  green_Classes k v1 H2.length H2 fun r3 H4 =>
  alc H4 [(.sl ⟨none, 0⟩), (.sl ⟨none, 0⟩), (.sl ⟨none, 0⟩), (.sl ⟨none, 0⟩), (.sl ⟨none, 0⟩)] fun p5 H6 =>
  stn lo H6 p5 [(.sl r3.1), (.sl r3.2.1), (.sl r3.2.2.1), (.sl r3.2.2.2.1), (.sl r3.2.2.2.2)] fun H7 =>
  ldc H7 ⟨p5.b, p5.o + 2⟩ fun u8 => asS u8 fun v9 =>
  mkb H7 [(.int .i64 0), (.int .i64 0), (.int .i64 1)] 1 3 fun s10 H11 =>
  semigroupref03_Same k v9 s10 H11.length H11 fun v12 H13 =>
  andB v12 (fun _ κ' => ldc H13 ⟨p5.b, p5.o + 4⟩ fun u14 => asS u14 fun v15 =>
    κ' (decide ((v15.len : Int) = 2)) H13) H13 fun b16 H17 =>
  andB b16 (fun _ κ' => semigrouplaw15_flip k  H17.length H17 fun v18 H19 =>
    green_Heights k v18 H19.length H19 fun v20 H21 =>
    mkb H21 [(.int .i64 0), (.int .i64 1)] 1 2 fun s22 H23 =>
    semigroupref03_Same k v20 s22 H23.length H23 fun v24 H25 =>
    κ' v24 H25) H17 fun b26 H27 =>
  κ b26 H27 := by kernel_rfl
theorem green_Regular_eq {ρ : Type} (k : Nat) {x0 : Sl} {lo : Nat} {H : AH} {κ : Sl → AH → Option ρ} : green_Regular (k + 1) x0 lo H κ =
  mult_Validate k x0 H.length H fun v1 H2 =>
  bif !decide (v1 = 0) then
    κ ⟨none, 0⟩ H2
  else
  green_classes k x0 H2.length H2 fun r3 H4 =>
  alc H4 [(.sl ⟨none, 0⟩), (.sl ⟨none, 0⟩), (.sl ⟨none, 0⟩), (.sl ⟨none, 0⟩), (.sl ⟨none, 0⟩)] fun p5 H6 =>
  stn lo H6 p5 [(.sl r3.1), (.sl r3.2.1), (.sl r3.2.2.1), (.sl r3.2.2.2.1), (.sl r3.2.2.2.2)] fun H7 =>
  ldc H7 ⟨p5.b, p5.o + 4⟩ fun u8 => asS u8 fun v9 =>
  mks H7 [(.bool false)] 1 (v9.len : Int) (v9.len : Int) fun s10 H11 =>
  ldc H11 ⟨p5.b, p5.o + 2⟩ fun u12 => asS u12 fun v13 =>
  green_Regular_1 k x0 s10 v13 (v13.len : Int) 0 lo H11 κ := by kernel_rfl
theorem green_Regular_1_eq {ρ : Type} (k : Nat) {x0 : Sl} {x4 : Sl} {x17 : Sl} {x18 : Int} {x19 : Int} {lo : Nat} {H : AH} {κ : Sl → AH → Option ρ} : green_Regular_1 (k + 1) x0 x4 x17 x18 x19 lo H κ =
  bif decide (x19 < x18) then
    rdI H x17 x19 fun v1 =>
    rdB H x4 v1 fun v2 =>
    orB v2 (fun _ κ' => rdS H x0 x19 fun v3 =>
      rdI H v3 x19 fun v4 =>
      κ' (decide (v4 = x19)) H) H fun b5 H6 =>
    idx x4 v1 1 fun p7 =>
    stc lo H6 p7 (.bool b5) fun H8 =>
    green_Regular_1 k x0 x4 x17 x18 (W (x19 + 1)) lo H8 κ
  else
  κ x4 H := by kernel_rfl
theorem green_Inverses_eq {ρ : Type} (k : Nat) {x0 : Sl} {x1 : Int} {lo : Nat} {H : AH} {κ : Sl → AH → Option ρ} : green_Inverses (k + 1) x0 x1 lo H κ =
  mult_Validate k x0 H.length H fun v1 H2 =>
  orB (!decide (v1 = 0)) (fun _ κ' => κ' (decide (x1 < 0)) H2) H2 fun b3 H4 =>
  orB b3 (fun _ κ' => κ' (decide (x1 ≥ (x0.len : Int))) H4) H4 fun b5 H6 =>
  bif b5 then
    κ ⟨none, 0⟩ H6
  else
  green_Inverses_1 k x0 x1 ⟨none, 0⟩ (x0.len : Int) 0 lo H6 κ := by kernel_rfl
theorem green_Inverses_1_eq {ρ : Type} (k : Nat) {x0 : Sl} {x1 : Int} {x5 : Sl} {x21 : Int} {x22 : Int} {lo : Nat} {H : AH} {κ : Sl → AH → Option ρ} : green_Inverses_1 (k + 1) x0 x1 x5 x21 x22 lo H κ =
  bif decide (x22 < x21) then
    rdS H x0 x1 fun v1 =>
    rdI H v1 x22 fun v2 =>
    rdS H x0 v2 fun v3 =>
    rdI H v3 x1 fun v4 =>
    andB (decide (v4 = x1)) (fun _ κ' => rdS H x0 x22 fun v5 =>
      rdI H v5 x1 fun v6 =>
      rdS H x0 v6 fun v7 =>
      rdI H v7 x22 fun v8 =>
      κ' (decide (v8 = x22)) H) H fun b9 H10 =>
    bif b9 then
      mkb H10 [(.int .i64 x22)] 1 1 fun s11 H12 =>
      appS lo H12 x5 s11 1 8 fun s13 H14 =>
      green_Inverses_2 k x0 x1 s13 x21 x22 lo H14 κ
    else
    green_Inverses_2 k x0 x1 x5 x21 x22 lo H10 κ
  else
  κ x5 H := by kernel_rfl
theorem green_Inverses_2_eq {ρ : Type} (k : Nat) {x0 : Sl} {x1 : Int} {x5 : Sl} {x21 : Int} {x22 : Int} {lo : Nat} {H : AH} {κ : Sl → AH → Option ρ} : green_Inverses_2 (k + 1) x0 x1 x5 x21 x22 lo H κ =
  green_Inverses_1 k x0 x1 x5 x21 (W (x22 + 1)) lo H κ := by kernel_rfl
theorem mult_Idempotents_eq {ρ : Type} (k : Nat) {x0 : Sl} {lo : Nat} {H : AH} {κ : Sl → AH → Option ρ} : mult_Idempotents (k + 1) x0 lo H κ =
  mult_Validate k x0 H.length H fun v1 H2 =>
  bif !decide (v1 = 0) then
    κ ⟨none, 0⟩ H2
  else
  mult_Idempotents_1 k x0 ⟨none, 0⟩ (x0.len : Int) 0 lo H2 κ := by kernel_rfl
theorem mult_Idempotents_1_eq {ρ : Type} (k : Nat) {x0 : Sl} {x3 : Sl} {x9 : Int} {x10 : Int} {lo : Nat} {H : AH} {κ : Sl → AH → Option ρ} : mult_Idempotents_1 (k + 1) x0 x3 x9 x10 lo H κ =
  bif decide (x10 < x9) then
    rdS H x0 x10 fun v1 =>
    rdI H v1 x10 fun v2 =>
    bif decide (v2 = x10) then
      mkb H [(.int .i64 x10)] 1 1 fun s3 H4 =>
      appS lo H4 x3 s3 1 8 fun s5 H6 =>
      mult_Idempotents_2 k x0 s5 x9 x10 lo H6 κ
    else
    mult_Idempotents_2 k x0 x3 x9 x10 lo H κ
  else
  κ x3 H := by kernel_rfl
theorem mult_Idempotents_2_eq {ρ : Type} (k : Nat) {x0 : Sl} {x3 : Sl} {x9 : Int} {x10 : Int} {lo : Nat} {H : AH} {κ : Sl → AH → Option ρ} : mult_Idempotents_2 (k + 1) x0 x3 x9 x10 lo H κ =
  mult_Idempotents_1 k x0 x3 x9 (W (x10 + 1)) lo H κ := by kernel_rfl
theorem semigrouplaw15_GreenInverts_eq {ρ : Type} (k : Nat) {x0 : Sl} {x1 : Int} {lo : Nat} {H : AH} {κ : Bool → AH → Option ρ} : semigrouplaw15_GreenInverts (k + 1) x0 x1 lo H κ =
  semigrouplaw15_small k x0 16 H.length H fun v1 H2 =>
  orB (!v1) (fun _ κ' => mkb H2 [(.int .i64 x1)] 1 1 fun s3 H4 =>
    semigroupref14_In k x0 s3 H4.length H4 fun v5 H6 =>
    κ' (!v5) H6) H2 fun b7 H8 =>
  bif b7 then
    semigrouplaw15_awake k  H8.length H8 fun v9 H10 =>
    κ v9 H10
  else
  green_Classes k x0 H8.length H8 fun r11 H12 =>
  green_Regular k x0 H12.length H12 fun v13 H14 =>
  green_Inverses k x0 x1 H14.length H14 fun v15 H16 =>
  alc H16 [(.sl ⟨none, 0⟩), (.sl ⟨none, 0⟩), (.sl ⟨none, 0⟩), (.sl ⟨none, 0⟩), (.sl ⟨none, 0⟩)] fun p17 H18 =>
  stn lo H18 p17 [(.sl r11.1), (.sl r11.2.1), (.sl r11.2.2.1), (.sl r11.2.2.2.1), (.sl r11.2.2.2.2)] fun H19 =>
  ldc H19 ⟨p17.b, p17.o + 2⟩ fun u20 => asS u20 fun v21 =>
  orB (!decide ((v21.len : Int) = (x0.len : Int))) (fun _ κ' => ldc H19 ⟨p17.b, p17.o + 2⟩ fun u22 => asS u22 fun v23 =>
    rdI H19 v23 x1 fun v24 =>
    κ' (decide (v24 ≥ (v13.len : Int))) H19) H19 fun b25 H26 =>
  bif b25 then
    κ false H26
  else
  mult_Idempotents k x0 H26.length H26 fun v27 H28 =>
  semigrouplaw15_GreenInverts_1 k x1 (some p17) v13 v15 0 0 v27 (v27.len : Int) 0 lo H28 κ := by kernel_rfl
theorem semigrouplaw15_GreenInverts_1_eq {ρ : Type} (k : Nat) {x1 : Int} {x5 : Option Pt} {x6 : Sl} {x7 : Sl} {x8 : Int} {x9 : Int} {x47 : Sl} {x48 : Int} {x49 : Int} {lo : Nat} {H : AH} {κ : Bool → AH → Option ρ} : semigrouplaw15_GreenInverts_1 (k + 1) x1 x5 x6 x7 x8 x9 x47 x48 x49 lo H κ =
  bif decide (x49 < x48) then
    rdI H x47 x49 fun v1 =>
    asP (.ptr x5) fun p2 => 
    ldc H ⟨p2.b, p2.o + 1⟩ fun u3 => asS u3 fun v4 =>
    rdI H v4 v1 fun v5 =>
    asP (.ptr x5) fun p6 => 
    ldc H ⟨p6.b, p6.o + 1⟩ fun u7 => asS u7 fun v8 =>
    rdI H v8 x1 fun v9 =>
    bif decide (v5 = v9) then
      semigrouplaw15_GreenInverts_2 k x1 x5 x6 x7 (W (x8 + 1)) x9 v1 x47 x48 x49 lo H κ
    else
    semigrouplaw15_GreenInverts_2 k x1 x5 x6 x7 x8 x9 v1 x47 x48 x49 lo H κ
  else
  andB (decide ((x7.len : Int) = (W (x8 * x9)))) (fun _ κ' => asP (.ptr x5) fun p10 => 
    ldc H ⟨p10.b, p10.o + 2⟩ fun u11 => asS u11 fun v12 =>
    rdI H v12 x1 fun v13 =>
    rdB H x6 v13 fun v14 =>
    κ' ((decide ((x7.len : Int) > 0)) == v14) H) H fun b15 H16 =>
  andB b15 (fun _ κ' => semigrouplaw15_awake k  H16.length H16 fun v17 H18 =>
    κ' v17 H18) H16 fun b19 H20 =>
  κ b19 H20 := by kernel_rfl
theorem semigrouplaw15_GreenInverts_2_eq {ρ : Type} (k : Nat) {x1 : Int} {x5 : Option Pt} {x6 : Sl} {x7 : Sl} {x8 : Int} {x9 : Int} {x11 : Int} {x47 : Sl} {x48 : Int} {x49 : Int} {lo : Nat} {H : AH} {κ : Bool → AH → Option ρ} : semigrouplaw15_GreenInverts_2 (k + 1) x1 x5 x6 x7 x8 x9 x11 x47 x48 x49 lo H κ =
  asP (.ptr x5) fun p1 => 
  ldc H ⟨p1.b, p1.o + 0⟩ fun u2 => asS u2 fun v3 =>
  rdI H v3 x11 fun v4 =>
  asP (.ptr x5) fun p5 => 
  ldc H ⟨p5.b, p5.o + 0⟩ fun u6 => asS u6 fun v7 =>
  rdI H v7 x1 fun v8 =>
  bif decide (v4 = v8) then
    semigrouplaw15_GreenInverts_3 k x1 x5 x6 x7 x8 (W (x9 + 1)) x47 x48 x49 lo H κ
  else
  semigrouplaw15_GreenInverts_3 k x1 x5 x6 x7 x8 x9 x47 x48 x49 lo H κ := by kernel_rfl
theorem semigrouplaw15_GreenInverts_3_eq {ρ : Type} (k : Nat) {x1 : Int} {x5 : Option Pt} {x6 : Sl} {x7 : Sl} {x8 : Int} {x9 : Int} {x47 : Sl} {x48 : Int} {x49 : Int} {lo : Nat} {H : AH} {κ : Bool → AH → Option ρ} : semigrouplaw15_GreenInverts_3 (k + 1) x1 x5 x6 x7 x8 x9 x47 x48 x49 lo H κ =
  semigrouplaw15_GreenInverts_1 k x1 x5 x6 x7 x8 x9 x47 x48 (W (x49 + 1)) lo H κ := by kernel_rfl
end Go.Ab
