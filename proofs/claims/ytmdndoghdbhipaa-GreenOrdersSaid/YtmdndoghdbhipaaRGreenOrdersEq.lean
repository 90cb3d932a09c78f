/- Each label's equation. Printed. -/
import Derived.Test.YtmdndoghdbhipaaRGreenOrdersIr
import Derived.Test.YtmdndoghdbhipaaAbAS
import Derived.KernelRfl
set_option linter.unusedVariables false
namespace Go.Ab
theorem noid_ok : noidG G = true := by kernel_rfl
theorem semigrouplaw15_awake_true {H : AH} : Ev (fun _ k κ => semigrouplaw15_awake k H.length H κ) (fun v _ => v = true) := ev_awake (k := 400) noid_ok (by kernel_rfl) H
theorem semigroupref14_Shape_eq {ρ : Type} (k : Nat) {x0 : Sl} {lo : Nat} {H : AH} {κ : Int → AH → Option ρ} : semigroupref14_Shape (k + 1) x0 lo H κ =
  bif decide ((x0.len : Int) > 400) then
    κ 3 H
  else
  bif decide ((x0.len : Int) = 0) then
    κ 4 H
  else
  semigroupref14_Shape_1 k x0 x0 (x0.len : Int) 0 lo H κ := by kernel_rfl
theorem semigroupref14_Shape_1_eq {ρ : Type} (k : Nat) {x0 : Sl} {x13 : Sl} {x14 : Int} {x15 : Int} {lo : Nat} {H : AH} {κ : Int → AH → Option ρ} : semigroupref14_Shape_1 (k + 1) x0 x13 x14 x15 lo H κ =
  bif decide (x15 < x14) then
    rdS H x13 x15 fun v1 =>
    bif !decide ((v1.len : Int) = (x0.len : Int)) then
      κ 4 H
    else
    semigroupref14_Shape_2 k x0 x13 x14 x15 v1 (v1.len : Int) 0 lo H κ
  else
  κ 0 H := by kernel_rfl
theorem semigroupref14_Shape_2_eq {ρ : Type} (k : Nat) {x0 : Sl} {x13 : Sl} {x14 : Int} {x15 : Int} {x24 : Sl} {x25 : Int} {x26 : Int} {lo : Nat} {H : AH} {κ : Int → AH → Option ρ} : semigroupref14_Shape_2 (k + 1) x0 x13 x14 x15 x24 x25 x26 lo H κ =
  bif decide (x26 < x25) then
    rdI H x24 x26 fun v1 =>
    orB (decide (v1 < 0)) (fun _ κ' => κ' (decide (v1 ≥ (x0.len : Int))) H) H fun b2 H3 =>
    bif b2 then
      κ 4 H3
    else
    semigroupref14_Shape_2 k x0 x13 x14 x15 x24 x25 (W (x26 + 1)) lo H3 κ
  else
  semigroupref14_Shape_1 k x0 x13 x14 (W (x15 + 1)) lo H κ := by kernel_rfl
theorem semigroupref14_Associative_eq {ρ : Type} (k : Nat) {x0 : Sl} {lo : Nat} {H : AH} {κ : (Int × Int × Int × Int) → AH → Option ρ} : semigroupref14_Associative (k + 1) x0 lo H κ =
  semigroupref14_Shape k x0 H.length H fun v1 H2 =>
  bif !decide (v1 = 0) then
    κ (0, 0, 0, v1) H2
  else
  semigroupref14_Associative_1 k x0 (x0.len : Int) 0 lo H2 κ := by kernel_rfl
theorem semigroupref14_Associative_1_eq {ρ : Type} (k : Nat) {x0 : Sl} {x16 : Int} {x17 : Int} {lo : Nat} {H : AH} {κ : (Int × Int × Int × Int) → AH → Option ρ} : semigroupref14_Associative_1 (k + 1) x0 x16 x17 lo H κ =
  bif decide (x17 < x16) then
    semigroupref14_Associative_2 k x0 x17 x16 x17 (x0.len : Int) 0 lo H κ
  else
  κ (0, 0, 0, 0) H := by kernel_rfl
theorem semigroupref14_Associative_2_eq {ρ : Type} (k : Nat) {x0 : Sl} {x7 : Int} {x16 : Int} {x17 : Int} {x21 : Int} {x22 : Int} {lo : Nat} {H : AH} {κ : (Int × Int × Int × Int) → AH → Option ρ} : semigroupref14_Associative_2 (k + 1) x0 x7 x16 x17 x21 x22 lo H κ =
  bif decide (x22 < x21) then
    semigroupref14_Associative_3 k x0 x7 x22 x16 x17 x21 x22 (x0.len : Int) 0 lo H κ
  else
  semigroupref14_Associative_1 k x0 x16 (W (x17 + 1)) lo H κ := by kernel_rfl
theorem semigroupref14_Associative_3_eq {ρ : Type} (k : Nat) {x0 : Sl} {x7 : Int} {x8 : Int} {x16 : Int} {x17 : Int} {x21 : Int} {x22 : Int} {x26 : Int} {x27 : Int} {lo : Nat} {H : AH} {κ : (Int × Int × Int × Int) → AH → Option ρ} : semigroupref14_Associative_3 (k + 1) x0 x7 x8 x16 x17 x21 x22 x26 x27 lo H κ =
  bif decide (x27 < x26) then
    rdS H x0 x7 fun v1 =>
    rdI H v1 x8 fun v2 =>
    rdS H x0 v2 fun v3 =>
    rdI H v3 x27 fun v4 =>
    rdS H x0 x7 fun v5 =>
    rdS H x0 x8 fun v6 =>
    rdI H v6 x27 fun v7 =>
    rdI H v5 v7 fun v8 =>
    bif !decide (v4 = v8) then
      κ (x7, x8, x27, 5) H
    else
    semigroupref14_Associative_3 k x0 x7 x8 x16 x17 x21 x22 x26 (W (x27 + 1)) lo H κ
  else
  semigroupref14_Associative_2 k x0 x7 x16 x17 x21 (W (x22 + 1)) lo H κ := by kernel_rfl
theorem semigroupref14_Validate_eq {ρ : Type} (k : Nat) {x0 : Sl} {lo : Nat} {H : AH} {κ : Int → AH → Option ρ} : semigroupref14_Validate (k + 1) x0 lo H κ =
  semigroupref14_Associative k x0 H.length H fun r1 H2 =>
  κ r1.2.2.2 H2 := by kernel_rfl
theorem semigroupref14_Valid_eq {ρ : Type} (k : Nat) {x0 : Sl} {lo : Nat} {H : AH} {κ : Bool → AH → Option ρ} : semigroupref14_Valid (k + 1) x0 lo H κ =
  semigroupref14_Validate k x0 H.length H fun v1 H2 =>
  κ (decide (v1 = 0)) H2 := by kernel_rfl
theorem semigrouplaw15_small_eq {ρ : Type} (k : Nat) {x0 : Sl} {x1 : Int} {lo : Nat} {H : AH} {κ : Bool → AH → Option ρ} : semigrouplaw15_small (k + 1) x0 x1 lo H κ =
  andB (decide ((x0.len : Int) ≤ x1)) (fun _ κ' => semigroupref14_Valid k x0 H.length H fun v1 H2 =>
    κ' v1 H2) H fun b3 H4 =>
  κ b3 H4 := by kernel_rfl
theorem semigroupref14_In_eq {ρ : Type} (k : Nat) {x0 : Sl} {x1 : Sl} {lo : Nat} {H : AH} {κ : Bool → AH → Option ρ} : semigroupref14_In (k + 1) x0 x1 lo H κ =
  semigroupref14_In_1 k x0 x1 (x1.len : Int) 0 lo H κ := by kernel_rfl
theorem semigroupref14_In_1_eq {ρ : Type} (k : Nat) {x0 : Sl} {x7 : Sl} {x8 : Int} {x9 : Int} {lo : Nat} {H : AH} {κ : Bool → AH → Option ρ} : semigroupref14_In_1 (k + 1) x0 x7 x8 x9 lo H κ =
  bif decide (x9 < x8) then
    rdI H x7 x9 fun v1 =>
    orB (decide (v1 < 0)) (fun _ κ' => κ' (decide (v1 ≥ (x0.len : Int))) H) H fun b2 H3 =>
    bif b2 then
      κ false H3
    else
    semigroupref14_In_1 k x0 x7 x8 (W (x9 + 1)) lo H3 κ
  else
  κ true H := by kernel_rfl
theorem semigrouplaw15_flip_eq {ρ : Type} (k : Nat) {lo : Nat} {H : AH} {κ : Sl → AH → Option ρ} : semigrouplaw15_flip (k + 1) lo H κ =
  mkb H [(.int .i64 0), (.int .i64 1), (.int .i64 2)] 1 3 fun s1 H2 =>
  mkb H2 [(.int .i64 1), (.int .i64 0), (.int .i64 2)] 1 3 fun s3 H4 =>
  mkb H4 [(.int .i64 2), (.int .i64 2), (.int .i64 2)] 1 3 fun s5 H6 =>
  mkb H6 [(.sl s1), (.sl s3), (.sl s5)] 1 3 fun s7 H8 =>
  κ s7 H8 := by kernel_rfl
theorem mult_shape_eq {ρ : Type} (k : Nat) {x0 : Sl} {lo : Nat} {H : AH} {κ : Int → AH → Option ρ} : mult_shape (k + 1) x0 lo H κ =
  bif decide ((x0.len : Int) > 400) then
    κ 3 H
  else
  bif decide ((x0.len : Int) = 0) then
    κ 4 H
  else
  mult_shape_1 k x0 x0 (x0.len : Int) 0 lo H κ := by kernel_rfl
theorem mult_shape_1_eq {ρ : Type} (k : Nat) {x0 : Sl} {x15 : Sl} {x16 : Int} {x17 : Int} {lo : Nat} {H : AH} {κ : Int → AH → Option ρ} : mult_shape_1 (k + 1) x0 x15 x16 x17 lo H κ =
  bif decide (x17 < x16) then
    rdS H x15 x17 fun v1 =>
    bif !decide ((v1.len : Int) = (x0.len : Int)) then
      κ 4 H
    else
    mult_shape_2 k x0 x15 x16 x17 v1 (v1.len : Int) 0 lo H κ
  else
  κ 0 H := by kernel_rfl
theorem mult_shape_2_eq {ρ : Type} (k : Nat) {x0 : Sl} {x15 : Sl} {x16 : Int} {x17 : Int} {x26 : Sl} {x27 : Int} {x28 : Int} {lo : Nat} {H : AH} {κ : Int → AH → Option ρ} : mult_shape_2 (k + 1) x0 x15 x16 x17 x26 x27 x28 lo H κ =
  bif decide (x28 < x27) then
    rdI H x26 x28 fun v1 =>
    orB (decide (v1 < 0)) (fun _ κ' => κ' (decide (v1 ≥ (x0.len : Int))) H) H fun b2 H3 =>
    bif b2 then
      κ 4 H3
    else
    mult_shape_2 k x0 x15 x16 x17 x26 x27 (W (x28 + 1)) lo H3 κ
  else
  mult_shape_1 k x0 x15 x16 (W (x17 + 1)) lo H κ := by kernel_rfl
theorem mult_failing_eq {ρ : Type} (k : Nat) {x0 : Sl} {lo : Nat} {H : AH} {κ : (Int × Int × Int × Bool) → AH → Option ρ} : mult_failing (k + 1) x0 lo H κ =
  mult_failing_1 k x0 (x0.len : Int) 0 lo H κ := by kernel_rfl
theorem mult_failing_1_eq {ρ : Type} (k : Nat) {x0 : Sl} {x10 : Int} {x11 : Int} {lo : Nat} {H : AH} {κ : (Int × Int × Int × Bool) → AH → Option ρ} : mult_failing_1 (k + 1) x0 x10 x11 lo H κ =
  bif decide (x11 < x10) then
    mult_failing_2 k x0 x11 x10 x11 (x0.len : Int) 0 lo H κ
  else
  κ (0, 0, 0, false) H := by kernel_rfl
theorem mult_failing_2_eq {ρ : Type} (k : Nat) {x0 : Sl} {x6 : Int} {x10 : Int} {x11 : Int} {x15 : Int} {x16 : Int} {lo : Nat} {H : AH} {κ : (Int × Int × Int × Bool) → AH → Option ρ} : mult_failing_2 (k + 1) x0 x6 x10 x11 x15 x16 lo H κ =
  bif decide (x16 < x15) then
    mult_failing_3 k x0 x6 x16 x10 x11 x15 x16 (x0.len : Int) 0 lo H κ
  else
  mult_failing_1 k x0 x10 (W (x11 + 1)) lo H κ := by kernel_rfl
theorem mult_failing_3_eq {ρ : Type} (k : Nat) {x0 : Sl} {x6 : Int} {x7 : Int} {x10 : Int} {x11 : Int} {x15 : Int} {x16 : Int} {x20 : Int} {x21 : Int} {lo : Nat} {H : AH} {κ : (Int × Int × Int × Bool) → AH → Option ρ} : mult_failing_3 (k + 1) x0 x6 x7 x10 x11 x15 x16 x20 x21 lo H κ =
  bif decide (x21 < x20) then
    rdS H x0 x6 fun v1 =>
    rdI H v1 x7 fun v2 =>
    rdS H x0 v2 fun v3 =>
    rdI H v3 x21 fun v4 =>
    rdS H x0 x6 fun v5 =>
    rdS H x0 x7 fun v6 =>
    rdI H v6 x21 fun v7 =>
    rdI H v5 v7 fun v8 =>
    bif !decide (v4 = v8) then
      κ (x6, x7, x21, true) H
    else
    mult_failing_3 k x0 x6 x7 x10 x11 x15 x16 x20 (W (x21 + 1)) lo H κ
  else
  mult_failing_2 k x0 x6 x10 x11 x15 (W (x16 + 1)) lo H κ := by kernel_rfl
theorem mult_Validate_eq {ρ : Type} (k : Nat) {x0 : Sl} {lo : Nat} {H : AH} {κ : Int → AH → Option ρ} : mult_Validate (k + 1) x0 lo H κ =
  mult_shape k x0 H.length H fun v1 H2 =>
  bif !decide (v1 = 0) then
    κ v1 H2
  else
  mult_failing k x0 H2.length H2 fun r3 H4 =>
  bif r3.2.2.2 then
    κ 5 H4
  else
  κ 0 H4 := by kernel_rfl
theorem green_right_eq {ρ : Type} (k : Nat) {x0 : Sl} {lo : Nat} {H : AH} {κ : Sl → AH → Option ρ} : green_right (k + 1) x0 lo H κ =
  mks H [(.sl ⟨none, 0⟩)] 24 (x0.len : Int) (x0.len : Int) fun s1 H2 =>
  green_right_1 k x0 s1 (x0.len : Int) 0 lo H2 κ := by kernel_rfl
theorem green_right_1_eq {ρ : Type} (k : Nat) {x0 : Sl} {x3 : Sl} {x10 : Int} {x11 : Int} {lo : Nat} {H : AH} {κ : Sl → AH → Option ρ} : green_right_1 (k + 1) x0 x3 x10 x11 lo H κ =
  bif decide (x11 < x10) then
    mks H [(.bool false)] 1 (x0.len : Int) (x0.len : Int) fun s1 H2 =>
    idx x3 x11 1 fun p3 =>
    stc lo H2 p3 (.sl s1) fun H4 =>
    rdS H4 x3 x11 fun v5 =>
    idx v5 x11 1 fun p6 =>
    stc lo H4 p6 (.bool true) fun H7 =>
    green_right_2 k x0 x3 x11 x10 x11 (x0.len : Int) 0 lo H7 κ
  else
  κ x3 H := by kernel_rfl
theorem green_right_2_eq {ρ : Type} (k : Nat) {x0 : Sl} {x3 : Sl} {x4 : Int} {x10 : Int} {x11 : Int} {x27 : Int} {x28 : Int} {lo : Nat} {H : AH} {κ : Sl → AH → Option ρ} : green_right_2 (k + 1) x0 x3 x4 x10 x11 x27 x28 lo H κ =
  bif decide (x28 < x27) then
    rdS H x3 x4 fun v1 =>
    rdS H x0 x4 fun v2 =>
    rdI H v2 x28 fun v3 =>
    idx v1 v3 1 fun p4 =>
    stc lo H p4 (.bool true) fun H5 =>
    green_right_2 k x0 x3 x4 x10 x11 x27 (W (x28 + 1)) lo H5 κ
  else
  green_right_1 k x0 x3 x10 (W (x11 + 1)) lo H κ := by kernel_rfl
theorem green_left_eq {ρ : Type} (k : Nat) {x0 : Sl} {lo : Nat} {H : AH} {κ : Sl → AH → Option ρ} : green_left (k + 1) x0 lo H κ =
  mks H [(.sl ⟨none, 0⟩)] 24 (x0.len : Int) (x0.len : Int) fun s1 H2 =>
  green_left_1 k x0 s1 (x0.len : Int) 0 lo H2 κ := by kernel_rfl
theorem green_left_1_eq {ρ : Type} (k : Nat) {x0 : Sl} {x3 : Sl} {x10 : Int} {x11 : Int} {lo : Nat} {H : AH} {κ : Sl → AH → Option ρ} : green_left_1 (k + 1) x0 x3 x10 x11 lo H κ =
  bif decide (x11 < x10) then
    mks H [(.bool false)] 1 (x0.len : Int) (x0.len : Int) fun s1 H2 =>
    idx x3 x11 1 fun p3 =>
    stc lo H2 p3 (.sl s1) fun H4 =>
    rdS H4 x3 x11 fun v5 =>
    idx v5 x11 1 fun p6 =>
    stc lo H4 p6 (.bool true) fun H7 =>
    green_left_2 k x0 x3 x11 x10 x11 (x0.len : Int) 0 lo H7 κ
  else
  κ x3 H := by kernel_rfl
theorem green_left_2_eq {ρ : Type} (k : Nat) {x0 : Sl} {x3 : Sl} {x4 : Int} {x10 : Int} {x11 : Int} {x27 : Int} {x28 : Int} {lo : Nat} {H : AH} {κ : Sl → AH → Option ρ} : green_left_2 (k + 1) x0 x3 x4 x10 x11 x27 x28 lo H κ =
  bif decide (x28 < x27) then
    rdS H x3 x4 fun v1 =>
    rdS H x0 x28 fun v2 =>
    rdI H v2 x4 fun v3 =>
    idx v1 v3 1 fun p4 =>
    stc lo H p4 (.bool true) fun H5 =>
    green_left_2 k x0 x3 x4 x10 x11 x27 (W (x28 + 1)) lo H5 κ
  else
  green_left_1 k x0 x3 x10 (W (x11 + 1)) lo H κ := by kernel_rfl
theorem green_two_eq {ρ : Type} (k : Nat) {x0 : Sl} {lo : Nat} {H : AH} {κ : Sl → AH → Option ρ} : green_two (k + 1) x0 lo H κ =
  green_right k x0 H.length H fun v1 H2 =>
  green_left k x0 H2.length H2 fun v3 H4 =>
  mks H4 [(.sl ⟨none, 0⟩)] 24 (x0.len : Int) (x0.len : Int) fun s5 H6 =>
  green_two_1 k x0 v1 v3 s5 (x0.len : Int) 0 lo H6 κ := by kernel_rfl
theorem green_two_1_eq {ρ : Type} (k : Nat) {x0 : Sl} {x3 : Sl} {x4 : Sl} {x5 : Sl} {x19 : Int} {x20 : Int} {lo : Nat} {H : AH} {κ : Sl → AH → Option ρ} : green_two_1 (k + 1) x0 x3 x4 x5 x19 x20 lo H κ =
  bif decide (x20 < x19) then
    mks H [(.bool false)] 1 (x0.len : Int) (x0.len : Int) fun s1 H2 =>
    idx x5 x20 1 fun p3 =>
    stc lo H2 p3 (.sl s1) fun H4 =>
    rdS H4 x4 x20 fun v5 =>
    green_two_2 k x0 x3 x4 x5 x20 x19 x20 v5 (v5.len : Int) 0 lo H4 κ
  else
  κ x5 H := by kernel_rfl
theorem green_two_2_eq {ρ : Type} (k : Nat) {x0 : Sl} {x3 : Sl} {x4 : Sl} {x5 : Sl} {x6 : Int} {x19 : Int} {x20 : Int} {x32 : Sl} {x33 : Int} {x34 : Int} {lo : Nat} {H : AH} {κ : Sl → AH → Option ρ} : green_two_2 (k + 1) x0 x3 x4 x5 x6 x19 x20 x32 x33 x34 lo H κ =
  bif decide (x34 < x33) then
    rdB H x32 x34 fun v1 =>
    bif !v1 then
      green_two_4 k x0 x3 x4 x5 x6 x19 x20 x32 x33 x34 lo H κ
    else
    rdS H x3 x34 fun v2 =>
    green_two_3 k x0 x3 x4 x5 x6 x19 x20 x32 x33 x34 v2 (v2.len : Int) 0 lo H κ
  else
  green_two_1 k x0 x3 x4 x5 x19 (W (x20 + 1)) lo H κ := by kernel_rfl
theorem green_two_3_eq {ρ : Type} (k : Nat) {x0 : Sl} {x3 : Sl} {x4 : Sl} {x5 : Sl} {x6 : Int} {x19 : Int} {x20 : Int} {x32 : Sl} {x33 : Int} {x34 : Int} {x44 : Sl} {x45 : Int} {x46 : Int} {lo : Nat} {H : AH} {κ : Sl → AH → Option ρ} : green_two_3 (k + 1) x0 x3 x4 x5 x6 x19 x20 x32 x33 x34 x44 x45 x46 lo H κ =
  bif decide (x46 < x45) then
    rdB H x44 x46 fun v1 =>
    rdS H x5 x6 fun v2 =>
    rdS H x5 x6 fun v3 =>
    rdB H v3 x46 fun v4 =>
    orB v4 (fun _ κ' => κ' v1 H) H fun b5 H6 =>
    idx v2 x46 1 fun p7 =>
    stc lo H6 p7 (.bool b5) fun H8 =>
    green_two_3 k x0 x3 x4 x5 x6 x19 x20 x32 x33 x34 x44 x45 (W (x46 + 1)) lo H8 κ
  else
  green_two_4 k x0 x3 x4 x5 x6 x19 x20 x32 x33 x34 lo H κ := by kernel_rfl
theorem green_two_4_eq {ρ : Type} (k : Nat) {x0 : Sl} {x3 : Sl} {x4 : Sl} {x5 : Sl} {x6 : Int} {x19 : Int} {x20 : Int} {x32 : Sl} {x33 : Int} {x34 : Int} {lo : Nat} {H : AH} {κ : Sl → AH → Option ρ} : green_two_4 (k + 1) x0 x3 x4 x5 x6 x19 x20 x32 x33 x34 lo H κ =
  green_two_2 k x0 x3 x4 x5 x6 x19 x20 x32 x33 (W (x34 + 1)) lo H κ := by kernel_rfl
theorem green_mutual_eq {ρ : Type} (k : Nat) {x0 : Sl} {lo : Nat} {H : AH} {κ : Sl → AH → Option ρ} : green_mutual (k + 1) x0 lo H κ =
  mks H [(.int .i64 0)] 8 (x0.len : Int) (x0.len : Int) fun s1 H2 =>
  green_mutual_1 k x0 s1 (s1.len : Int) 0 lo H2 κ := by kernel_rfl
theorem green_mutual_1_eq {ρ : Type} (k : Nat) {x0 : Sl} {x3 : Sl} {x12 : Int} {x13 : Int} {lo : Nat} {H : AH} {κ : Sl → AH → Option ρ} : green_mutual_1 (k + 1) x0 x3 x12 x13 lo H κ =
  bif decide (x13 < x12) then
    idx x3 x13 1 fun p1 =>
    stc lo H p1 (.int .i64 (-1)) fun H2 =>
    green_mutual_1 k x0 x3 x12 (W (x13 + 1)) lo H2 κ
  else
  green_mutual_2 k x0 x3 0 (x3.len : Int) 0 lo H κ := by kernel_rfl
theorem green_mutual_2_eq {ρ : Type} (k : Nat) {x0 : Sl} {x3 : Sl} {x5 : Int} {x21 : Int} {x22 : Int} {lo : Nat} {H : AH} {κ : Sl → AH → Option ρ} : green_mutual_2 (k + 1) x0 x3 x5 x21 x22 lo H κ =
  bif decide (x22 < x21) then
    rdI H x3 x22 fun v1 =>
    bif decide (v1 ≥ 0) then
      green_mutual_5 k x0 x3 x5 x21 x22 lo H κ
    else
    green_mutual_3 k x0 x3 x5 x22 x22 x21 x22 lo H κ
  else
  κ x3 H := by kernel_rfl
theorem green_mutual_3_eq {ρ : Type} (k : Nat) {x0 : Sl} {x3 : Sl} {x5 : Int} {x6 : Int} {x7 : Int} {x21 : Int} {x22 : Int} {lo : Nat} {H : AH} {κ : Sl → AH → Option ρ} : green_mutual_3 (k + 1) x0 x3 x5 x6 x7 x21 x22 lo H κ =
  bif decide (x7 < (x3.len : Int)) then
    rdS H x0 x6 fun v1 =>
    rdB H v1 x7 fun v2 =>
    andB v2 (fun _ κ' => rdS H x0 x7 fun v3 =>
      rdB H v3 x6 fun v4 =>
      κ' v4 H) H fun b5 H6 =>
    bif b5 then
      idx x3 x7 1 fun p7 =>
      stc lo H6 p7 (.int .i64 x5) fun H8 =>
      green_mutual_4 k x0 x3 x5 x6 x7 x21 x22 lo H8 κ
    else
    green_mutual_4 k x0 x3 x5 x6 x7 x21 x22 lo H6 κ
  else
  green_mutual_5 k x0 x3 (W (x5 + 1)) x21 x22 lo H κ := by kernel_rfl
theorem green_mutual_4_eq {ρ : Type} (k : Nat) {x0 : Sl} {x3 : Sl} {x5 : Int} {x6 : Int} {x7 : Int} {x21 : Int} {x22 : Int} {lo : Nat} {H : AH} {κ : Sl → AH → Option ρ} : green_mutual_4 (k + 1) x0 x3 x5 x6 x7 x21 x22 lo H κ =
  green_mutual_3 k x0 x3 x5 x6 (W (x7 + 1)) x21 x22 lo H κ := by kernel_rfl
theorem green_mutual_5_eq {ρ : Type} (k : Nat) {x0 : Sl} {x3 : Sl} {x5 : Int} {x21 : Int} {x22 : Int} {lo : Nat} {H : AH} {κ : Sl → AH → Option ρ} : green_mutual_5 (k + 1) x0 x3 x5 x21 x22 lo H κ =
  green_mutual_2 k x0 x3 x5 x21 (W (x22 + 1)) lo H κ := by kernel_rfl
theorem partition_Valid_eq {ρ : Type} (k : Nat) {x0 : Sl} {lo : Nat} {H : AH} {κ : Bool → AH → Option ρ} : partition_Valid (k + 1) x0 lo H κ =
  bif decide ((x0.len : Int) > 4096) then
    κ false H
  else
  partition_Valid_1 k 0 x0 (x0.len : Int) 0 lo H κ := by kernel_rfl
theorem partition_Valid_1_eq {ρ : Type} (k : Nat) {x3 : Int} {x9 : Sl} {x10 : Int} {x11 : Int} {lo : Nat} {H : AH} {κ : Bool → AH → Option ρ} : partition_Valid_1 (k + 1) x3 x9 x10 x11 lo H κ =
  bif decide (x11 < x10) then
    rdI H x9 x11 fun v1 =>
    orB (decide (v1 < 0)) (fun _ κ' => κ' (decide (v1 > x3)) H) H fun b2 H3 =>
    bif b2 then
      κ false H3
    else
    bif decide (v1 = x3) then
      partition_Valid_2 k (W (x3 + 1)) x9 x10 x11 lo H3 κ
    else
    partition_Valid_2 k x3 x9 x10 x11 lo H3 κ
  else
  κ true H := by kernel_rfl
theorem partition_Valid_2_eq {ρ : Type} (k : Nat) {x3 : Int} {x9 : Sl} {x10 : Int} {x11 : Int} {lo : Nat} {H : AH} {κ : Bool → AH → Option ρ} : partition_Valid_2 (k + 1) x3 x9 x10 x11 lo H κ =
  partition_Valid_1 k x3 x9 x10 (W (x11 + 1)) lo H κ := by kernel_rfl
theorem partition_both_eq {ρ : Type} (k : Nat) {x0 : Sl} {x1 : Sl} {lo : Nat} {H : AH} {κ : Bool → AH → Option ρ} : partition_both (k + 1) x0 x1 lo H κ =
  andB (decide ((x0.len : Int) = (x1.len : Int))) (fun _ κ' => partition_Valid k x0 H.length H fun v1 H2 =>
    κ' v1 H2) H fun b3 H4 =>
  andB b3 (fun _ κ' => partition_Valid k x1 H4.length H4 fun v5 H6 =>
    κ' v5 H6) H4 fun b7 H8 =>
  κ b7 H8 := by kernel_rfl
theorem partition_Canonical_eq {ρ : Type} (k : Nat) {x0 : Sl} {lo : Nat} {H : AH} {κ : Sl → AH → Option ρ} : partition_Canonical (k + 1) x0 lo H κ =
  bif decide ((x0.len : Int) > 4096) then
    κ ⟨none, 0⟩ H
  else
  mkm H fun m2 H1 =>
  mks H1 [(.int .i64 0)] 8 (x0.len : Int) (x0.len : Int) fun s3 H4 =>
  partition_Canonical_1 k (some m2) s3 x0 (x0.len : Int) 0 lo H4 κ := by kernel_rfl
theorem partition_Canonical_1_eq {ρ : Type} (k : Nat) {x3 : Option Nat} {x4 : Sl} {x16 : Sl} {x17 : Int} {x18 : Int} {lo : Nat} {H : AH} {κ : Sl → AH → Option ρ} : partition_Canonical_1 (k + 1) x3 x4 x16 x17 x18 lo H κ =
  bif decide (x18 < x17) then
    rdI H x16 x18 fun v1 =>
    mlook false H x3 (.int .i64 v1) fun r2 => asI .i64 (Option.getD r2 (.int .i64 0)) fun v3 =>
    bif !(Option.isSome r2) then
      mlen H x3 fun v4 =>
      mput false lo H x3 (.int .i64 v1) (.int .i64 v4) fun H5 =>
      partition_Canonical_2 k x3 x4 x18 v4 x16 x17 x18 lo H5 κ
    else
    partition_Canonical_2 k x3 x4 x18 v3 x16 x17 x18 lo H κ
  else
  κ x4 H := by kernel_rfl
theorem partition_Canonical_2_eq {ρ : Type} (k : Nat) {x3 : Option Nat} {x4 : Sl} {x5 : Int} {x7 : Int} {x16 : Sl} {x17 : Int} {x18 : Int} {lo : Nat} {H : AH} {κ : Sl → AH → Option ρ} : partition_Canonical_2 (k + 1) x3 x4 x5 x7 x16 x17 x18 lo H κ =
  idx x4 x5 1 fun p1 =>
  stc lo H p1 (.int .i64 x7) fun H2 =>
  partition_Canonical_1 k x3 x4 x16 x17 (W (x18 + 1)) lo H2 κ := by kernel_rfl
theorem partition_Meet_eq {ρ : Type} (k : Nat) {x0 : Sl} {x1 : Sl} {lo : Nat} {H : AH} {κ : Sl → AH → Option ρ} : partition_Meet (k + 1) x0 x1 lo H κ =
  partition_both k x0 x1 H.length H fun v1 H2 =>
  bif !v1 then
    κ ⟨none, 0⟩ H2
  else
  mks H2 [(.int .i64 0)] 8 (x0.len : Int) (x0.len : Int) fun s3 H4 =>
  partition_Meet_1 k x0 x1 s3 (x0.len : Int) 0 lo H4 κ := by kernel_rfl
theorem partition_Meet_1_eq {ρ : Type} (k : Nat) {x0 : Sl} {x1 : Sl} {x5 : Sl} {x15 : Int} {x16 : Int} {lo : Nat} {H : AH} {κ : Sl → AH → Option ρ} : partition_Meet_1 (k + 1) x0 x1 x5 x15 x16 lo H κ =
  bif decide (x16 < x15) then
    rdI H x0 x16 fun v1 =>
    rdI H x1 x16 fun v2 =>
    idx x5 x16 1 fun p3 =>
    stc lo H p3 (.int .i64 (W ((W (v1 * 4096)) + v2))) fun H4 =>
    partition_Meet_1 k x0 x1 x5 x15 (W (x16 + 1)) lo H4 κ
  else
  partition_Canonical k x5 H.length H fun v5 H6 =>
  κ v5 H6 := by kernel_rfl
theorem green_firsts_eq {ρ : Type} (k : Nat) {x0 : Sl} {lo : Nat} {H : AH} {κ : Sl → AH → Option ρ} : green_firsts (k + 1) x0 lo H κ =
  green_firsts_1 k ⟨none, 0⟩ x0 (x0.len : Int) 0 lo H κ := by kernel_rfl
theorem green_firsts_1_eq {ρ : Type} (k : Nat) {x3 : Sl} {x6 : Sl} {x7 : Int} {x8 : Int} {lo : Nat} {H : AH} {κ : Sl → AH → Option ρ} : green_firsts_1 (k + 1) x3 x6 x7 x8 lo H κ =
  bif decide (x8 < x7) then
    rdI H x6 x8 fun v1 =>
    bif decide (v1 = (x3.len : Int)) then
      mkb H [(.int .i64 x8)] 1 1 fun s2 H3 =>
      appS lo H3 x3 s2 1 8 fun s4 H5 =>
      green_firsts_2 k s4 x6 x7 x8 lo H5 κ
    else
    green_firsts_2 k x3 x6 x7 x8 lo H κ
  else
  κ x3 H := by kernel_rfl
theorem green_firsts_2_eq {ρ : Type} (k : Nat) {x3 : Sl} {x6 : Sl} {x7 : Int} {x8 : Int} {lo : Nat} {H : AH} {κ : Sl → AH → Option ρ} : green_firsts_2 (k + 1) x3 x6 x7 x8 lo H κ =
  green_firsts_1 k x3 x6 x7 (W (x8 + 1)) lo H κ := by kernel_rfl
theorem green_classes_eq {ρ : Type} (k : Nat) {x0 : Sl} {lo : Nat} {H : AH} {κ : (Sl × Sl × Sl × Sl × Sl) → AH → Option ρ} : green_classes (k + 1) x0 lo H κ =
  alc H [(.sl ⟨none, 0⟩), (.sl ⟨none, 0⟩), (.sl ⟨none, 0⟩), (.sl ⟨none, 0⟩), (.sl ⟨none, 0⟩)] fun p1 H2 =>
  green_two k x0 H2.length H2 fun v3 H4 =>
  green_right k x0 H4.length H4 fun v5 H6 =>
  green_mutual k v5 H6.length H6 fun v7 H8 =>
  green_left k x0 H8.length H8 fun v9 H10 =>
  green_mutual k v9 H10.length H10 fun v11 H12 =>
  green_mutual k v3 H12.length H12 fun v13 H14 =>
  alc H14 [(.sl ⟨none, 0⟩), (.sl ⟨none, 0⟩), (.sl ⟨none, 0⟩), (.sl ⟨none, 0⟩), (.sl ⟨none, 0⟩)] fun p15 H16 =>
  stn lo H16 p15 [(.sl v7), (.sl v11), (.sl v13), (.sl ⟨none, 0⟩), (.sl ⟨none, 0⟩)] fun H17 =>
  ldc H17 ⟨p15.b, p15.o + 0⟩ fun u18 => asS u18 fun v19 =>
  ldc H17 ⟨p15.b, p15.o + 1⟩ fun u20 => asS u20 fun v21 =>
  partition_Meet k v19 v21 H17.length H17 fun v22 H23 =>
  stc lo H23 ⟨p15.b, p15.o + 3⟩ (.sl v22) fun H24 =>
  ldc H24 ⟨p15.b, p15.o + 2⟩ fun u25 => asS u25 fun v26 =>
  green_firsts k v26 H24.length H24 fun v27 H28 =>
  mks H28 [(.sl ⟨none, 0⟩)] 24 (v27.len : Int) (v27.len : Int) fun s29 H30 =>
  stc lo H30 ⟨p15.b, p15.o + 4⟩ (.sl s29) fun H31 =>
  green_classes_1 k (some p1) v3 (some p15) v27 v27 (v27.len : Int) 0 lo H31 κ := by kernel_rfl
theorem green_classes_1_eq {ρ : Type} (k : Nat) {x2 : Option Pt} {x3 : Sl} {x4 : Option Pt} {x5 : Sl} {x34 : Sl} {x35 : Int} {x36 : Int} {lo : Nat} {H : AH} {κ : (Sl × Sl × Sl × Sl × Sl) → AH → Option ρ} : green_classes_1 (k + 1) x2 x3 x4 x5 x34 x35 x36 lo H κ =
  bif decide (x36 < x35) then
    rdI H x34 x36 fun v1 =>
    asP (.ptr x4) fun p2 => 
    ldc H ⟨p2.b, p2.o + 4⟩ fun u3 => asS u3 fun v4 =>
    mks H [(.bool false)] 1 (x5.len : Int) (x5.len : Int) fun s5 H6 =>
    idx v4 x36 1 fun p7 =>
    stc lo H6 p7 (.sl s5) fun H8 =>
    green_classes_2 k x2 x3 x4 x5 x36 v1 x34 x35 x36 x5 (x5.len : Int) 0 lo H8 κ
  else
  asP (.ptr x4) fun p9 => ldA_sssss H p9 fun v10 v11 v12 v13 v14 =>
  asP (.ptr x2) fun p15 => stn lo H p15 [(.sl v10), (.sl v11), (.sl v12), (.sl v13), (.sl v14)] fun H16 =>
  asP (.ptr x2) fun p17 => ldA_sssss H16 p17 fun v18 v19 v20 v21 v22 => κ (v18, v19, v20, v21, v22) H16 := by kernel_rfl
theorem green_classes_2_eq {ρ : Type} (k : Nat) {x2 : Option Pt} {x3 : Sl} {x4 : Option Pt} {x5 : Sl} {x6 : Int} {x7 : Int} {x34 : Sl} {x35 : Int} {x36 : Int} {x48 : Sl} {x49 : Int} {x50 : Int} {lo : Nat} {H : AH} {κ : (Sl × Sl × Sl × Sl × Sl) → AH → Option ρ} : green_classes_2 (k + 1) x2 x3 x4 x5 x6 x7 x34 x35 x36 x48 x49 x50 lo H κ =
  bif decide (x50 < x49) then
    rdI H x48 x50 fun v1 =>
    asP (.ptr x4) fun p2 => 
    ldc H ⟨p2.b, p2.o + 4⟩ fun u3 => asS u3 fun v4 =>
    rdS H v4 x6 fun v5 =>
    rdS H x3 v1 fun v6 =>
    rdB H v6 x7 fun v7 =>
    idx v5 x50 1 fun p8 =>
    stc lo H p8 (.bool v7) fun H9 =>
    green_classes_2 k x2 x3 x4 x5 x6 x7 x34 x35 x36 x48 x49 (W (x50 + 1)) lo H9 κ
  else
  green_classes_1 k x2 x3 x4 x5 x34 x35 (W (x36 + 1)) lo H κ := by kernel_rfl
theorem green_Classes_eq {ρ : Type} (k : Nat) {x0 : Sl} {lo : Nat} {H : AH} {κ : (Sl × Sl × Sl × Sl × Sl) → AH → Option ρ} : green_Classes (k + 1) x0 lo H κ =
  alc H [(.sl ⟨none, 0⟩), (.sl ⟨none, 0⟩), (.sl ⟨none, 0⟩), (.sl ⟨none, 0⟩), (.sl ⟨none, 0⟩)] fun p1 H2 =>
  mult_Validate k x0 H2.length H2 fun v3 H4 =>
  bif !decide (v3 = 0) then
    stn lo H4 p1 [(.sl ⟨none, 0⟩), (.sl ⟨none, 0⟩), (.sl ⟨none, 0⟩), (.sl ⟨none, 0⟩), (.sl ⟨none, 0⟩)] fun H5 =>
    ldA_sssss H5 p1 fun v6 v7 v8 v9 v10 => κ (v6, v7, v8, v9, v10) H5
  else
  green_classes k x0 H4.length H4 fun r11 H12 =>
  stn lo H12 p1 [(.sl r11.1), (.sl r11.2.1), (.sl r11.2.2.1), (.sl r11.2.2.2.1), (.sl r11.2.2.2.2)] fun H13 =>
  ldA_sssss H13 p1 fun v14 v15 v16 v17 v18 => κ (v14, v15, v16, v17, v18) H13 := by kernel_rfl
theorem semigroupref03_Same_eq {ρ : Type} (k : Nat) {x0 : Sl} {x1 : Sl} {lo : Nat} {H : AH} {κ : Bool → AH → Option ρ} : semigroupref03_Same (k + 1) x0 x1 lo H κ =
  bif !decide ((x0.len : Int) = (x1.len : Int)) then
    κ false H
  else
  semigroupref03_Same_1 k x0 x1 (x0.len : Int) 0 lo H κ := by kernel_rfl
theorem semigroupref03_Same_1_eq {ρ : Type} (k : Nat) {x0 : Sl} {x1 : Sl} {x12 : Int} {x13 : Int} {lo : Nat} {H : AH} {κ : Bool → AH → Option ρ} : semigroupref03_Same_1 (k + 1) x0 x1 x12 x13 lo H κ =
  bif decide (x13 < x12) then
    rdI H x0 x13 fun v1 =>
    rdI H x1 x13 fun v2 =>
    bif !decide (v1 = v2) then
      κ false H
    else
    semigroupref03_Same_1 k x0 x1 x12 (W (x13 + 1)) lo H κ
  else
  κ true H := by kernel_rfl
theorem green_Heights_eq {ρ : Type} (k : Nat) {x0 : Sl} {lo : Nat} {H : AH} {κ : Sl → AH → Option ρ} : green_Heights (k + 1) x0 lo H κ =
  mult_Validate k x0 H.length H fun v1 H2 =>
  bif !decide (v1 = 0) then
    κ ⟨none, 0⟩ H2
  else
  green_classes k x0 H2.length H2 fun r3 H4 =>
  alc H4 [(.sl ⟨none, 0⟩), (.sl ⟨none, 0⟩), (.sl ⟨none, 0⟩), (.sl ⟨none, 0⟩), (.sl ⟨none, 0⟩)] fun p5 H6 =>
  stn lo H6 p5 [(.sl r3.1), (.sl r3.2.1), (.sl r3.2.2.1), (.sl r3.2.2.2.1), (.sl r3.2.2.2.2)] fun H7 =>
  ldc H7 ⟨p5.b, p5.o + 4⟩ fun u8 => asS u8 fun v9 =>
  mks H7 [(.int .i64 0)] 8 (v9.len : Int) (v9.len : Int) fun s10 H11 =>
  green_Heights_1 k (some p5) s10 true lo H11 κ := by kernel_rfl
theorem green_Heights_1_eq {ρ : Type} (k : Nat) {x3 : Option Pt} {x4 : Sl} {x5 : Bool} {lo : Nat} {H : AH} {κ : Sl → AH → Option ρ} : green_Heights_1 (k + 1) x3 x4 x5 lo H κ =
  bif x5 then
    green_Heights_2 k x3 x4 false (x4.len : Int) 0 lo H κ
  else
  κ x4 H := by kernel_rfl
theorem green_Heights_2_eq {ρ : Type} (k : Nat) {x3 : Option Pt} {x4 : Sl} {x5 : Bool} {x19 : Int} {x20 : Int} {lo : Nat} {H : AH} {κ : Sl → AH → Option ρ} : green_Heights_2 (k + 1) x3 x4 x5 x19 x20 lo H κ =
  bif decide (x20 < x19) then
    green_Heights_3 k x3 x4 x5 x20 x19 x20 (x4.len : Int) 0 lo H κ
  else
  green_Heights_1 k x3 x4 x5 lo H κ := by kernel_rfl
theorem green_Heights_3_eq {ρ : Type} (k : Nat) {x3 : Option Pt} {x4 : Sl} {x5 : Bool} {x6 : Int} {x19 : Int} {x20 : Int} {x24 : Int} {x25 : Int} {lo : Nat} {H : AH} {κ : Sl → AH → Option ρ} : green_Heights_3 (k + 1) x3 x4 x5 x6 x19 x20 x24 x25 lo H κ =
  bif decide (x25 < x24) then
    andB (!decide (x6 = x25)) (fun _ κ' => asP (.ptr x3) fun p1 => 
      ldc H ⟨p1.b, p1.o + 4⟩ fun u2 => asS u2 fun v3 =>
      rdS H v3 x6 fun v4 =>
      rdB H v4 x25 fun v5 =>
      κ' v5 H) H fun b6 H7 =>
    andB b6 (fun _ κ' => rdI H7 x4 x6 fun v8 =>
      rdI H7 x4 x25 fun v9 =>
      κ' (decide (v8 < (W (v9 + 1)))) H7) H7 fun b10 H11 =>
    bif b10 then
      rdI H11 x4 x25 fun v12 =>
      idx x4 x6 1 fun p13 =>
      stc lo H11 p13 (.int .i64 (W (v12 + 1))) fun H14 =>
      green_Heights_4 k x3 x4 true x6 x19 x20 x24 x25 lo H14 κ
    else
    green_Heights_4 k x3 x4 x5 x6 x19 x20 x24 x25 lo H11 κ
  else
  green_Heights_2 k x3 x4 x5 x19 (W (x20 + 1)) lo H κ := by kernel_rfl
theorem green_Heights_4_eq {ρ : Type} (k : Nat) {x3 : Option Pt} {x4 : Sl} {x5 : Bool} {x6 : Int} {x19 : Int} {x20 : Int} {x24 : Int} {x25 : Int} {lo : Nat} {H : AH} {κ : Sl → AH → Option ρ} : green_Heights_4 (k + 1) x3 x4 x5 x6 x19 x20 x24 x25 lo H κ =
  green_Heights_3 k x3 x4 x5 x6 x19 x20 x24 (W (x25 + 1)) lo H κ := by kernel_rfl
theorem semigrouplaw15_awake_eq {ρ : Type} (k : Nat) {lo : Nat} {H : AH} {κ : Bool → AH → Option ρ} : semigrouplaw15_awake (k + 1) lo H κ =
  semigrouplaw15_flip k  H.length H fun v1 H2 =>
  green_Classes k v1 H2.length H2 fun r3 H4 =>
  alc H4 [(.sl ⟨none, 0⟩), (.sl ⟨none, 0⟩), (.sl ⟨none, 0⟩), (.sl ⟨none, 0⟩), (.sl ⟨none, 0⟩)] fun p5 H6 =>
  stn lo H6 p5 [(.sl r3.1), (.sl r3.2.1), (.sl r3.2.2.1), (.sl r3.2.2.2.1), (.sl r3.2.2.2.2)] fun H7 =>
  ldc H7 ⟨p5.b, p5.o + 2⟩ fun u8 => asS u8 fun v9 =>
  mkb H7 [(.int .i64 0), (.int .i64 0), (.int .i64 1)] 1 3 fun s10 H11 =>
  semigroupref03_Same k v9 s10 H11.length H11 fun v12 H13 =>
  andB v12 (fun _ κ' => ldc H13 ⟨p5.b, p5.o + 4⟩ fun u14 => asS u14 fun v15 =>
    κ' (decide ((v15.len : Int) = 2)) H13) H13 fun b16 H17 =>
  andB b16 (fun _ κ' => semigrouplaw15_flip k  H17.length H17 fun v18 H19 =>
    green_Heights k v18 H19.length H19 fun v20 H21 =>
    mkb H21 [(.int .i64 0), (.int .i64 1)] 1 2 fun s22 H23 =>
    semigroupref03_Same k v20 s22 H23.length H23 fun v24 H25 =>
    κ' v24 H25) H17 fun b26 H27 =>
  κ b26 H27 := by kernel_rfl
theorem green_leq_eq {ρ : Type} (k : Nat) {x0 : Sl} {x1 : Int} {x2 : Int} {x3 : AV} {lo : Nat} {H : AH} {κ : Bool → AH → Option ρ} : green_leq (k + 1) x0 x1 x2 x3 lo H κ =
  mult_Validate k x0 H.length H fun v1 H2 =>
  orB (!decide (v1 = 0)) (fun _ κ' => κ' (decide (x1 < 0)) H2) H2 fun b3 H4 =>
  orB b3 (fun _ κ' => κ' (decide (x1 ≥ (x0.len : Int))) H4) H4 fun b5 H6 =>
  orB b5 (fun _ κ' => κ' (decide (x2 < 0)) H6) H6 fun b7 H8 =>
  orB b7 (fun _ κ' => κ' (decide (x2 ≥ (x0.len : Int))) H8) H8 fun b9 H10 =>
  bif b9 then
    κ false H10
  else
  callX G k x3 [(.sl x0)] lo H10 fun u11 H13 => asS u11 fun v12 => 
  rdS H13 v12 x2 fun v14 =>
  rdB H13 v14 x1 fun v15 =>
  κ v15 H13 := by kernel_rfl
theorem green_LeqR_eq {ρ : Type} (k : Nat) {x0 : Sl} {x1 : Int} {x2 : Int} {lo : Nat} {H : AH} {κ : Bool → AH → Option ρ} : green_LeqR (k + 1) x0 x1 x2 lo H κ =
  green_leq k x0 x1 x2 (.clo 10 []) H.length H fun v1 H2 =>
  κ v1 H2 := by kernel_rfl
theorem green_LeqL_eq {ρ : Type} (k : Nat) {x0 : Sl} {x1 : Int} {x2 : Int} {lo : Nat} {H : AH} {κ : Bool → AH → Option ρ} : green_LeqL (k + 1) x0 x1 x2 lo H κ =
  green_leq k x0 x1 x2 (.clo 11 []) H.length H fun v1 H2 =>
  κ v1 H2 := by kernel_rfl
theorem green_LeqJ_eq {ρ : Type} (k : Nat) {x0 : Sl} {x1 : Int} {x2 : Int} {lo : Nat} {H : AH} {κ : Bool → AH → Option ρ} : green_LeqJ (k + 1) x0 x1 x2 lo H κ =
  green_leq k x0 x1 x2 (.clo 12 []) H.length H fun v1 H2 =>
  κ v1 H2 := by kernel_rfl
theorem semigrouplaw15_GreenOrders_eq {ρ : Type} (k : Nat) {x0 : Sl} {x1 : Int} {x2 : Int} {x3 : Int} {lo : Nat} {H : AH} {κ : Bool → AH → Option ρ} : semigrouplaw15_GreenOrders (k + 1) x0 x1 x2 x3 lo H κ =
  semigrouplaw15_small k x0 16 H.length H fun v1 H2 =>
  orB (!v1) (fun _ κ' => mkb H2 [(.int .i64 x1), (.int .i64 x2), (.int .i64 x3)] 1 3 fun s3 H4 =>
    semigroupref14_In k x0 s3 H4.length H4 fun v5 H6 =>
    κ' (!v5) H6) H2 fun b7 H8 =>
  bif b7 then
    semigrouplaw15_awake k  H8.length H8 fun v9 H10 =>
    κ v9 H10
  else
  green_Classes k x0 H8.length H8 fun r11 H12 =>
  alc H12 [(.sl ⟨none, 0⟩), (.sl ⟨none, 0⟩), (.sl ⟨none, 0⟩), (.sl ⟨none, 0⟩), (.sl ⟨none, 0⟩)] fun p13 H14 =>
  stn lo H14 p13 [(.sl r11.1), (.sl r11.2.1), (.sl r11.2.2.1), (.sl r11.2.2.2.1), (.sl r11.2.2.2.2)] fun H15 =>
  ldc H15 ⟨p13.b, p13.o + 0⟩ fun u16 => asS u16 fun v17 =>
  orB (!decide ((v17.len : Int) = (x0.len : Int))) (fun _ κ' => ldc H15 ⟨p13.b, p13.o + 1⟩ fun u18 => asS u18 fun v19 =>
    κ' (!decide ((v19.len : Int) = (x0.len : Int))) H15) H15 fun b20 H21 =>
  orB b20 (fun _ κ' => ldc H21 ⟨p13.b, p13.o + 2⟩ fun u22 => asS u22 fun v23 =>
    κ' (!decide ((v23.len : Int) = (x0.len : Int))) H21) H21 fun b24 H25 =>
  orB b24 (fun _ κ' => ldc H25 ⟨p13.b, p13.o + 3⟩ fun u26 => asS u26 fun v27 =>
    κ' (!decide ((v27.len : Int) = (x0.len : Int))) H25) H25 fun b28 H29 =>
  bif b28 then
    κ false H29
  else
  rdS H29 x0 x1 fun v30 =>
  rdI H29 v30 x2 fun v31 =>
  green_LeqR k x0 v31 x1 H29.length H29 fun v32 H33 =>
  orB (!v32) (fun _ κ' => green_LeqL k x0 v31 x2 H33.length H33 fun v34 H35 =>
    κ' (!v34) H35) H33 fun b36 H37 =>
  orB b36 (fun _ κ' => green_LeqJ k x0 v31 x1 H37.length H37 fun v38 H39 =>
    κ' (!v38) H39) H37 fun b40 H41 =>
  orB b40 (fun _ κ' => green_LeqJ k x0 v31 x2 H41.length H41 fun v42 H43 =>
    κ' (!v42) H43) H41 fun b44 H45 =>
  bif b44 then
    κ false H45
  else
  green_LeqR k x0 x1 x2 H45.length H45 fun v46 H47 =>
  andB v46 (fun _ κ' => green_LeqR k x0 x2 x3 H47.length H47 fun v48 H49 =>
    κ' v48 H49) H47 fun b50 H51 =>
  andB b50 (fun _ κ' => green_LeqR k x0 x1 x3 H51.length H51 fun v52 H53 =>
    κ' (!v52) H53) H51 fun b54 H55 =>
  orB b54 (fun _ κ' => green_LeqJ k x0 x1 x2 H55.length H55 fun v56 H57 =>
    andB v56 (fun _ κ' => green_LeqJ k x0 x2 x3 H57.length H57 fun v58 H59 =>
      κ' v58 H59) H57 fun b60 H61 =>
    andB b60 (fun _ κ' => green_LeqJ k x0 x1 x3 H61.length H61 fun v62 H63 =>
      κ' (!v62) H63) H61 fun b64 H65 =>
    κ' b64 H65) H55 fun b66 H67 =>
  bif b66 then
    κ false H67
  else
  ldc H67 ⟨p13.b, p13.o + 0⟩ fun u68 => asS u68 fun v69 =>
  rdI H67 v69 x1 fun v70 =>
  ldc H67 ⟨p13.b, p13.o + 0⟩ fun u71 => asS u71 fun v72 =>
  rdI H67 v72 x2 fun v73 =>
  green_LeqR k x0 x1 x2 H67.length H67 fun v74 H75 =>
  andB v74 (fun _ κ' => green_LeqR k x0 x2 x1 H75.length H75 fun v76 H77 =>
    κ' v76 H77) H75 fun b78 H79 =>
  andB ((decide (v70 = v73)) == b78) (fun _ κ' => ldc H79 ⟨p13.b, p13.o + 1⟩ fun u80 => asS u80 fun v81 =>
    rdI H79 v81 x1 fun v82 =>
    ldc H79 ⟨p13.b, p13.o + 1⟩ fun u83 => asS u83 fun v84 =>
    rdI H79 v84 x2 fun v85 =>
    green_LeqL k x0 x1 x2 H79.length H79 fun v86 H87 =>
    andB v86 (fun _ κ' => green_LeqL k x0 x2 x1 H87.length H87 fun v88 H89 =>
      κ' v88 H89) H87 fun b90 H91 =>
    κ' ((decide (v82 = v85)) == b90) H91) H79 fun b92 H93 =>
  andB b92 (fun _ κ' => ldc H93 ⟨p13.b, p13.o + 2⟩ fun u94 => asS u94 fun v95 =>
    rdI H93 v95 x1 fun v96 =>
    ldc H93 ⟨p13.b, p13.o + 2⟩ fun u97 => asS u97 fun v98 =>
    rdI H93 v98 x2 fun v99 =>
    green_LeqJ k x0 x1 x2 H93.length H93 fun v100 H101 =>
    andB v100 (fun _ κ' => green_LeqJ k x0 x2 x1 H101.length H101 fun v102 H103 =>
      κ' v102 H103) H101 fun b104 H105 =>
    κ' ((decide (v96 = v99)) == b104) H105) H93 fun b106 H107 =>
  andB b106 (fun _ κ' => ldc H107 ⟨p13.b, p13.o + 3⟩ fun u108 => asS u108 fun v109 =>
    rdI H107 v109 x1 fun v110 =>
    ldc H107 ⟨p13.b, p13.o + 3⟩ fun u111 => asS u111 fun v112 =>
    rdI H107 v112 x2 fun v113 =>
    ldc H107 ⟨p13.b, p13.o + 0⟩ fun u114 => asS u114 fun v115 =>
    rdI H107 v115 x1 fun v116 =>
    ldc H107 ⟨p13.b, p13.o + 0⟩ fun u117 => asS u117 fun v118 =>
    rdI H107 v118 x2 fun v119 =>
    andB (decide (v116 = v119)) (fun _ κ' => ldc H107 ⟨p13.b, p13.o + 1⟩ fun u120 => asS u120 fun v121 =>
      rdI H107 v121 x1 fun v122 =>
      ldc H107 ⟨p13.b, p13.o + 1⟩ fun u123 => asS u123 fun v124 =>
      rdI H107 v124 x2 fun v125 =>
      κ' (decide (v122 = v125)) H107) H107 fun b126 H127 =>
    κ' ((decide (v110 = v113)) == b126) H127) H107 fun b128 H129 =>
  andB b128 (fun _ κ' => semigrouplaw15_awake k  H129.length H129 fun v130 H131 =>
    κ' v130 H131) H129 fun b132 H133 =>
  κ b132 H133 := by kernel_rfl
end Go.Ab
