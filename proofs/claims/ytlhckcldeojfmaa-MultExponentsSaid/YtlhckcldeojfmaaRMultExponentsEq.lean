/- Each label's equation. Printed. -/
import Derived.Test.YtlhckcldeojfmaaRMultExponentsIr
import Derived.KernelRfl
set_option linter.unusedVariables false
namespace Go.Ab
theorem semigroupref14_Shape_eq {ρ : Type} (k : Nat) {x0 : Sl} {lo : Nat} {H : AH} {κ : Int → AH → Option ρ} : semigroupref14_Shape (k + 1) x0 lo H κ =
  bif decide ((x0.len : Int) > 400) then
    κ 3 H
  else
  bif decide ((x0.len : Int) = 0) then
    κ 4 H
  else
  semigroupref14_Shape_1 k x0 x0 (x0.len : Int) 0 lo H κ := by kernel_rfl
theorem semigroupref14_Shape_1_eq {ρ : Type} (k : Nat) {x0 : Sl} {x13 : Sl} {x14 : Int} {x15 : Int} {lo : Nat} {H : AH} {κ : Int → AH → Option ρ} : semigroupref14_Shape_1 (k + 1) x0 x13 x14 x15 lo H κ =
  bif decide (x15 < x14) then
    rdS H x13 x15 fun v1 =>
    bif !decide ((v1.len : Int) = (x0.len : Int)) then
      κ 4 H
    else
    semigroupref14_Shape_2 k x0 x13 x14 x15 v1 (v1.len : Int) 0 lo H κ
  else
  κ 0 H := by kernel_rfl
theorem semigroupref14_Shape_2_eq {ρ : Type} (k : Nat) {x0 : Sl} {x13 : Sl} {x14 : Int} {x15 : Int} {x24 : Sl} {x25 : Int} {x26 : Int} {lo : Nat} {H : AH} {κ : Int → AH → Option ρ} : semigroupref14_Shape_2 (k + 1) x0 x13 x14 x15 x24 x25 x26 lo H κ =
  bif decide (x26 < x25) then
    rdI H x24 x26 fun v1 =>
    orB (decide (v1 < 0)) (fun _ κ' => κ' (decide (v1 ≥ (x0.len : Int))) H) H fun b2 H3 =>
    bif b2 then
      κ 4 H3
    else
    semigroupref14_Shape_2 k x0 x13 x14 x15 x24 x25 (W (x26 + 1)) lo H3 κ
  else
  semigroupref14_Shape_1 k x0 x13 x14 (W (x15 + 1)) lo H κ := by kernel_rfl
theorem semigroupref14_Associative_eq {ρ : Type} (k : Nat) {x0 : Sl} {lo : Nat} {H : AH} {κ : (Int × Int × Int × Int) → AH → Option ρ} : semigroupref14_Associative (k + 1) x0 lo H κ =
  semigroupref14_Shape k x0 H.length H fun v1 H2 =>
  bif !decide (v1 = 0) then
    κ (0, 0, 0, v1) H2
  else
  semigroupref14_Associative_1 k x0 (x0.len : Int) 0 lo H2 κ := by kernel_rfl
theorem semigroupref14_Associative_1_eq {ρ : Type} (k : Nat) {x0 : Sl} {x16 : Int} {x17 : Int} {lo : Nat} {H : AH} {κ : (Int × Int × Int × Int) → AH → Option ρ} : semigroupref14_Associative_1 (k + 1) x0 x16 x17 lo H κ =
  bif decide (x17 < x16) then
    semigroupref14_Associative_2 k x0 x17 x16 x17 (x0.len : Int) 0 lo H κ
  else
  κ (0, 0, 0, 0) H := by kernel_rfl
theorem semigroupref14_Associative_2_eq {ρ : Type} (k : Nat) {x0 : Sl} {x7 : Int} {x16 : Int} {x17 : Int} {x21 : Int} {x22 : Int} {lo : Nat} {H : AH} {κ : (Int × Int × Int × Int) → AH → Option ρ} : semigroupref14_Associative_2 (k + 1) x0 x7 x16 x17 x21 x22 lo H κ =
  bif decide (x22 < x21) then
    semigroupref14_Associative_3 k x0 x7 x22 x16 x17 x21 x22 (x0.len : Int) 0 lo H κ
  else
  semigroupref14_Associative_1 k x0 x16 (W (x17 + 1)) lo H κ := by kernel_rfl
theorem semigroupref14_Associative_3_eq {ρ : Type} (k : Nat) {x0 : Sl} {x7 : Int} {x8 : Int} {x16 : Int} {x17 : Int} {x21 : Int} {x22 : Int} {x26 : Int} {x27 : Int} {lo : Nat} {H : AH} {κ : (Int × Int × Int × Int) → AH → Option ρ} : semigroupref14_Associative_3 (k + 1) x0 x7 x8 x16 x17 x21 x22 x26 x27 lo H κ =
  bif decide (x27 < x26) then
    rdS H x0 x7 fun v1 =>
    rdI H v1 x8 fun v2 =>
    rdS H x0 v2 fun v3 =>
    rdI H v3 x27 fun v4 =>
    rdS H x0 x7 fun v5 =>
    rdS H x0 x8 fun v6 =>
    rdI H v6 x27 fun v7 =>
    rdI H v5 v7 fun v8 =>
    bif !decide (v4 = v8) then
      κ (x7, x8, x27, 5) H
    else
    semigroupref14_Associative_3 k x0 x7 x8 x16 x17 x21 x22 x26 (W (x27 + 1)) lo H κ
  else
  semigroupref14_Associative_2 k x0 x7 x16 x17 x21 (W (x22 + 1)) lo H κ := by kernel_rfl
theorem semigroupref14_Validate_eq {ρ : Type} (k : Nat) {x0 : Sl} {lo : Nat} {H : AH} {κ : Int → AH → Option ρ} : semigroupref14_Validate (k + 1) x0 lo H κ =
  semigroupref14_Associative k x0 H.length H fun r1 H2 =>
  κ r1.2.2.2 H2 := by kernel_rfl
theorem semigroupref14_Valid_eq {ρ : Type} (k : Nat) {x0 : Sl} {lo : Nat} {H : AH} {κ : Bool → AH → Option ρ} : semigroupref14_Valid (k + 1) x0 lo H κ =
  semigroupref14_Validate k x0 H.length H fun v1 H2 =>
  κ (decide (v1 = 0)) H2 := by kernel_rfl
theorem semigrouplaw14_small_eq {ρ : Type} (k : Nat) {x0 : Sl} {x1 : Int} {lo : Nat} {H : AH} {κ : Bool → AH → Option ρ} : semigrouplaw14_small (k + 1) x0 x1 lo H κ =
  andB (decide ((x0.len : Int) ≤ x1)) (fun _ κ' => semigroupref14_Valid k x0 H.length H fun v1 H2 =>
    κ' v1 H2) H fun b3 H4 =>
  κ b3 H4 := by kernel_rfl
theorem semigroupref14_In_eq {ρ : Type} (k : Nat) {x0 : Sl} {x1 : Sl} {lo : Nat} {H : AH} {κ : Bool → AH → Option ρ} : semigroupref14_In (k + 1) x0 x1 lo H κ =
  semigroupref14_In_1 k x0 x1 (x1.len : Int) 0 lo H κ := by kernel_rfl
theorem semigroupref14_In_1_eq {ρ : Type} (k : Nat) {x0 : Sl} {x7 : Sl} {x8 : Int} {x9 : Int} {lo : Nat} {H : AH} {κ : Bool → AH → Option ρ} : semigroupref14_In_1 (k + 1) x0 x7 x8 x9 lo H κ =
  bif decide (x9 < x8) then
    rdI H x7 x9 fun v1 =>
    orB (decide (v1 < 0)) (fun _ κ' => κ' (decide (v1 ≥ (x0.len : Int))) H) H fun b2 H3 =>
    bif b2 then
      κ false H3
    else
    semigroupref14_In_1 k x0 x7 x8 (W (x9 + 1)) lo H3 κ
  else
  κ true H := by kernel_rfl
theorem mult_shape_eq {ρ : Type} (k : Nat) {x0 : Sl} {lo : Nat} {H : AH} {κ : Int → AH → Option ρ} : mult_shape (k + 1) x0 lo H κ =
  bif decide ((x0.len : Int) > 400) then
    κ 3 H
  else
  bif decide ((x0.len : Int) = 0) then
    κ 4 H
  else
  mult_shape_1 k x0 x0 (x0.len : Int) 0 lo H κ := by kernel_rfl
theorem mult_shape_1_eq {ρ : Type} (k : Nat) {x0 : Sl} {x15 : Sl} {x16 : Int} {x17 : Int} {lo : Nat} {H : AH} {κ : Int → AH → Option ρ} : mult_shape_1 (k + 1) x0 x15 x16 x17 lo H κ =
  bif decide (x17 < x16) then
    rdS H x15 x17 fun v1 =>
    bif !decide ((v1.len : Int) = (x0.len : Int)) then
      κ 4 H
    else
    mult_shape_2 k x0 x15 x16 x17 v1 (v1.len : Int) 0 lo H κ
  else
  κ 0 H := by kernel_rfl
theorem mult_shape_2_eq {ρ : Type} (k : Nat) {x0 : Sl} {x15 : Sl} {x16 : Int} {x17 : Int} {x26 : Sl} {x27 : Int} {x28 : Int} {lo : Nat} {H : AH} {κ : Int → AH → Option ρ} : mult_shape_2 (k + 1) x0 x15 x16 x17 x26 x27 x28 lo H κ =
  bif decide (x28 < x27) then
    rdI H x26 x28 fun v1 =>
    orB (decide (v1 < 0)) (fun _ κ' => κ' (decide (v1 ≥ (x0.len : Int))) H) H fun b2 H3 =>
    bif b2 then
      κ 4 H3
    else
    mult_shape_2 k x0 x15 x16 x17 x26 x27 (W (x28 + 1)) lo H3 κ
  else
  mult_shape_1 k x0 x15 x16 (W (x17 + 1)) lo H κ := by kernel_rfl
theorem mult_failing_eq {ρ : Type} (k : Nat) {x0 : Sl} {lo : Nat} {H : AH} {κ : (Int × Int × Int × Bool) → AH → Option ρ} : mult_failing (k + 1) x0 lo H κ =
  mult_failing_1 k x0 (x0.len : Int) 0 lo H κ := by kernel_rfl
theorem mult_failing_1_eq {ρ : Type} (k : Nat) {x0 : Sl} {x10 : Int} {x11 : Int} {lo : Nat} {H : AH} {κ : (Int × Int × Int × Bool) → AH → Option ρ} : mult_failing_1 (k + 1) x0 x10 x11 lo H κ =
  bif decide (x11 < x10) then
    mult_failing_2 k x0 x11 x10 x11 (x0.len : Int) 0 lo H κ
  else
  κ (0, 0, 0, false) H := by kernel_rfl
theorem mult_failing_2_eq {ρ : Type} (k : Nat) {x0 : Sl} {x6 : Int} {x10 : Int} {x11 : Int} {x15 : Int} {x16 : Int} {lo : Nat} {H : AH} {κ : (Int × Int × Int × Bool) → AH → Option ρ} : mult_failing_2 (k + 1) x0 x6 x10 x11 x15 x16 lo H κ =
  bif decide (x16 < x15) then
    mult_failing_3 k x0 x6 x16 x10 x11 x15 x16 (x0.len : Int) 0 lo H κ
  else
  mult_failing_1 k x0 x10 (W (x11 + 1)) lo H κ := by kernel_rfl
theorem mult_failing_3_eq {ρ : Type} (k : Nat) {x0 : Sl} {x6 : Int} {x7 : Int} {x10 : Int} {x11 : Int} {x15 : Int} {x16 : Int} {x20 : Int} {x21 : Int} {lo : Nat} {H : AH} {κ : (Int × Int × Int × Bool) → AH → Option ρ} : mult_failing_3 (k + 1) x0 x6 x7 x10 x11 x15 x16 x20 x21 lo H κ =
  bif decide (x21 < x20) then
    rdS H x0 x6 fun v1 =>
    rdI H v1 x7 fun v2 =>
    rdS H x0 v2 fun v3 =>
    rdI H v3 x21 fun v4 =>
    rdS H x0 x6 fun v5 =>
    rdS H x0 x7 fun v6 =>
    rdI H v6 x21 fun v7 =>
    rdI H v5 v7 fun v8 =>
    bif !decide (v4 = v8) then
      κ (x6, x7, x21, true) H
    else
    mult_failing_3 k x0 x6 x7 x10 x11 x15 x16 x20 (W (x21 + 1)) lo H κ
  else
  mult_failing_2 k x0 x6 x10 x11 x15 (W (x16 + 1)) lo H κ := by kernel_rfl
theorem mult_Validate_eq {ρ : Type} (k : Nat) {x0 : Sl} {lo : Nat} {H : AH} {κ : Int → AH → Option ρ} : mult_Validate (k + 1) x0 lo H κ =
  mult_shape k x0 H.length H fun v1 H2 =>
  bif !decide (v1 = 0) then
    κ v1 H2
  else
  mult_failing k x0 H2.length H2 fun r3 H4 =>
  bif r3.2.2.2 then
    κ 5 H4
  else
  κ 0 H4 := by kernel_rfl
theorem mult_identity_eq {ρ : Type} (k : Nat) {x0 : Sl} {lo : Nat} {H : AH} {κ : Int → AH → Option ρ} : mult_identity (k + 1) x0 lo H κ =
  mult_identity_1 k x0 (x0.len : Int) 0 lo H κ := by kernel_rfl
theorem mult_identity_1_eq {ρ : Type} (k : Nat) {x0 : Sl} {x7 : Int} {x8 : Int} {lo : Nat} {H : AH} {κ : Int → AH → Option ρ} : mult_identity_1 (k + 1) x0 x7 x8 lo H κ =
  bif decide (x8 < x7) then
    mult_identity_2 k x0 x8 true x7 x8 (x0.len : Int) 0 lo H κ
  else
  κ (-1) H := by kernel_rfl
theorem mult_identity_2_eq {ρ : Type} (k : Nat) {x0 : Sl} {x3 : Int} {x4 : Bool} {x7 : Int} {x8 : Int} {x12 : Int} {x13 : Int} {lo : Nat} {H : AH} {κ : Int → AH → Option ρ} : mult_identity_2 (k + 1) x0 x3 x4 x7 x8 x12 x13 lo H κ =
  bif decide (x13 < x12) then
    andB x4 (fun _ κ' => rdS H x0 x3 fun v1 =>
      rdI H v1 x13 fun v2 =>
      κ' (decide (v2 = x13)) H) H fun b3 H4 =>
    andB b3 (fun _ κ' => rdS H4 x0 x13 fun v5 =>
      rdI H4 v5 x3 fun v6 =>
      κ' (decide (v6 = x13)) H4) H4 fun b7 H8 =>
    mult_identity_2 k x0 x3 b7 x7 x8 x12 (W (x13 + 1)) lo H8 κ
  else
  bif x4 then
    κ x3 H
  else
  mult_identity_1 k x0 x7 (W (x8 + 1)) lo H κ := by kernel_rfl
theorem mult_Identity_eq {ρ : Type} (k : Nat) {x0 : Sl} {lo : Nat} {H : AH} {κ : Int → AH → Option ρ} : mult_Identity (k + 1) x0 lo H κ =
  mult_Validate k x0 H.length H fun v1 H2 =>
  bif !decide (v1 = 0) then
    κ (-1) H2
  else
  mult_identity k x0 H2.length H2 fun v3 H4 =>
  κ v3 H4 := by kernel_rfl
theorem mult_indexPeriod_eq {ρ : Type} (k : Nat) {x0 : Sl} {x1 : Int} {lo : Nat} {H : AH} {κ : (Int × Int) → AH → Option ρ} : mult_indexPeriod (k + 1) x0 x1 lo H κ =
  mks H [(.int .i64 0)] 8 (x0.len : Int) (x0.len : Int) fun s1 H2 =>
  mult_indexPeriod_1 k x0 x1 s1 x1 1 lo H2 κ := by kernel_rfl
theorem mult_indexPeriod_1_eq {ρ : Type} (k : Nat) {x0 : Sl} {x1 : Int} {x6 : Sl} {x7 : Int} {x8 : Int} {lo : Nat} {H : AH} {κ : (Int × Int) → AH → Option ρ} : mult_indexPeriod_1 (k + 1) x0 x1 x6 x7 x8 lo H κ =
  rdI H x6 x7 fun v1 =>
  bif decide (v1 = 0) then
    idx x6 x7 1 fun p2 =>
    stc lo H p2 (.int .i64 x8) fun H3 =>
    rdS H3 x0 x7 fun v4 =>
    rdI H3 v4 x1 fun v5 =>
    mult_indexPeriod_1 k x0 x1 x6 v5 (W (x8 + 1)) lo H3 κ
  else
  rdI H x6 x7 fun v6 =>
  rdI H x6 x7 fun v7 =>
  κ (v6, W (x8 - v7)) H := by kernel_rfl
theorem mult_power_eq {ρ : Type} (k : Nat) {x0 : Sl} {x1 : Int} {x2 : Int} {lo : Nat} {H : AH} {κ : Int → AH → Option ρ} : mult_power (k + 1) x0 x1 x2 lo H κ =
  mult_power_1 k x0 x1 x2 (-1) lo H κ := by kernel_rfl
theorem mult_power_1_eq {ρ : Type} (k : Nat) {x0 : Sl} {x1 : Int} {x2 : Int} {x7 : Int} {lo : Nat} {H : AH} {κ : Int → AH → Option ρ} : mult_power_1 (k + 1) x0 x1 x2 x7 lo H κ =
  bif decide (x2 > 0) then
    bif decide ((Int.tmod x2 2) = 1) then
      bif decide (x7 < 0) then
        mult_power_2 k x0 x1 x2 x1 lo H κ
      else
      rdS H x0 x7 fun v1 =>
      rdI H v1 x1 fun v2 =>
      mult_power_2 k x0 x1 x2 v2 lo H κ
    else
    mult_power_2 k x0 x1 x2 x7 lo H κ
  else
  κ x7 H := by kernel_rfl
theorem mult_power_2_eq {ρ : Type} (k : Nat) {x0 : Sl} {x1 : Int} {x2 : Int} {x7 : Int} {lo : Nat} {H : AH} {κ : Int → AH → Option ρ} : mult_power_2 (k + 1) x0 x1 x2 x7 lo H κ =
  rdS H x0 x1 fun v1 =>
  rdI H v1 x1 fun v2 =>
  mult_power_1 k x0 v2 (W (Int.tdiv x2 2)) x7 lo H κ := by kernel_rfl
theorem mult_Omega_eq {ρ : Type} (k : Nat) {x0 : Sl} {x1 : Int} {lo : Nat} {H : AH} {κ : Int → AH → Option ρ} : mult_Omega (k + 1) x0 x1 lo H κ =
  mult_Validate k x0 H.length H fun v1 H2 =>
  orB (!decide (v1 = 0)) (fun _ κ' => κ' (decide (x1 < 0)) H2) H2 fun b3 H4 =>
  orB b3 (fun _ κ' => κ' (decide (x1 ≥ (x0.len : Int))) H4) H4 fun b5 H6 =>
  bif b5 then
    κ (-1) H6
  else
  mult_indexPeriod k x0 x1 H6.length H6 fun r7 H8 =>
  bif decide (r7.2 = 0) then none else
  mult_power k x0 x1 (W ((W (Int.tdiv (W ((W (r7.1 + r7.2)) - 1)) r7.2)) * r7.2)) H8.length H8 fun v9 H10 =>
  κ v9 H10 := by kernel_rfl
theorem mult_Zero_eq {ρ : Type} (k : Nat) {x0 : Sl} {lo : Nat} {H : AH} {κ : Int → AH → Option ρ} : mult_Zero (k + 1) x0 lo H κ =
  mult_Validate k x0 H.length H fun v1 H2 =>
  bif !decide (v1 = 0) then
    κ (-1) H2
  else
  mult_Zero_1 k x0 (x0.len : Int) 0 lo H2 κ := by kernel_rfl
theorem mult_Zero_1_eq {ρ : Type} (k : Nat) {x0 : Sl} {x10 : Int} {x11 : Int} {lo : Nat} {H : AH} {κ : Int → AH → Option ρ} : mult_Zero_1 (k + 1) x0 x10 x11 lo H κ =
  bif decide (x11 < x10) then
    mult_Zero_2 k x0 x11 true x10 x11 (x0.len : Int) 0 lo H κ
  else
  κ (-1) H := by kernel_rfl
theorem mult_Zero_2_eq {ρ : Type} (k : Nat) {x0 : Sl} {x3 : Int} {x4 : Bool} {x10 : Int} {x11 : Int} {x15 : Int} {x16 : Int} {lo : Nat} {H : AH} {κ : Int → AH → Option ρ} : mult_Zero_2 (k + 1) x0 x3 x4 x10 x11 x15 x16 lo H κ =
  bif decide (x16 < x15) then
    andB x4 (fun _ κ' => rdS H x0 x3 fun v1 =>
      rdI H v1 x16 fun v2 =>
      κ' (decide (v2 = x3)) H) H fun b3 H4 =>
    andB b3 (fun _ κ' => rdS H4 x0 x16 fun v5 =>
      rdI H4 v5 x3 fun v6 =>
      κ' (decide (v6 = x3)) H4) H4 fun b7 H8 =>
    mult_Zero_2 k x0 x3 b7 x10 x11 x15 (W (x16 + 1)) lo H8 κ
  else
  bif x4 then
    κ x3 H
  else
  mult_Zero_1 k x0 x10 (W (x11 + 1)) lo H κ := by kernel_rfl
theorem semigrouplaw14_awake_eq {ρ : Type} (k : Nat) {lo : Nat} {H : AH} {κ : Bool → AH → Option ρ} : semigrouplaw14_awake (k + 1) lo H κ =
  mkb H [(.int .i64 0), (.int .i64 1)] 1 2 fun s1 H2 =>
  mkb H2 [(.int .i64 1), (.int .i64 0)] 1 2 fun s3 H4 =>
  mkb H4 [(.sl s1), (.sl s3)] 1 2 fun s5 H6 =>
  mult_Validate k s5 H6.length H6 fun v7 H8 =>
  andB (decide (v7 = 0)) (fun _ κ' => mult_Identity k s5 H8.length H8 fun v9 H10 =>
    κ' (decide (v9 = 0)) H10) H8 fun b11 H12 =>
  andB b11 (fun _ κ' => mult_Omega k s5 1 H12.length H12 fun v13 H14 =>
    κ' (decide (v13 = 0)) H14) H12 fun b15 H16 =>
  andB b15 (fun _ κ' => mult_Zero k s5 H16.length H16 fun v17 H18 =>
    κ' (decide (v17 = (-1))) H18) H16 fun b19 H20 =>
  κ b19 H20 := by kernel_rfl
theorem mult_Power_eq {ρ : Type} (k : Nat) {x0 : Sl} {x1 : Int} {x2 : Int} {lo : Nat} {H : AH} {κ : Int → AH → Option ρ} : mult_Power (k + 1) x0 x1 x2 lo H κ =
  mult_Validate k x0 H.length H fun v1 H2 =>
  orB (!decide (v1 = 0)) (fun _ κ' => κ' (decide (x1 < 0)) H2) H2 fun b3 H4 =>
  orB b3 (fun _ κ' => κ' (decide (x1 ≥ (x0.len : Int))) H4) H4 fun b5 H6 =>
  orB b5 (fun _ κ' => κ' (decide (x2 < 1)) H6) H6 fun b7 H8 =>
  bif b7 then
    κ (-1) H8
  else
  mult_power k x0 x1 x2 H8.length H8 fun v9 H10 =>
  κ v9 H10 := by kernel_rfl
theorem mult_IndexPeriod_eq {ρ : Type} (k : Nat) {x0 : Sl} {x1 : Int} {lo : Nat} {H : AH} {κ : (Int × Int) → AH → Option ρ} : mult_IndexPeriod (k + 1) x0 x1 lo H κ =
  mult_Validate k x0 H.length H fun v1 H2 =>
  orB (!decide (v1 = 0)) (fun _ κ' => κ' (decide (x1 < 0)) H2) H2 fun b3 H4 =>
  orB b3 (fun _ κ' => κ' (decide (x1 ≥ (x0.len : Int))) H4) H4 fun b5 H6 =>
  bif b5 then
    κ (0, 0) H6
  else
  mult_indexPeriod k x0 x1 H6.length H6 fun r7 H8 =>
  κ (r7.1, r7.2) H8 := by kernel_rfl
theorem semigrouplaw14_MultExponents_eq {ρ : Type} (k : Nat) {x0 : Sl} {x1 : Int} {x2 : Int} {x3 : Int} {lo : Nat} {H : AH} {κ : Bool → AH → Option ρ} : semigrouplaw14_MultExponents (k + 1) x0 x1 x2 x3 lo H κ =
  semigrouplaw14_small k x0 20 H.length H fun v1 H2 =>
  orB (!v1) (fun _ κ' => mkb H2 [(.int .i64 x1)] 1 1 fun s3 H4 =>
    semigroupref14_In k x0 s3 H4.length H4 fun v5 H6 =>
    κ' (!v5) H6) H2 fun b7 H8 =>
  bif b7 then
    semigrouplaw14_awake k  H8.length H8 fun v9 H10 =>
    κ v9 H10
  else
  mult_Power k x0 x1 (W (1 + (W x2))) H8.length H8 fun v11 H12 =>
  mult_Power k x0 x1 (W (1 + (W x3))) H12.length H12 fun v13 H14 =>
  mkb H14 [(.int .i64 v11), (.int .i64 v13)] 1 2 fun s15 H16 =>
  semigroupref14_In k x0 s15 H16.length H16 fun v17 H18 =>
  orB (!v17) (fun _ κ' => rdS H18 x0 v11 fun v19 =>
    rdI H18 v19 v13 fun v20 =>
    mult_Power k x0 x1 (W ((W (1 + (W x2))) + (W (1 + (W x3))))) H18.length H18 fun v21 H22 =>
    κ' (!decide (v20 = v21)) H22) H18 fun b23 H24 =>
  orB b23 (fun _ κ' => mult_Power k x0 v11 (W (1 + (W x3))) H24.length H24 fun v25 H26 =>
    mult_Power k x0 x1 (W ((W (1 + (W x2))) * (W (1 + (W x3))))) H26.length H26 fun v27 H28 =>
    κ' (!decide (v25 = v27)) H28) H24 fun b29 H30 =>
  bif b29 then
    κ false H30
  else
  mult_IndexPeriod k x0 x1 H30.length H30 fun r31 H32 =>
  mult_Omega k x0 x1 H32.length H32 fun v33 H34 =>
  andB (decide (r31.1 > 0)) (fun _ κ' => κ' (decide (r31.2 > 0)) H34) H34 fun b35 H36 =>
  andB b35 (fun _ κ' => mult_Power k x0 x1 (W (r31.1 + (W (1 + (W x2))))) H36.length H36 fun v37 H38 =>
    mult_Power k x0 x1 (W ((W (r31.1 + (W (1 + (W x2))))) + r31.2)) H38.length H38 fun v39 H40 =>
    κ' (decide (v37 = v39)) H40) H36 fun b41 H42 =>
  andB b41 (fun _ κ' => mkb H42 [(.int .i64 v33)] 1 1 fun s43 H44 =>
    semigroupref14_In k x0 s43 H44.length H44 fun v45 H46 =>
    κ' v45 H46) H42 fun b47 H48 =>
  andB b47 (fun _ κ' => rdS H48 x0 v33 fun v49 =>
    rdI H48 v49 v33 fun v50 =>
    κ' (decide (v50 = v33)) H48) H48 fun b51 H52 =>
  andB b51 (fun _ κ' => rdS H52 x0 v33 fun v53 =>
    rdI H52 v53 x1 fun v54 =>
    rdS H52 x0 x1 fun v55 =>
    rdI H52 v55 v33 fun v56 =>
    κ' (decide (v54 = v56)) H52) H52 fun b57 H58 =>
  andB b57 (fun _ κ' => mult_Power k x0 x1 (W (r31.1 * r31.2)) H58.length H58 fun v59 H60 =>
    κ' (decide (v59 = v33)) H60) H58 fun b61 H62 =>
  andB b61 (fun _ κ' => semigrouplaw14_awake k  H62.length H62 fun v63 H64 =>
    κ' v63 H64) H62 fun b65 H66 =>
  κ b65 H66 := by kernel_rfl
end Go.Ab
