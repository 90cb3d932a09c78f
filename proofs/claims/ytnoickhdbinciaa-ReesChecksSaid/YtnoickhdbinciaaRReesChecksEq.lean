/- Each label's equation. Printed. -/
import Derived.Test.YtnoickhdbinciaaRReesChecksIr
import Derived.Test.YtnoickhdbinciaaAbA3
import Derived.KernelRfl
set_option linter.unusedVariables false
namespace Go.Ab
theorem noid_ok : noidG G = true := by kernel_rfl
theorem semigrouplaw17_awake_true {H : AH} : Ev (fun _ k κ => semigrouplaw17_awake k H.length H κ) (fun v _ => v = true) := ev_awake (k := 400) noid_ok (by kernel_rfl) H
theorem semigroupref14_Shape_eq {ρ : Type} (k : Nat) {x0 : Sl} {lo : Nat} {H : AH} {κ : Int → AH → Option ρ} : semigroupref14_Shape (k + 1) x0 lo H κ =
  bif decide ((x0.len : Int) > 400) then
    κ 3 H
  else
  bif decide ((x0.len : Int) = 0) then
    κ 4 H
  else
  semigroupref14_Shape_1 k x0 x0 (x0.len : Int) 0 lo H κ := by kernel_rfl
theorem semigroupref14_Shape_1_eq {ρ : Type} (k : Nat) {x0 : Sl} {x13 : Sl} {x14 : Int} {x15 : Int} {lo : Nat} {H : AH} {κ : Int → AH → Option ρ} : semigroupref14_Shape_1 (k + 1) x0 x13 x14 x15 lo H κ =
  bif decide (x15 < x14) then
    rdS H x13 x15 fun v1 =>
    bif !decide ((v1.len : Int) = (x0.len : Int)) then
      κ 4 H
    else
    semigroupref14_Shape_2 k x0 x13 x14 x15 v1 (v1.len : Int) 0 lo H κ
  else
  κ 0 H := by kernel_rfl
theorem semigroupref14_Shape_2_eq {ρ : Type} (k : Nat) {x0 : Sl} {x13 : Sl} {x14 : Int} {x15 : Int} {x24 : Sl} {x25 : Int} {x26 : Int} {lo : Nat} {H : AH} {κ : Int → AH → Option ρ} : semigroupref14_Shape_2 (k + 1) x0 x13 x14 x15 x24 x25 x26 lo H κ =
  bif decide (x26 < x25) then
    rdI H x24 x26 fun v1 =>
    orB (decide (v1 < 0)) (fun _ κ' => κ' (decide (v1 ≥ (x0.len : Int))) H) H fun b2 H3 =>
    bif b2 then
      κ 4 H3
    else
    semigroupref14_Shape_2 k x0 x13 x14 x15 x24 x25 (W (x26 + 1)) lo H3 κ
  else
  semigroupref14_Shape_1 k x0 x13 x14 (W (x15 + 1)) lo H κ := by kernel_rfl
theorem semigrouplaw17_large_eq {ρ : Type} (k : Nat) {x0 : Sl} {x1 : Int} {lo : Nat} {H : AH} {κ : Bool → AH → Option ρ} : semigrouplaw17_large (k + 1) x0 x1 lo H κ =
  andB (decide ((x0.len : Int) > x1)) (fun _ κ' => semigroupref14_Shape k x0 H.length H fun v1 H2 =>
    κ' (decide (v1 = 0)) H2) H fun b3 H4 =>
  κ b3 H4 := by kernel_rfl
theorem semigrouplaw17_brandt_eq {ρ : Type} (k : Nat) {lo : Nat} {H : AH} {κ : (Sl × Int × Int × Sl × Bool) → AH → Option ρ} : semigrouplaw17_brandt (k + 1) lo H κ =
  alc H [(.sl ⟨none, 0⟩), (.int .i64 0), (.int .i64 0), (.sl ⟨none, 0⟩), (.bool false)] fun p1 H2 =>
  mkb H2 [(.int .i64 0)] 1 1 fun s3 H4 =>
  mkb H4 [(.sl s3)] 1 1 fun s5 H6 =>
  mkb H6 [(.int .i64 0), (.int .i64 (-1))] 1 2 fun s7 H8 =>
  mkb H8 [(.int .i64 (-1)), (.int .i64 0)] 1 2 fun s9 H10 =>
  mkb H10 [(.sl s7), (.sl s9)] 1 2 fun s11 H12 =>
  stn lo H12 p1 [(.sl s5), (.int .i64 2), (.int .i64 2), (.sl s11), (.bool true)] fun H13 =>
  ldA_siisb H13 p1 fun v14 v15 v16 v17 v18 => κ (v14, v15, v16, v17, v18) H13 := by kernel_rfl
theorem mult_shape_eq {ρ : Type} (k : Nat) {x0 : Sl} {lo : Nat} {H : AH} {κ : Int → AH → Option ρ} : mult_shape (k + 1) x0 lo H κ =
  bif decide ((x0.len : Int) > 400) then
    κ 3 H
  else
  bif decide ((x0.len : Int) = 0) then
    κ 4 H
  else
  mult_shape_1 k x0 x0 (x0.len : Int) 0 lo H κ := by kernel_rfl
theorem mult_shape_1_eq {ρ : Type} (k : Nat) {x0 : Sl} {x15 : Sl} {x16 : Int} {x17 : Int} {lo : Nat} {H : AH} {κ : Int → AH → Option ρ} : mult_shape_1 (k + 1) x0 x15 x16 x17 lo H κ =
  bif decide (x17 < x16) then
    rdS H x15 x17 fun v1 =>
    bif !decide ((v1.len : Int) = (x0.len : Int)) then
      κ 4 H
    else
    mult_shape_2 k x0 x15 x16 x17 v1 (v1.len : Int) 0 lo H κ
  else
  κ 0 H := by kernel_rfl
theorem mult_shape_2_eq {ρ : Type} (k : Nat) {x0 : Sl} {x15 : Sl} {x16 : Int} {x17 : Int} {x26 : Sl} {x27 : Int} {x28 : Int} {lo : Nat} {H : AH} {κ : Int → AH → Option ρ} : mult_shape_2 (k + 1) x0 x15 x16 x17 x26 x27 x28 lo H κ =
  bif decide (x28 < x27) then
    rdI H x26 x28 fun v1 =>
    orB (decide (v1 < 0)) (fun _ κ' => κ' (decide (v1 ≥ (x0.len : Int))) H) H fun b2 H3 =>
    bif b2 then
      κ 4 H3
    else
    mult_shape_2 k x0 x15 x16 x17 x26 x27 (W (x28 + 1)) lo H3 κ
  else
  mult_shape_1 k x0 x15 x16 (W (x17 + 1)) lo H κ := by kernel_rfl
theorem mult_failing_eq {ρ : Type} (k : Nat) {x0 : Sl} {lo : Nat} {H : AH} {κ : (Int × Int × Int × Bool) → AH → Option ρ} : mult_failing (k + 1) x0 lo H κ =
  mult_failing_1 k x0 (x0.len : Int) 0 lo H κ := by kernel_rfl
theorem mult_failing_1_eq {ρ : Type} (k : Nat) {x0 : Sl} {x10 : Int} {x11 : Int} {lo : Nat} {H : AH} {κ : (Int × Int × Int × Bool) → AH → Option ρ} : mult_failing_1 (k + 1) x0 x10 x11 lo H κ =
  bif decide (x11 < x10) then
    mult_failing_2 k x0 x11 x10 x11 (x0.len : Int) 0 lo H κ
  else
  κ (0, 0, 0, false) H := by kernel_rfl
theorem mult_failing_2_eq {ρ : Type} (k : Nat) {x0 : Sl} {x6 : Int} {x10 : Int} {x11 : Int} {x15 : Int} {x16 : Int} {lo : Nat} {H : AH} {κ : (Int × Int × Int × Bool) → AH → Option ρ} : mult_failing_2 (k + 1) x0 x6 x10 x11 x15 x16 lo H κ =
  bif decide (x16 < x15) then
    mult_failing_3 k x0 x6 x16 x10 x11 x15 x16 (x0.len : Int) 0 lo H κ
  else
  mult_failing_1 k x0 x10 (W (x11 + 1)) lo H κ := by kernel_rfl
theorem mult_failing_3_eq {ρ : Type} (k : Nat) {x0 : Sl} {x6 : Int} {x7 : Int} {x10 : Int} {x11 : Int} {x15 : Int} {x16 : Int} {x20 : Int} {x21 : Int} {lo : Nat} {H : AH} {κ : (Int × Int × Int × Bool) → AH → Option ρ} : mult_failing_3 (k + 1) x0 x6 x7 x10 x11 x15 x16 x20 x21 lo H κ =
  bif decide (x21 < x20) then
    rdS H x0 x6 fun v1 =>
    rdI H v1 x7 fun v2 =>
    rdS H x0 v2 fun v3 =>
    rdI H v3 x21 fun v4 =>
    rdS H x0 x6 fun v5 =>
    rdS H x0 x7 fun v6 =>
    rdI H v6 x21 fun v7 =>
    rdI H v5 v7 fun v8 =>
    bif !decide (v4 = v8) then
      κ (x6, x7, x21, true) H
    else
    mult_failing_3 k x0 x6 x7 x10 x11 x15 x16 x20 (W (x21 + 1)) lo H κ
  else
  mult_failing_2 k x0 x6 x10 x11 x15 (W (x16 + 1)) lo H κ := by kernel_rfl
theorem mult_Validate_eq {ρ : Type} (k : Nat) {x0 : Sl} {lo : Nat} {H : AH} {κ : Int → AH → Option ρ} : mult_Validate (k + 1) x0 lo H κ =
  mult_shape k x0 H.length H fun v1 H2 =>
  bif !decide (v1 = 0) then
    κ v1 H2
  else
  mult_failing k x0 H2.length H2 fun r3 H4 =>
  bif r3.2.2.2 then
    κ 5 H4
  else
  κ 0 H4 := by kernel_rfl
theorem group_inverses_eq {ρ : Type} (k : Nat) {x0 : Sl} {lo : Nat} {H : AH} {κ : (Int × Sl × Bool) → AH → Option ρ} : group_inverses (k + 1) x0 lo H κ =
  group_inverses_1 k x0 (-1) (x0.len : Int) 0 lo H κ := by kernel_rfl
theorem group_inverses_1_eq {ρ : Type} (k : Nat) {x0 : Sl} {x5 : Int} {x13 : Int} {x14 : Int} {lo : Nat} {H : AH} {κ : (Int × Sl × Bool) → AH → Option ρ} : group_inverses_1 (k + 1) x0 x5 x13 x14 lo H κ =
  bif decide (x14 < x13) then
    group_inverses_2 k x0 x5 x14 true x13 x14 (x0.len : Int) 0 lo H κ
  else
  group_inverses_3 k x0 x5 lo H κ := by kernel_rfl
theorem group_inverses_2_eq {ρ : Type} (k : Nat) {x0 : Sl} {x5 : Int} {x6 : Int} {x7 : Bool} {x13 : Int} {x14 : Int} {x18 : Int} {x19 : Int} {lo : Nat} {H : AH} {κ : (Int × Sl × Bool) → AH → Option ρ} : group_inverses_2 (k + 1) x0 x5 x6 x7 x13 x14 x18 x19 lo H κ =
  bif decide (x19 < x18) then
    andB x7 (fun _ κ' => rdS H x0 x6 fun v1 =>
      rdI H v1 x19 fun v2 =>
      κ' (decide (v2 = x19)) H) H fun b3 H4 =>
    andB b3 (fun _ κ' => rdS H4 x0 x19 fun v5 =>
      rdI H4 v5 x6 fun v6 =>
      κ' (decide (v6 = x19)) H4) H4 fun b7 H8 =>
    group_inverses_2 k x0 x5 x6 b7 x13 x14 x18 (W (x19 + 1)) lo H8 κ
  else
  bif x7 then
    group_inverses_3 k x0 x6 lo H κ
  else
  group_inverses_1 k x0 x5 x13 (W (x14 + 1)) lo H κ := by kernel_rfl
theorem group_inverses_3_eq {ρ : Type} (k : Nat) {x0 : Sl} {x5 : Int} {lo : Nat} {H : AH} {κ : (Int × Sl × Bool) → AH → Option ρ} : group_inverses_3 (k + 1) x0 x5 lo H κ =
  bif decide (x5 < 0) then
    κ (0, ⟨none, 0⟩, false) H
  else
  mks H [(.int .i64 0)] 8 (x0.len : Int) (x0.len : Int) fun s1 H2 =>
  group_inverses_4 k x0 x5 s1 (x0.len : Int) 0 lo H2 κ := by kernel_rfl
theorem group_inverses_4_eq {ρ : Type} (k : Nat) {x0 : Sl} {x5 : Int} {x9 : Sl} {x55 : Int} {x56 : Int} {lo : Nat} {H : AH} {κ : (Int × Sl × Bool) → AH → Option ρ} : group_inverses_4 (k + 1) x0 x5 x9 x55 x56 lo H κ =
  bif decide (x56 < x55) then
    idx x9 x56 1 fun p1 =>
    stc lo H p1 (.int .i64 (-1)) fun H2 =>
    group_inverses_5 k x0 x5 x9 x56 x55 x56 (x0.len : Int) 0 lo H2 κ
  else
  κ (x5, x9, true) H := by kernel_rfl
theorem group_inverses_5_eq {ρ : Type} (k : Nat) {x0 : Sl} {x5 : Int} {x9 : Sl} {x10 : Int} {x55 : Int} {x56 : Int} {x63 : Int} {x64 : Int} {lo : Nat} {H : AH} {κ : (Int × Sl × Bool) → AH → Option ρ} : group_inverses_5 (k + 1) x0 x5 x9 x10 x55 x56 x63 x64 lo H κ =
  bif decide (x64 < x63) then
    rdS H x0 x10 fun v1 =>
    rdI H v1 x64 fun v2 =>
    andB (decide (v2 = x5)) (fun _ κ' => rdS H x0 x64 fun v3 =>
      rdI H v3 x10 fun v4 =>
      κ' (decide (v4 = x5)) H) H fun b5 H6 =>
    bif b5 then
      idx x9 x10 1 fun p7 =>
      stc lo H6 p7 (.int .i64 x64) fun H8 =>
      group_inverses_6 k x0 x5 x9 x10 x55 x56 x63 x64 lo H8 κ
    else
    group_inverses_6 k x0 x5 x9 x10 x55 x56 x63 x64 lo H6 κ
  else
  rdI H x9 x10 fun v9 =>
  bif decide (v9 < 0) then
    κ (0, ⟨none, 0⟩, false) H
  else
  group_inverses_4 k x0 x5 x9 x55 (W (x56 + 1)) lo H κ := by kernel_rfl
theorem group_inverses_6_eq {ρ : Type} (k : Nat) {x0 : Sl} {x5 : Int} {x9 : Sl} {x10 : Int} {x55 : Int} {x56 : Int} {x63 : Int} {x64 : Int} {lo : Nat} {H : AH} {κ : (Int × Sl × Bool) → AH → Option ρ} : group_inverses_6 (k + 1) x0 x5 x9 x10 x55 x56 x63 x64 lo H κ =
  group_inverses_5 k x0 x5 x9 x10 x55 x56 x63 (W (x64 + 1)) lo H κ := by kernel_rfl
theorem group_of_eq {ρ : Type} (k : Nat) {x0 : Sl} {lo : Nat} {H : AH} {κ : (Sl × Int × Sl × Bool) → AH → Option ρ} : group_of (k + 1) x0 lo H κ =
  alc H [(.sl ⟨none, 0⟩), (.int .i64 0), (.sl ⟨none, 0⟩)] fun p1 H2 =>
  mult_Validate k x0 H2.length H2 fun v3 H4 =>
  bif !decide (v3 = 0) then
    stn lo H4 p1 [(.sl ⟨none, 0⟩), (.int .i64 0), (.sl ⟨none, 0⟩)] fun H5 =>
    ldA_sis H5 p1 fun v6 v7 v8 => κ (v6, v7, v8, false) H5
  else
  group_inverses k x0 H4.length H4 fun r9 H10 =>
  stn lo H10 p1 [(.sl x0), (.int .i64 r9.1), (.sl r9.2.1)] fun H11 =>
  ldA_sis H11 p1 fun v12 v13 v14 => κ (v12, v13, v14, r9.2.2) H11 := by kernel_rfl
theorem group_IsGroup_eq {ρ : Type} (k : Nat) {x0 : Sl} {lo : Nat} {H : AH} {κ : Bool → AH → Option ρ} : group_IsGroup (k + 1) x0 lo H κ =
  group_of k x0 H.length H fun r1 H2 =>
  alc H2 [(.sl ⟨none, 0⟩), (.int .i64 0), (.sl ⟨none, 0⟩)] fun p3 H4 =>
  stn lo H4 p3 [(.sl r1.1), (.int .i64 r1.2.1), (.sl r1.2.2.1)] fun H5 =>
  κ r1.2.2.2 H5 := by kernel_rfl
theorem rees_zero_eq {ρ : Type} (k : Nat) {x0_0 : Sl} {x0_1 : Int} {x0_2 : Int} {x0_3 : Sl} {x0_4 : Bool} {lo : Nat} {H : AH} {κ : Int → AH → Option ρ} : rees_zero (k + 1) x0_0 x0_1 x0_2 x0_3 x0_4 lo H κ =
  alc H [(.sl x0_0), (.int .i64 x0_1), (.int .i64 x0_2), (.sl x0_3), (.bool x0_4)] fun p1 H2 =>
  ldc H2 ⟨p1.b, p1.o + 4⟩ fun u3 => asB u3 fun v4 =>
  bif v4 then
    κ 1 H2
  else
  κ 0 H2 := by kernel_rfl
theorem rees_size_eq {ρ : Type} (k : Nat) {x0_0 : Sl} {x0_1 : Int} {x0_2 : Int} {x0_3 : Sl} {x0_4 : Bool} {lo : Nat} {H : AH} {κ : Int → AH → Option ρ} : rees_size (k + 1) x0_0 x0_1 x0_2 x0_3 x0_4 lo H κ =
  alc H [(.sl x0_0), (.int .i64 x0_1), (.int .i64 x0_2), (.sl x0_3), (.bool x0_4)] fun p1 H2 =>
  ldc H2 ⟨p1.b, p1.o + 1⟩ fun u3 => asI .i64 u3 fun v4 =>
  orB (decide (v4 > 400)) (fun _ κ' => ldc H2 ⟨p1.b, p1.o + 2⟩ fun u5 => asI .i64 u5 fun v6 =>
    κ' (decide (v6 > 400)) H2) H2 fun b7 H8 =>
  bif b7 then
    κ 401 H8
  else
  ldc H8 ⟨p1.b, p1.o + 1⟩ fun u9 => asI .i64 u9 fun v10 =>
  ldc H8 ⟨p1.b, p1.o + 2⟩ fun u11 => asI .i64 u11 fun v12 =>
  ldc H8 ⟨p1.b, p1.o + 0⟩ fun u13 => asS u13 fun v14 =>
  ldA_siisb H8 p1 fun v15 v16 v17 v18 v19 =>
  rees_zero k v15 v16 v17 v18 v19 H8.length H8 fun v20 H21 =>
  κ (W ((W ((W (v10 * v12)) * (v14.len : Int))) + v20)) H21 := by kernel_rfl
theorem rees_Validate_eq {ρ : Type} (k : Nat) {x0_0 : Sl} {x0_1 : Int} {x0_2 : Int} {x0_3 : Sl} {x0_4 : Bool} {lo : Nat} {H : AH} {κ : Int → AH → Option ρ} : rees_Validate (k + 1) x0_0 x0_1 x0_2 x0_3 x0_4 lo H κ =
  alc H [(.sl x0_0), (.int .i64 x0_1), (.int .i64 x0_2), (.sl x0_3), (.bool x0_4)] fun p1 H2 =>
  ldc H2 ⟨p1.b, p1.o + 0⟩ fun u3 => asS u3 fun v4 =>
  group_IsGroup k v4 H2.length H2 fun v5 H6 =>
  orB (!v5) (fun _ κ' => ldc H6 ⟨p1.b, p1.o + 1⟩ fun u7 => asI .i64 u7 fun v8 =>
    κ' (decide (v8 < 1)) H6) H6 fun b9 H10 =>
  orB b9 (fun _ κ' => ldc H10 ⟨p1.b, p1.o + 2⟩ fun u11 => asI .i64 u11 fun v12 =>
    κ' (decide (v12 < 1)) H10) H10 fun b13 H14 =>
  orB b13 (fun _ κ' => ldc H14 ⟨p1.b, p1.o + 3⟩ fun u15 => asS u15 fun v16 =>
    ldc H14 ⟨p1.b, p1.o + 2⟩ fun u17 => asI .i64 u17 fun v18 =>
    κ' (!decide ((v16.len : Int) = v18)) H14) H14 fun b19 H20 =>
  bif b19 then
    κ 4 H20
  else
  ldc H20 ⟨p1.b, p1.o + 3⟩ fun u21 => asS u21 fun v22 =>
  rees_Validate_1 k (some p1) v22 (v22.len : Int) 0 lo H20 κ := by kernel_rfl
theorem rees_Validate_1_eq {ρ : Type} (k : Nat) {x1 : Option Pt} {x30 : Sl} {x31 : Int} {x32 : Int} {lo : Nat} {H : AH} {κ : Int → AH → Option ρ} : rees_Validate_1 (k + 1) x1 x30 x31 x32 lo H κ =
  bif decide (x32 < x31) then
    rdS H x30 x32 fun v1 =>
    asP (.ptr x1) fun p2 => 
    ldc H ⟨p2.b, p2.o + 1⟩ fun u3 => asI .i64 u3 fun v4 =>
    bif !decide ((v1.len : Int) = v4) then
      κ 4 H
    else
    rees_Validate_2 k x1 x30 x31 x32 v1 (v1.len : Int) 0 lo H κ
  else
  asP (.ptr x1) fun p5 => ldA_siisb H p5 fun v6 v7 v8 v9 v10 =>
  rees_size k v6 v7 v8 v9 v10 H.length H fun v11 H12 =>
  bif decide (v11 > 400) then
    κ 3 H12
  else
  κ 0 H12 := by kernel_rfl
theorem rees_Validate_2_eq {ρ : Type} (k : Nat) {x1 : Option Pt} {x30 : Sl} {x31 : Int} {x32 : Int} {x41 : Sl} {x42 : Int} {x43 : Int} {lo : Nat} {H : AH} {κ : Int → AH → Option ρ} : rees_Validate_2 (k + 1) x1 x30 x31 x32 x41 x42 x43 lo H κ =
  bif decide (x43 < x42) then
    rdI H x41 x43 fun v1 =>
    orB (decide (v1 < (-1))) (fun _ κ' => asP (.ptr x1) fun p2 => 
      ldc H ⟨p2.b, p2.o + 0⟩ fun u3 => asS u3 fun v4 =>
      κ' (decide (v1 ≥ (v4.len : Int))) H) H fun b5 H6 =>
    orB b5 (fun _ κ' => andB (decide (v1 < 0)) (fun _ κ' => asP (.ptr x1) fun p7 => 
        ldc H6 ⟨p7.b, p7.o + 4⟩ fun u8 => asB u8 fun v9 =>
        κ' (!v9) H6) H6 fun b10 H11 =>
      κ' b10 H11) H6 fun b12 H13 =>
    bif b12 then
      κ 4 H13
    else
    rees_Validate_2 k x1 x30 x31 x32 x41 x42 (W (x43 + 1)) lo H13 κ
  else
  rees_Validate_1 k x1 x30 x31 (W (x32 + 1)) lo H κ := by kernel_rfl
theorem rees_number_eq {ρ : Type} (k : Nat) {x0_0 : Sl} {x0_1 : Int} {x0_2 : Int} {x0_3 : Sl} {x0_4 : Bool} {x1 : Int} {x2 : Int} {x3 : Int} {lo : Nat} {H : AH} {κ : Int → AH → Option ρ} : rees_number (k + 1) x0_0 x0_1 x0_2 x0_3 x0_4 x1 x2 x3 lo H κ =
  alc H [(.sl x0_0), (.int .i64 x0_1), (.int .i64 x0_2), (.sl x0_3), (.bool x0_4)] fun p1 H2 =>
  ldc H2 ⟨p1.b, p1.o + 0⟩ fun u3 => asS u3 fun v4 =>
  ldc H2 ⟨p1.b, p1.o + 2⟩ fun u5 => asI .i64 u5 fun v6 =>
  ldA_siisb H2 p1 fun v7 v8 v9 v10 v11 =>
  rees_zero k v7 v8 v9 v10 v11 H2.length H2 fun v12 H13 =>
  κ (W ((W ((W ((W ((W (x1 * (v4.len : Int))) + x2)) * v6)) + x3)) + v12)) H13 := by kernel_rfl
theorem rees_mul_eq {ρ : Type} (k : Nat) {x0_0 : Sl} {x0_1 : Int} {x0_2 : Int} {x0_3 : Sl} {x0_4 : Bool} {x1 : Int} {x2 : Int} {lo : Nat} {H : AH} {κ : Int → AH → Option ρ} : rees_mul (k + 1) x0_0 x0_1 x0_2 x0_3 x0_4 x1 x2 lo H κ =
  alc H [(.sl x0_0), (.int .i64 x0_1), (.int .i64 x0_2), (.sl x0_3), (.bool x0_4)] fun p1 H2 =>
  ldA_siisb H2 p1 fun v3 v4 v5 v6 v7 =>
  rees_zero k v3 v4 v5 v6 v7 H2.length H2 fun v8 H9 =>
  andB (decide (v8 = 1)) (fun _ κ' => orB (decide (x1 = 0)) (fun _ κ' => κ' (decide (x2 = 0)) H9) H9 fun b10 H11 =>
    κ' b10 H11) H9 fun b12 H13 =>
  bif b12 then
    κ 0 H13
  else
  ldc H13 ⟨p1.b, p1.o + 2⟩ fun u14 => asI .i64 u14 fun v15 =>
  bif decide (v15 = 0) then none else
  ldc H13 ⟨p1.b, p1.o + 2⟩ fun u16 => asI .i64 u16 fun v17 =>
  bif decide (v17 = 0) then none else
  ldc H13 ⟨p1.b, p1.o + 2⟩ fun u18 => asI .i64 u18 fun v19 =>
  bif decide (v19 = 0) then none else
  ldc H13 ⟨p1.b, p1.o + 0⟩ fun u20 => asS u20 fun v21 =>
  bif decide ((v21.len : Int) = 0) then none else
  ldc H13 ⟨p1.b, p1.o + 2⟩ fun u22 => asI .i64 u22 fun v23 =>
  bif decide (v23 = 0) then none else
  ldc H13 ⟨p1.b, p1.o + 0⟩ fun u24 => asS u24 fun v25 =>
  bif decide ((v25.len : Int) = 0) then none else
  ldc H13 ⟨p1.b, p1.o + 2⟩ fun u26 => asI .i64 u26 fun v27 =>
  bif decide (v27 = 0) then none else
  ldc H13 ⟨p1.b, p1.o + 0⟩ fun u28 => asS u28 fun v29 =>
  bif decide ((v29.len : Int) = 0) then none else
  ldc H13 ⟨p1.b, p1.o + 2⟩ fun u30 => asI .i64 u30 fun v31 =>
  bif decide (v31 = 0) then none else
  ldc H13 ⟨p1.b, p1.o + 0⟩ fun u32 => asS u32 fun v33 =>
  bif decide ((v33.len : Int) = 0) then none else
  ldc H13 ⟨p1.b, p1.o + 3⟩ fun u34 => asS u34 fun v35 =>
  rdS H13 v35 (Int.tmod (W (x1 - v8)) v15) fun v36 =>
  rdI H13 v36 (W (Int.tdiv (W (Int.tdiv (W (x2 - v8)) v31)) (v33.len : Int))) fun v37 =>
  bif decide (v37 < 0) then
    κ 0 H13
  else
  ldA_siisb H13 p1 fun v38 v39 v40 v41 v42 =>
  ldc H13 ⟨p1.b, p1.o + 0⟩ fun u43 => asS u43 fun v44 =>
  ldc H13 ⟨p1.b, p1.o + 0⟩ fun u45 => asS u45 fun v46 =>
  rdS H13 v46 (Int.tmod (W (Int.tdiv (W (x1 - v8)) v19)) (v21.len : Int)) fun v47 =>
  rdI H13 v47 v37 fun v48 =>
  rdS H13 v44 v48 fun v49 =>
  rdI H13 v49 (Int.tmod (W (Int.tdiv (W (x2 - v8)) v23)) (v25.len : Int)) fun v50 =>
  rees_number k v38 v39 v40 v41 v42 (W (Int.tdiv (W (Int.tdiv (W (x1 - v8)) v27)) (v29.len : Int))) v50 (Int.tmod (W (x2 - v8)) v17) H13.length H13 fun v51 H52 =>
  κ v51 H52 := by kernel_rfl
theorem rees_Table_eq {ρ : Type} (k : Nat) {x0_0 : Sl} {x0_1 : Int} {x0_2 : Int} {x0_3 : Sl} {x0_4 : Bool} {lo : Nat} {H : AH} {κ : (Sl × Int) → AH → Option ρ} : rees_Table (k + 1) x0_0 x0_1 x0_2 x0_3 x0_4 lo H κ =
  alc H [(.sl x0_0), (.int .i64 x0_1), (.int .i64 x0_2), (.sl x0_3), (.bool x0_4)] fun p1 H2 =>
  ldA_siisb H2 p1 fun v3 v4 v5 v6 v7 =>
  rees_Validate k v3 v4 v5 v6 v7 H2.length H2 fun v8 H9 =>
  bif !decide (v8 = 0) then
    κ (⟨none, 0⟩, v8) H9
  else
  ldA_siisb H9 p1 fun v10 v11 v12 v13 v14 =>
  rees_size k v10 v11 v12 v13 v14 H9.length H9 fun v15 H16 =>
  mks H16 [(.sl ⟨none, 0⟩)] 24 v15 v15 fun s17 H18 =>
  rees_Table_1 k (some p1) s17 (s17.len : Int) 0 lo H18 κ := by kernel_rfl
theorem rees_Table_1_eq {ρ : Type} (k : Nat) {x1 : Option Pt} {x5 : Sl} {x17 : Int} {x18 : Int} {lo : Nat} {H : AH} {κ : (Sl × Int) → AH → Option ρ} : rees_Table_1 (k + 1) x1 x5 x17 x18 lo H κ =
  bif decide (x18 < x17) then
    mks H [(.int .i64 0)] 8 (x5.len : Int) (x5.len : Int) fun s1 H2 =>
    idx x5 x18 1 fun p3 =>
    stc lo H2 p3 (.sl s1) fun H4 =>
    rees_Table_2 k x1 x5 x18 x17 x18 (x5.len : Int) 0 lo H4 κ
  else
  κ (x5, 0) H := by kernel_rfl
theorem rees_Table_2_eq {ρ : Type} (k : Nat) {x1 : Option Pt} {x5 : Sl} {x6 : Int} {x17 : Int} {x18 : Int} {x28 : Int} {x29 : Int} {lo : Nat} {H : AH} {κ : (Sl × Int) → AH → Option ρ} : rees_Table_2 (k + 1) x1 x5 x6 x17 x18 x28 x29 lo H κ =
  bif decide (x29 < x28) then
    rdS H x5 x6 fun v1 =>
    asP (.ptr x1) fun p2 => ldA_siisb H p2 fun v3 v4 v5 v6 v7 =>
    rees_mul k v3 v4 v5 v6 v7 x6 x29 H.length H fun v8 H9 =>
    idx v1 x29 1 fun p10 =>
    stc lo H9 p10 (.int .i64 v8) fun H11 =>
    rees_Table_2 k x1 x5 x6 x17 x18 x28 (W (x29 + 1)) lo H11 κ
  else
  rees_Table_1 k x1 x5 x17 (W (x18 + 1)) lo H κ := by kernel_rfl
theorem rees_Regular_eq {ρ : Type} (k : Nat) {x0_0 : Sl} {x0_1 : Int} {x0_2 : Int} {x0_3 : Sl} {x0_4 : Bool} {lo : Nat} {H : AH} {κ : Bool → AH → Option ρ} : rees_Regular (k + 1) x0_0 x0_1 x0_2 x0_3 x0_4 lo H κ =
  alc H [(.sl x0_0), (.int .i64 x0_1), (.int .i64 x0_2), (.sl x0_3), (.bool x0_4)] fun p1 H2 =>
  ldA_siisb H2 p1 fun v3 v4 v5 v6 v7 =>
  rees_Validate k v3 v4 v5 v6 v7 H2.length H2 fun v8 H9 =>
  bif !decide (v8 = 0) then
    κ false H9
  else
  ldc H9 ⟨p1.b, p1.o + 1⟩ fun u10 => asI .i64 u10 fun v11 =>
  mks H9 [(.bool false)] 1 v11 v11 fun s12 H13 =>
  ldc H13 ⟨p1.b, p1.o + 2⟩ fun u14 => asI .i64 u14 fun v15 =>
  mks H13 [(.bool false)] 1 v15 v15 fun s16 H17 =>
  ldc H17 ⟨p1.b, p1.o + 3⟩ fun u18 => asS u18 fun v19 =>
  rees_Regular_1 k (some p1) s12 s16 (v19.len : Int) 0 lo H17 κ := by kernel_rfl
theorem rees_Regular_1_eq {ρ : Type} (k : Nat) {x1 : Option Pt} {x3 : Sl} {x4 : Sl} {x21 : Int} {x22 : Int} {lo : Nat} {H : AH} {κ : Bool → AH → Option ρ} : rees_Regular_1 (k + 1) x1 x3 x4 x21 x22 lo H κ =
  bif decide (x22 < x21) then
    asP (.ptr x1) fun p1 => 
    ldc H ⟨p1.b, p1.o + 3⟩ fun u2 => asS u2 fun v3 =>
    rdS H v3 x22 fun v4 =>
    rees_Regular_2 k x1 x3 x4 x22 x21 x22 v4 (v4.len : Int) 0 lo H κ
  else
  appS lo H x3 x4 1 1 fun s5 H6 =>
  rees_Regular_3 k s5 (s5.len : Int) 0 lo H6 κ := by kernel_rfl
theorem rees_Regular_2_eq {ρ : Type} (k : Nat) {x1 : Option Pt} {x3 : Sl} {x4 : Sl} {x5 : Int} {x21 : Int} {x22 : Int} {x29 : Sl} {x30 : Int} {x31 : Int} {lo : Nat} {H : AH} {κ : Bool → AH → Option ρ} : rees_Regular_2 (k + 1) x1 x3 x4 x5 x21 x22 x29 x30 x31 lo H κ =
  bif decide (x31 < x30) then
    rdI H x29 x31 fun v1 =>
    rdB H x3 x31 fun v2 =>
    orB v2 (fun _ κ' => κ' (decide (v1 ≥ 0)) H) H fun b3 H4 =>
    idx x3 x31 1 fun p5 =>
    stc lo H4 p5 (.bool b3) fun H6 =>
    rdB H6 x4 x5 fun v7 =>
    orB v7 (fun _ κ' => κ' (decide (v1 ≥ 0)) H6) H6 fun b8 H9 =>
    idx x4 x5 1 fun p10 =>
    stc lo H9 p10 (.bool b8) fun H11 =>
    rees_Regular_2 k x1 x3 x4 x5 x21 x22 x29 x30 (W (x31 + 1)) lo H11 κ
  else
  rees_Regular_1 k x1 x3 x4 x21 (W (x22 + 1)) lo H κ := by kernel_rfl
theorem rees_Regular_3_eq {ρ : Type} (k : Nat) {x62 : Sl} {x63 : Int} {x64 : Int} {lo : Nat} {H : AH} {κ : Bool → AH → Option ρ} : rees_Regular_3 (k + 1) x62 x63 x64 lo H κ =
  bif decide (x64 < x63) then
    rdB H x62 x64 fun v1 =>
    bif !v1 then
      κ false H
    else
    rees_Regular_3 k x62 x63 (W (x64 + 1)) lo H κ
  else
  κ true H := by kernel_rfl
theorem semigrouplaw17_awake_eq {ρ : Type} (k : Nat) {lo : Nat} {H : AH} {κ : Bool → AH → Option ρ} : semigrouplaw17_awake (k + 1) lo H κ =
  semigrouplaw17_brandt k  H.length H fun r1 H2 =>
  rees_Table k r1.1 r1.2.1 r1.2.2.1 r1.2.2.2.1 r1.2.2.2.2 H2.length H2 fun r3 H4 =>
  andB (decide (r3.2 = 0)) (fun _ κ' => κ' (decide ((r3.1.len : Int) = 5)) H4) H4 fun b5 H6 =>
  andB b5 (fun _ κ' => semigrouplaw17_brandt k  H6.length H6 fun r7 H8 =>
    rees_Regular k r7.1 r7.2.1 r7.2.2.1 r7.2.2.2.1 r7.2.2.2.2 H8.length H8 fun v9 H10 =>
    κ' v9 H10) H6 fun b11 H12 =>
  andB b11 (fun _ κ' => rdS H12 r3.1 1 fun v13 =>
    rdI H12 v13 1 fun v14 =>
    κ' (decide (v14 = 1)) H12) H12 fun b15 H16 =>
  andB b15 (fun _ κ' => rdS H16 r3.1 1 fun v17 =>
    rdI H16 v17 4 fun v18 =>
    κ' (decide (v18 = 0)) H16) H16 fun b19 H20 =>
  κ b19 H20 := by kernel_rfl
theorem green_right_eq {ρ : Type} (k : Nat) {x0 : Sl} {lo : Nat} {H : AH} {κ : Sl → AH → Option ρ} : green_right (k + 1) x0 lo H κ =
  mks H [(.sl ⟨none, 0⟩)] 24 (x0.len : Int) (x0.len : Int) fun s1 H2 =>
  green_right_1 k x0 s1 (x0.len : Int) 0 lo H2 κ := by kernel_rfl
theorem green_right_1_eq {ρ : Type} (k : Nat) {x0 : Sl} {x3 : Sl} {x10 : Int} {x11 : Int} {lo : Nat} {H : AH} {κ : Sl → AH → Option ρ} : green_right_1 (k + 1) x0 x3 x10 x11 lo H κ =
  bif decide (x11 < x10) then
    mks H [(.bool false)] 1 (x0.len : Int) (x0.len : Int) fun s1 H2 =>
    idx x3 x11 1 fun p3 =>
    stc lo H2 p3 (.sl s1) fun H4 =>
    rdS H4 x3 x11 fun v5 =>
    idx v5 x11 1 fun p6 =>
    stc lo H4 p6 (.bool true) fun H7 =>
    green_right_2 k x0 x3 x11 x10 x11 (x0.len : Int) 0 lo H7 κ
  else
  κ x3 H := by kernel_rfl
theorem green_right_2_eq {ρ : Type} (k : Nat) {x0 : Sl} {x3 : Sl} {x4 : Int} {x10 : Int} {x11 : Int} {x27 : Int} {x28 : Int} {lo : Nat} {H : AH} {κ : Sl → AH → Option ρ} : green_right_2 (k + 1) x0 x3 x4 x10 x11 x27 x28 lo H κ =
  bif decide (x28 < x27) then
    rdS H x3 x4 fun v1 =>
    rdS H x0 x4 fun v2 =>
    rdI H v2 x28 fun v3 =>
    idx v1 v3 1 fun p4 =>
    stc lo H p4 (.bool true) fun H5 =>
    green_right_2 k x0 x3 x4 x10 x11 x27 (W (x28 + 1)) lo H5 κ
  else
  green_right_1 k x0 x3 x10 (W (x11 + 1)) lo H κ := by kernel_rfl
theorem green_left_eq {ρ : Type} (k : Nat) {x0 : Sl} {lo : Nat} {H : AH} {κ : Sl → AH → Option ρ} : green_left (k + 1) x0 lo H κ =
  mks H [(.sl ⟨none, 0⟩)] 24 (x0.len : Int) (x0.len : Int) fun s1 H2 =>
  green_left_1 k x0 s1 (x0.len : Int) 0 lo H2 κ := by kernel_rfl
theorem green_left_1_eq {ρ : Type} (k : Nat) {x0 : Sl} {x3 : Sl} {x10 : Int} {x11 : Int} {lo : Nat} {H : AH} {κ : Sl → AH → Option ρ} : green_left_1 (k + 1) x0 x3 x10 x11 lo H κ =
  bif decide (x11 < x10) then
    mks H [(.bool false)] 1 (x0.len : Int) (x0.len : Int) fun s1 H2 =>
    idx x3 x11 1 fun p3 =>
    stc lo H2 p3 (.sl s1) fun H4 =>
    rdS H4 x3 x11 fun v5 =>
    idx v5 x11 1 fun p6 =>
    stc lo H4 p6 (.bool true) fun H7 =>
    green_left_2 k x0 x3 x11 x10 x11 (x0.len : Int) 0 lo H7 κ
  else
  κ x3 H := by kernel_rfl
theorem green_left_2_eq {ρ : Type} (k : Nat) {x0 : Sl} {x3 : Sl} {x4 : Int} {x10 : Int} {x11 : Int} {x27 : Int} {x28 : Int} {lo : Nat} {H : AH} {κ : Sl → AH → Option ρ} : green_left_2 (k + 1) x0 x3 x4 x10 x11 x27 x28 lo H κ =
  bif decide (x28 < x27) then
    rdS H x3 x4 fun v1 =>
    rdS H x0 x28 fun v2 =>
    rdI H v2 x4 fun v3 =>
    idx v1 v3 1 fun p4 =>
    stc lo H p4 (.bool true) fun H5 =>
    green_left_2 k x0 x3 x4 x10 x11 x27 (W (x28 + 1)) lo H5 κ
  else
  green_left_1 k x0 x3 x10 (W (x11 + 1)) lo H κ := by kernel_rfl
theorem green_two_eq {ρ : Type} (k : Nat) {x0 : Sl} {lo : Nat} {H : AH} {κ : Sl → AH → Option ρ} : green_two (k + 1) x0 lo H κ =
  green_right k x0 H.length H fun v1 H2 =>
  green_left k x0 H2.length H2 fun v3 H4 =>
  mks H4 [(.sl ⟨none, 0⟩)] 24 (x0.len : Int) (x0.len : Int) fun s5 H6 =>
  green_two_1 k x0 v1 v3 s5 (x0.len : Int) 0 lo H6 κ := by kernel_rfl
theorem green_two_1_eq {ρ : Type} (k : Nat) {x0 : Sl} {x3 : Sl} {x4 : Sl} {x5 : Sl} {x19 : Int} {x20 : Int} {lo : Nat} {H : AH} {κ : Sl → AH → Option ρ} : green_two_1 (k + 1) x0 x3 x4 x5 x19 x20 lo H κ =
  bif decide (x20 < x19) then
    mks H [(.bool false)] 1 (x0.len : Int) (x0.len : Int) fun s1 H2 =>
    idx x5 x20 1 fun p3 =>
    stc lo H2 p3 (.sl s1) fun H4 =>
    rdS H4 x4 x20 fun v5 =>
    green_two_2 k x0 x3 x4 x5 x20 x19 x20 v5 (v5.len : Int) 0 lo H4 κ
  else
  κ x5 H := by kernel_rfl
theorem green_two_2_eq {ρ : Type} (k : Nat) {x0 : Sl} {x3 : Sl} {x4 : Sl} {x5 : Sl} {x6 : Int} {x19 : Int} {x20 : Int} {x32 : Sl} {x33 : Int} {x34 : Int} {lo : Nat} {H : AH} {κ : Sl → AH → Option ρ} : green_two_2 (k + 1) x0 x3 x4 x5 x6 x19 x20 x32 x33 x34 lo H κ =
  bif decide (x34 < x33) then
    rdB H x32 x34 fun v1 =>
    bif !v1 then
      green_two_4 k x0 x3 x4 x5 x6 x19 x20 x32 x33 x34 lo H κ
    else
    rdS H x3 x34 fun v2 =>
    green_two_3 k x0 x3 x4 x5 x6 x19 x20 x32 x33 x34 v2 (v2.len : Int) 0 lo H κ
  else
  green_two_1 k x0 x3 x4 x5 x19 (W (x20 + 1)) lo H κ := by kernel_rfl
theorem green_two_3_eq {ρ : Type} (k : Nat) {x0 : Sl} {x3 : Sl} {x4 : Sl} {x5 : Sl} {x6 : Int} {x19 : Int} {x20 : Int} {x32 : Sl} {x33 : Int} {x34 : Int} {x44 : Sl} {x45 : Int} {x46 : Int} {lo : Nat} {H : AH} {κ : Sl → AH → Option ρ} : green_two_3 (k + 1) x0 x3 x4 x5 x6 x19 x20 x32 x33 x34 x44 x45 x46 lo H κ =
  bif decide (x46 < x45) then
    rdB H x44 x46 fun v1 =>
    rdS H x5 x6 fun v2 =>
    rdS H x5 x6 fun v3 =>
    rdB H v3 x46 fun v4 =>
    orB v4 (fun _ κ' => κ' v1 H) H fun b5 H6 =>
    idx v2 x46 1 fun p7 =>
    stc lo H6 p7 (.bool b5) fun H8 =>
    green_two_3 k x0 x3 x4 x5 x6 x19 x20 x32 x33 x34 x44 x45 (W (x46 + 1)) lo H8 κ
  else
  green_two_4 k x0 x3 x4 x5 x6 x19 x20 x32 x33 x34 lo H κ := by kernel_rfl
theorem green_two_4_eq {ρ : Type} (k : Nat) {x0 : Sl} {x3 : Sl} {x4 : Sl} {x5 : Sl} {x6 : Int} {x19 : Int} {x20 : Int} {x32 : Sl} {x33 : Int} {x34 : Int} {lo : Nat} {H : AH} {κ : Sl → AH → Option ρ} : green_two_4 (k + 1) x0 x3 x4 x5 x6 x19 x20 x32 x33 x34 lo H κ =
  green_two_2 k x0 x3 x4 x5 x6 x19 x20 x32 x33 (W (x34 + 1)) lo H κ := by kernel_rfl
theorem green_mutual_eq {ρ : Type} (k : Nat) {x0 : Sl} {lo : Nat} {H : AH} {κ : Sl → AH → Option ρ} : green_mutual (k + 1) x0 lo H κ =
  mks H [(.int .i64 0)] 8 (x0.len : Int) (x0.len : Int) fun s1 H2 =>
  green_mutual_1 k x0 s1 (s1.len : Int) 0 lo H2 κ := by kernel_rfl
theorem green_mutual_1_eq {ρ : Type} (k : Nat) {x0 : Sl} {x3 : Sl} {x12 : Int} {x13 : Int} {lo : Nat} {H : AH} {κ : Sl → AH → Option ρ} : green_mutual_1 (k + 1) x0 x3 x12 x13 lo H κ =
  bif decide (x13 < x12) then
    idx x3 x13 1 fun p1 =>
    stc lo H p1 (.int .i64 (-1)) fun H2 =>
    green_mutual_1 k x0 x3 x12 (W (x13 + 1)) lo H2 κ
  else
  green_mutual_2 k x0 x3 0 (x3.len : Int) 0 lo H κ := by kernel_rfl
theorem green_mutual_2_eq {ρ : Type} (k : Nat) {x0 : Sl} {x3 : Sl} {x5 : Int} {x21 : Int} {x22 : Int} {lo : Nat} {H : AH} {κ : Sl → AH → Option ρ} : green_mutual_2 (k + 1) x0 x3 x5 x21 x22 lo H κ =
  bif decide (x22 < x21) then
    rdI H x3 x22 fun v1 =>
    bif decide (v1 ≥ 0) then
      green_mutual_5 k x0 x3 x5 x21 x22 lo H κ
    else
    green_mutual_3 k x0 x3 x5 x22 x22 x21 x22 lo H κ
  else
  κ x3 H := by kernel_rfl
theorem green_mutual_3_eq {ρ : Type} (k : Nat) {x0 : Sl} {x3 : Sl} {x5 : Int} {x6 : Int} {x7 : Int} {x21 : Int} {x22 : Int} {lo : Nat} {H : AH} {κ : Sl → AH → Option ρ} : green_mutual_3 (k + 1) x0 x3 x5 x6 x7 x21 x22 lo H κ =
  bif decide (x7 < (x3.len : Int)) then
    rdS H x0 x6 fun v1 =>
    rdB H v1 x7 fun v2 =>
    andB v2 (fun _ κ' => rdS H x0 x7 fun v3 =>
      rdB H v3 x6 fun v4 =>
      κ' v4 H) H fun b5 H6 =>
    bif b5 then
      idx x3 x7 1 fun p7 =>
      stc lo H6 p7 (.int .i64 x5) fun H8 =>
      green_mutual_4 k x0 x3 x5 x6 x7 x21 x22 lo H8 κ
    else
    green_mutual_4 k x0 x3 x5 x6 x7 x21 x22 lo H6 κ
  else
  green_mutual_5 k x0 x3 (W (x5 + 1)) x21 x22 lo H κ := by kernel_rfl
theorem green_mutual_4_eq {ρ : Type} (k : Nat) {x0 : Sl} {x3 : Sl} {x5 : Int} {x6 : Int} {x7 : Int} {x21 : Int} {x22 : Int} {lo : Nat} {H : AH} {κ : Sl → AH → Option ρ} : green_mutual_4 (k + 1) x0 x3 x5 x6 x7 x21 x22 lo H κ =
  green_mutual_3 k x0 x3 x5 x6 (W (x7 + 1)) x21 x22 lo H κ := by kernel_rfl
theorem green_mutual_5_eq {ρ : Type} (k : Nat) {x0 : Sl} {x3 : Sl} {x5 : Int} {x21 : Int} {x22 : Int} {lo : Nat} {H : AH} {κ : Sl → AH → Option ρ} : green_mutual_5 (k + 1) x0 x3 x5 x21 x22 lo H κ =
  green_mutual_2 k x0 x3 x5 x21 (W (x22 + 1)) lo H κ := by kernel_rfl
theorem partition_Valid_eq {ρ : Type} (k : Nat) {x0 : Sl} {lo : Nat} {H : AH} {κ : Bool → AH → Option ρ} : partition_Valid (k + 1) x0 lo H κ =
  bif decide ((x0.len : Int) > 4096) then
    κ false H
  else
  partition_Valid_1 k 0 x0 (x0.len : Int) 0 lo H κ := by kernel_rfl
theorem partition_Valid_1_eq {ρ : Type} (k : Nat) {x3 : Int} {x9 : Sl} {x10 : Int} {x11 : Int} {lo : Nat} {H : AH} {κ : Bool → AH → Option ρ} : partition_Valid_1 (k + 1) x3 x9 x10 x11 lo H κ =
  bif decide (x11 < x10) then
    rdI H x9 x11 fun v1 =>
    orB (decide (v1 < 0)) (fun _ κ' => κ' (decide (v1 > x3)) H) H fun b2 H3 =>
    bif b2 then
      κ false H3
    else
    bif decide (v1 = x3) then
      partition_Valid_2 k (W (x3 + 1)) x9 x10 x11 lo H3 κ
    else
    partition_Valid_2 k x3 x9 x10 x11 lo H3 κ
  else
  κ true H := by kernel_rfl
theorem partition_Valid_2_eq {ρ : Type} (k : Nat) {x3 : Int} {x9 : Sl} {x10 : Int} {x11 : Int} {lo : Nat} {H : AH} {κ : Bool → AH → Option ρ} : partition_Valid_2 (k + 1) x3 x9 x10 x11 lo H κ =
  partition_Valid_1 k x3 x9 x10 (W (x11 + 1)) lo H κ := by kernel_rfl
theorem partition_both_eq {ρ : Type} (k : Nat) {x0 : Sl} {x1 : Sl} {lo : Nat} {H : AH} {κ : Bool → AH → Option ρ} : partition_both (k + 1) x0 x1 lo H κ =
  andB (decide ((x0.len : Int) = (x1.len : Int))) (fun _ κ' => partition_Valid k x0 H.length H fun v1 H2 =>
    κ' v1 H2) H fun b3 H4 =>
  andB b3 (fun _ κ' => partition_Valid k x1 H4.length H4 fun v5 H6 =>
    κ' v5 H6) H4 fun b7 H8 =>
  κ b7 H8 := by kernel_rfl
theorem partition_Canonical_eq {ρ : Type} (k : Nat) {x0 : Sl} {lo : Nat} {H : AH} {κ : Sl → AH → Option ρ} : partition_Canonical (k + 1) x0 lo H κ =
  bif decide ((x0.len : Int) > 4096) then
    κ ⟨none, 0⟩ H
  else
  mkm H fun m2 H1 =>
  mks H1 [(.int .i64 0)] 8 (x0.len : Int) (x0.len : Int) fun s3 H4 =>
  partition_Canonical_1 k (some m2) s3 x0 (x0.len : Int) 0 lo H4 κ := by kernel_rfl
theorem partition_Canonical_1_eq {ρ : Type} (k : Nat) {x3 : Option Nat} {x4 : Sl} {x16 : Sl} {x17 : Int} {x18 : Int} {lo : Nat} {H : AH} {κ : Sl → AH → Option ρ} : partition_Canonical_1 (k + 1) x3 x4 x16 x17 x18 lo H κ =
  bif decide (x18 < x17) then
    rdI H x16 x18 fun v1 =>
    mlook false H x3 (.int .i64 v1) fun r2 => asI .i64 (Option.getD r2 (.int .i64 0)) fun v3 =>
    bif !(Option.isSome r2) then
      mlen H x3 fun v4 =>
      mput false lo H x3 (.int .i64 v1) (.int .i64 v4) fun H5 =>
      partition_Canonical_2 k x3 x4 x18 v4 x16 x17 x18 lo H5 κ
    else
    partition_Canonical_2 k x3 x4 x18 v3 x16 x17 x18 lo H κ
  else
  κ x4 H := by kernel_rfl
theorem partition_Canonical_2_eq {ρ : Type} (k : Nat) {x3 : Option Nat} {x4 : Sl} {x5 : Int} {x7 : Int} {x16 : Sl} {x17 : Int} {x18 : Int} {lo : Nat} {H : AH} {κ : Sl → AH → Option ρ} : partition_Canonical_2 (k + 1) x3 x4 x5 x7 x16 x17 x18 lo H κ =
  idx x4 x5 1 fun p1 =>
  stc lo H p1 (.int .i64 x7) fun H2 =>
  partition_Canonical_1 k x3 x4 x16 x17 (W (x18 + 1)) lo H2 κ := by kernel_rfl
theorem partition_Meet_eq {ρ : Type} (k : Nat) {x0 : Sl} {x1 : Sl} {lo : Nat} {H : AH} {κ : Sl → AH → Option ρ} : partition_Meet (k + 1) x0 x1 lo H κ =
  partition_both k x0 x1 H.length H fun v1 H2 =>
  bif !v1 then
    κ ⟨none, 0⟩ H2
  else
  mks H2 [(.int .i64 0)] 8 (x0.len : Int) (x0.len : Int) fun s3 H4 =>
  partition_Meet_1 k x0 x1 s3 (x0.len : Int) 0 lo H4 κ := by kernel_rfl
theorem partition_Meet_1_eq {ρ : Type} (k : Nat) {x0 : Sl} {x1 : Sl} {x5 : Sl} {x15 : Int} {x16 : Int} {lo : Nat} {H : AH} {κ : Sl → AH → Option ρ} : partition_Meet_1 (k + 1) x0 x1 x5 x15 x16 lo H κ =
  bif decide (x16 < x15) then
    rdI H x0 x16 fun v1 =>
    rdI H x1 x16 fun v2 =>
    idx x5 x16 1 fun p3 =>
    stc lo H p3 (.int .i64 (W ((W (v1 * 4096)) + v2))) fun H4 =>
    partition_Meet_1 k x0 x1 x5 x15 (W (x16 + 1)) lo H4 κ
  else
  partition_Canonical k x5 H.length H fun v5 H6 =>
  κ v5 H6 := by kernel_rfl
theorem green_firsts_eq {ρ : Type} (k : Nat) {x0 : Sl} {lo : Nat} {H : AH} {κ : Sl → AH → Option ρ} : green_firsts (k + 1) x0 lo H κ =
  green_firsts_1 k ⟨none, 0⟩ x0 (x0.len : Int) 0 lo H κ := by kernel_rfl
theorem green_firsts_1_eq {ρ : Type} (k : Nat) {x3 : Sl} {x6 : Sl} {x7 : Int} {x8 : Int} {lo : Nat} {H : AH} {κ : Sl → AH → Option ρ} : green_firsts_1 (k + 1) x3 x6 x7 x8 lo H κ =
  bif decide (x8 < x7) then
    rdI H x6 x8 fun v1 =>
    bif decide (v1 = (x3.len : Int)) then
      mkb H [(.int .i64 x8)] 1 1 fun s2 H3 =>
      appS lo H3 x3 s2 1 8 fun s4 H5 =>
      green_firsts_2 k s4 x6 x7 x8 lo H5 κ
    else
    green_firsts_2 k x3 x6 x7 x8 lo H κ
  else
  κ x3 H := by kernel_rfl
theorem green_firsts_2_eq {ρ : Type} (k : Nat) {x3 : Sl} {x6 : Sl} {x7 : Int} {x8 : Int} {lo : Nat} {H : AH} {κ : Sl → AH → Option ρ} : green_firsts_2 (k + 1) x3 x6 x7 x8 lo H κ =
  green_firsts_1 k x3 x6 x7 (W (x8 + 1)) lo H κ := by kernel_rfl
theorem green_classes_eq {ρ : Type} (k : Nat) {x0 : Sl} {lo : Nat} {H : AH} {κ : (Sl × Sl × Sl × Sl × Sl) → AH → Option ρ} : green_classes (k + 1) x0 lo H κ =
  alc H [(.sl ⟨none, 0⟩), (.sl ⟨none, 0⟩), (.sl ⟨none, 0⟩), (.sl ⟨none, 0⟩), (.sl ⟨none, 0⟩)] fun p1 H2 =>
  green_two k x0 H2.length H2 fun v3 H4 =>
  green_right k x0 H4.length H4 fun v5 H6 =>
  green_mutual k v5 H6.length H6 fun v7 H8 =>
  green_left k x0 H8.length H8 fun v9 H10 =>
  green_mutual k v9 H10.length H10 fun v11 H12 =>
  green_mutual k v3 H12.length H12 fun v13 H14 =>
  alc H14 [(.sl ⟨none, 0⟩), (.sl ⟨none, 0⟩), (.sl ⟨none, 0⟩), (.sl ⟨none, 0⟩), (.sl ⟨none, 0⟩)] fun p15 H16 =>
  stn lo H16 p15 [(.sl v7), (.sl v11), (.sl v13), (.sl ⟨none, 0⟩), (.sl ⟨none, 0⟩)] fun H17 =>
  ldc H17 ⟨p15.b, p15.o + 0⟩ fun u18 => asS u18 fun v19 =>
  ldc H17 ⟨p15.b, p15.o + 1⟩ fun u20 => asS u20 fun v21 =>
  partition_Meet k v19 v21 H17.length H17 fun v22 H23 =>
  stc lo H23 ⟨p15.b, p15.o + 3⟩ (.sl v22) fun H24 =>
  ldc H24 ⟨p15.b, p15.o + 2⟩ fun u25 => asS u25 fun v26 =>
  green_firsts k v26 H24.length H24 fun v27 H28 =>
  mks H28 [(.sl ⟨none, 0⟩)] 24 (v27.len : Int) (v27.len : Int) fun s29 H30 =>
  stc lo H30 ⟨p15.b, p15.o + 4⟩ (.sl s29) fun H31 =>
  green_classes_1 k (some p1) v3 (some p15) v27 v27 (v27.len : Int) 0 lo H31 κ := by kernel_rfl
theorem green_classes_1_eq {ρ : Type} (k : Nat) {x2 : Option Pt} {x3 : Sl} {x4 : Option Pt} {x5 : Sl} {x34 : Sl} {x35 : Int} {x36 : Int} {lo : Nat} {H : AH} {κ : (Sl × Sl × Sl × Sl × Sl) → AH → Option ρ} : green_classes_1 (k + 1) x2 x3 x4 x5 x34 x35 x36 lo H κ =
  bif decide (x36 < x35) then
    rdI H x34 x36 fun v1 =>
    asP (.ptr x4) fun p2 => 
    ldc H ⟨p2.b, p2.o + 4⟩ fun u3 => asS u3 fun v4 =>
    mks H [(.bool false)] 1 (x5.len : Int) (x5.len : Int) fun s5 H6 =>
    idx v4 x36 1 fun p7 =>
    stc lo H6 p7 (.sl s5) fun H8 =>
    green_classes_2 k x2 x3 x4 x5 x36 v1 x34 x35 x36 x5 (x5.len : Int) 0 lo H8 κ
  else
  asP (.ptr x4) fun p9 => ldA_sssss H p9 fun v10 v11 v12 v13 v14 =>
  asP (.ptr x2) fun p15 => stn lo H p15 [(.sl v10), (.sl v11), (.sl v12), (.sl v13), (.sl v14)] fun H16 =>
  asP (.ptr x2) fun p17 => ldA_sssss H16 p17 fun v18 v19 v20 v21 v22 => κ (v18, v19, v20, v21, v22) H16 := by kernel_rfl
theorem green_classes_2_eq {ρ : Type} (k : Nat) {x2 : Option Pt} {x3 : Sl} {x4 : Option Pt} {x5 : Sl} {x6 : Int} {x7 : Int} {x34 : Sl} {x35 : Int} {x36 : Int} {x48 : Sl} {x49 : Int} {x50 : Int} {lo : Nat} {H : AH} {κ : (Sl × Sl × Sl × Sl × Sl) → AH → Option ρ} : green_classes_2 (k + 1) x2 x3 x4 x5 x6 x7 x34 x35 x36 x48 x49 x50 lo H κ =
  bif decide (x50 < x49) then
    rdI H x48 x50 fun v1 =>
    asP (.ptr x4) fun p2 => 
    ldc H ⟨p2.b, p2.o + 4⟩ fun u3 => asS u3 fun v4 =>
    rdS H v4 x6 fun v5 =>
    rdS H x3 v1 fun v6 =>
    rdB H v6 x7 fun v7 =>
    idx v5 x50 1 fun p8 =>
    stc lo H p8 (.bool v7) fun H9 =>
    green_classes_2 k x2 x3 x4 x5 x6 x7 x34 x35 x36 x48 x49 (W (x50 + 1)) lo H9 κ
  else
  green_classes_1 k x2 x3 x4 x5 x34 x35 (W (x36 + 1)) lo H κ := by kernel_rfl
theorem green_Classes_eq {ρ : Type} (k : Nat) {x0 : Sl} {lo : Nat} {H : AH} {κ : (Sl × Sl × Sl × Sl × Sl) → AH → Option ρ} : green_Classes (k + 1) x0 lo H κ =
  alc H [(.sl ⟨none, 0⟩), (.sl ⟨none, 0⟩), (.sl ⟨none, 0⟩), (.sl ⟨none, 0⟩), (.sl ⟨none, 0⟩)] fun p1 H2 =>
  mult_Validate k x0 H2.length H2 fun v3 H4 =>
  bif !decide (v3 = 0) then
    stn lo H4 p1 [(.sl ⟨none, 0⟩), (.sl ⟨none, 0⟩), (.sl ⟨none, 0⟩), (.sl ⟨none, 0⟩), (.sl ⟨none, 0⟩)] fun H5 =>
    ldA_sssss H5 p1 fun v6 v7 v8 v9 v10 => κ (v6, v7, v8, v9, v10) H5
  else
  green_classes k x0 H4.length H4 fun r11 H12 =>
  stn lo H12 p1 [(.sl r11.1), (.sl r11.2.1), (.sl r11.2.2.1), (.sl r11.2.2.2.1), (.sl r11.2.2.2.2)] fun H13 =>
  ldA_sssss H13 p1 fun v14 v15 v16 v17 v18 => κ (v14, v15, v16, v17, v18) H13 := by kernel_rfl
theorem rees_class_eq {ρ : Type} (k : Nat) {x0 : Sl} {x1 : Int} {lo : Nat} {H : AH} {κ : (Sl × Sl × Sl × Sl × Sl × Sl × Bool × Int) → AH → Option ρ} : rees_class (k + 1) x0 x1 lo H κ =
  alc H [(.sl ⟨none, 0⟩), (.sl ⟨none, 0⟩), (.sl ⟨none, 0⟩), (.sl ⟨none, 0⟩), (.sl ⟨none, 0⟩)] fun p1 H2 =>
  mult_Validate k x0 H2.length H2 fun v3 H4 =>
  bif !decide (v3 = 0) then
    ldA_sssss H4 p1 fun v5 v6 v7 v8 v9 =>
    stn lo H4 p1 [(.sl v5), (.sl v6), (.sl v7), (.sl v8), (.sl v9)] fun H10 =>
    ldA_sssss H10 p1 fun v11 v12 v13 v14 v15 => κ (v11, v12, v13, v14, v15, ⟨none, 0⟩, false, v3) H10
  else
  green_Classes k x0 H4.length H4 fun r16 H17 =>
  stn lo H17 p1 [(.sl r16.1), (.sl r16.2.1), (.sl r16.2.2.1), (.sl r16.2.2.2.1), (.sl r16.2.2.2.2)] fun H18 =>
  orB (decide (x1 < 0)) (fun _ κ' => ldc H18 ⟨p1.b, p1.o + 4⟩ fun u19 => asS u19 fun v20 =>
    κ' (decide (x1 ≥ (v20.len : Int))) H18) H18 fun b21 H22 =>
  bif b21 then
    stn lo H22 p1 [(.sl ⟨none, 0⟩), (.sl ⟨none, 0⟩), (.sl ⟨none, 0⟩), (.sl ⟨none, 0⟩), (.sl ⟨none, 0⟩)] fun H23 =>
    ldA_sssss H23 p1 fun v24 v25 v26 v27 v28 => κ (v24, v25, v26, v27, v28, ⟨none, 0⟩, false, 1) H23
  else
  ldc H22 ⟨p1.b, p1.o + 2⟩ fun u29 => asS u29 fun v30 =>
  rees_class_1 k x1 (some p1) ⟨none, 0⟩ v30 (v30.len : Int) 0 lo H22 κ := by kernel_rfl
theorem rees_class_1_eq {ρ : Type} (k : Nat) {x1 : Int} {x4 : Option Pt} {x5 : Sl} {x30 : Sl} {x31 : Int} {x32 : Int} {lo : Nat} {H : AH} {κ : (Sl × Sl × Sl × Sl × Sl × Sl × Bool × Int) → AH → Option ρ} : rees_class_1 (k + 1) x1 x4 x5 x30 x31 x32 lo H κ =
  bif decide (x32 < x31) then
    rdI H x30 x32 fun v1 =>
    bif decide (v1 = x1) then
      mkb H [(.int .i64 x32)] 1 1 fun s2 H3 =>
      appS lo H3 x5 s2 1 8 fun s4 H5 =>
      rees_class_2 k x1 x4 s4 x30 x31 x32 lo H5 κ
    else
    rees_class_2 k x1 x4 x5 x30 x31 x32 lo H κ
  else
  asP (.ptr x4) fun p6 => 
  ldc H ⟨p6.b, p6.o + 4⟩ fun u7 => asS u7 fun v8 =>
  rees_class_3 k x1 x4 x5 true (v8.len : Int) 0 lo H κ := by kernel_rfl
theorem rees_class_2_eq {ρ : Type} (k : Nat) {x1 : Int} {x4 : Option Pt} {x5 : Sl} {x30 : Sl} {x31 : Int} {x32 : Int} {lo : Nat} {H : AH} {κ : (Sl × Sl × Sl × Sl × Sl × Sl × Bool × Int) → AH → Option ρ} : rees_class_2 (k + 1) x1 x4 x5 x30 x31 x32 lo H κ =
  rees_class_1 k x1 x4 x5 x30 x31 (W (x32 + 1)) lo H κ := by kernel_rfl
theorem rees_class_3_eq {ρ : Type} (k : Nat) {x1 : Int} {x4 : Option Pt} {x5 : Sl} {x6 : Bool} {x47 : Int} {x48 : Int} {lo : Nat} {H : AH} {κ : (Sl × Sl × Sl × Sl × Sl × Sl × Bool × Int) → AH → Option ρ} : rees_class_3 (k + 1) x1 x4 x5 x6 x47 x48 lo H κ =
  bif decide (x48 < x47) then
    andB x6 (fun _ κ' => orB (decide (x48 = x1)) (fun _ κ' => asP (.ptr x4) fun p1 => 
        ldc H ⟨p1.b, p1.o + 4⟩ fun u2 => asS u2 fun v3 =>
        rdS H v3 x48 fun v4 =>
        rdB H v4 x1 fun v5 =>
        κ' (!v5) H) H fun b6 H7 =>
      κ' b6 H7) H fun b8 H9 =>
    rees_class_3 k x1 x4 x5 b8 x47 (W (x48 + 1)) lo H9 κ
  else
  asP (.ptr x4) fun p10 => ldA_sssss H p10 fun v11 v12 v13 v14 v15 =>
  asP (.ptr x4) fun p16 => stn lo H p16 [(.sl v11), (.sl v12), (.sl v13), (.sl v14), (.sl v15)] fun H17 =>
  asP (.ptr x4) fun p18 => ldA_sssss H17 p18 fun v19 v20 v21 v22 v23 => κ (v19, v20, v21, v22, v23, x5, x6, 0) H17 := by kernel_rfl
theorem rees_Check_eq {ρ : Type} (k : Nat) {x0 : Sl} {x1 : Int} {x2_0 : Sl} {x2_1 : Int} {x2_2 : Int} {x2_3 : Sl} {x2_4 : Bool} {x3 : Sl} {lo : Nat} {H : AH} {κ : Bool → AH → Option ρ} : rees_Check (k + 1) x0 x1 x2_0 x2_1 x2_2 x2_3 x2_4 x3 lo H κ =
  alc H [(.sl x2_0), (.int .i64 x2_1), (.int .i64 x2_2), (.sl x2_3), (.bool x2_4)] fun p1 H2 =>
  rees_class k x0 x1 H2.length H2 fun r3 H4 =>
  alc H4 [(.sl ⟨none, 0⟩), (.sl ⟨none, 0⟩), (.sl ⟨none, 0⟩), (.sl ⟨none, 0⟩), (.sl ⟨none, 0⟩)] fun p5 H6 =>
  stn lo H6 p5 [(.sl r3.1), (.sl r3.2.1), (.sl r3.2.2.1), (.sl r3.2.2.2.1), (.sl r3.2.2.2.2.1)] fun H7 =>
  orB (!decide (r3.2.2.2.2.2.2.2 = 0)) (fun _ κ' => ldA_siisb H7 p1 fun v8 v9 v10 v11 v12 =>
    rees_Validate k v8 v9 v10 v11 v12 H7.length H7 fun v13 H14 =>
    κ' (!decide (v13 = 0)) H14) H7 fun b15 H16 =>
  orB b15 (fun _ κ' => ldc H16 ⟨p1.b, p1.o + 4⟩ fun u17 => asB u17 fun v18 =>
    κ' (v18 == r3.2.2.2.2.2.2.1) H16) H16 fun b19 H20 =>
  orB b19 (fun _ κ' => κ' (!decide ((x3.len : Int) = (x0.len : Int))) H20) H20 fun b21 H22 =>
  orB b21 (fun _ κ' => ldA_siisb H22 p1 fun v23 v24 v25 v26 v27 =>
    rees_size k v23 v24 v25 v26 v27 H22.length H22 fun v28 H29 =>
    ldA_siisb H29 p1 fun v30 v31 v32 v33 v34 =>
    rees_zero k v30 v31 v32 v33 v34 H29.length H29 fun v35 H36 =>
    κ' (!decide (v28 = (W ((r3.2.2.2.2.2.1.len : Int) + v35)))) H36) H22 fun b37 H38 =>
  bif b37 then
    κ false H38
  else
  mks H38 [(.bool false)] 1 (x0.len : Int) (x0.len : Int) fun s39 H40 =>
  rees_Check_1 k x0 x3 (some p1) r3.2.2.2.2.2.1 s39 r3.2.2.2.2.2.1 (r3.2.2.2.2.2.1.len : Int) 0 lo H40 κ := by kernel_rfl
theorem rees_Check_1_eq {ρ : Type} (k : Nat) {x0 : Sl} {x3 : Sl} {x6 : Option Pt} {x10 : Sl} {x13 : Sl} {x65 : Sl} {x66 : Int} {x67 : Int} {lo : Nat} {H : AH} {κ : Bool → AH → Option ρ} : rees_Check_1 (k + 1) x0 x3 x6 x10 x13 x65 x66 x67 lo H κ =
  bif decide (x67 < x66) then
    rdI H x65 x67 fun v1 =>
    idx x13 v1 1 fun p2 =>
    stc lo H p2 (.bool true) fun H3 =>
    rees_Check_1 k x0 x3 x6 x10 x13 x65 x66 (W (x67 + 1)) lo H3 κ
  else
  asP (.ptr x6) fun p4 => ldA_siisb H p4 fun v5 v6 v7 v8 v9 =>
  rees_size k v5 v6 v7 v8 v9 H.length H fun v10 H11 =>
  mks H11 [(.bool false)] 1 v10 v10 fun s12 H13 =>
  rees_Check_2 k x0 x3 x6 x10 x13 s12 x3 (x3.len : Int) 0 lo H13 κ := by kernel_rfl
theorem rees_Check_2_eq {ρ : Type} (k : Nat) {x0 : Sl} {x3 : Sl} {x6 : Option Pt} {x10 : Sl} {x13 : Sl} {x16 : Sl} {x78 : Sl} {x79 : Int} {x80 : Int} {lo : Nat} {H : AH} {κ : Bool → AH → Option ρ} : rees_Check_2 (k + 1) x0 x3 x6 x10 x13 x16 x78 x79 x80 lo H κ =
  bif decide (x80 < x79) then
    rdI H x78 x80 fun v1 =>
    rdB H x13 x80 fun v2 =>
    bif !v2 then
      bif !decide (v1 = (-1)) then
        κ false H
      else
      rees_Check_3 k x0 x3 x6 x10 x13 x16 x78 x79 x80 lo H κ
    else
    asP (.ptr x6) fun p3 => ldA_siisb H p3 fun v4 v5 v6 v7 v8 =>
    rees_zero k v4 v5 v6 v7 v8 H.length H fun v9 H10 =>
    orB (decide (v1 < v9)) (fun _ κ' => asP (.ptr x6) fun p11 => ldA_siisb H10 p11 fun v12 v13 v14 v15 v16 =>
      rees_size k v12 v13 v14 v15 v16 H10.length H10 fun v17 H18 =>
      κ' (decide (v1 ≥ v17)) H18) H10 fun b19 H20 =>
    orB b19 (fun _ κ' => rdB H20 x16 v1 fun v21 =>
      κ' v21 H20) H20 fun b22 H23 =>
    bif b22 then
      κ false H23
    else
    idx x16 v1 1 fun p24 =>
    stc lo H23 p24 (.bool true) fun H25 =>
    rees_Check_3 k x0 x3 x6 x10 x13 x16 x78 x79 x80 lo H25 κ
  else
  rees_Check_4 k x0 x3 x6 x10 x13 x10 (x10.len : Int) 0 lo H κ := by kernel_rfl
theorem rees_Check_3_eq {ρ : Type} (k : Nat) {x0 : Sl} {x3 : Sl} {x6 : Option Pt} {x10 : Sl} {x13 : Sl} {x16 : Sl} {x78 : Sl} {x79 : Int} {x80 : Int} {lo : Nat} {H : AH} {κ : Bool → AH → Option ρ} : rees_Check_3 (k + 1) x0 x3 x6 x10 x13 x16 x78 x79 x80 lo H κ =
  rees_Check_2 k x0 x3 x6 x10 x13 x16 x78 x79 (W (x80 + 1)) lo H κ := by kernel_rfl
theorem rees_Check_4_eq {ρ : Type} (k : Nat) {x0 : Sl} {x3 : Sl} {x6 : Option Pt} {x10 : Sl} {x13 : Sl} {x112 : Sl} {x113 : Int} {x114 : Int} {lo : Nat} {H : AH} {κ : Bool → AH → Option ρ} : rees_Check_4 (k + 1) x0 x3 x6 x10 x13 x112 x113 x114 lo H κ =
  bif decide (x114 < x113) then
    rdI H x112 x114 fun v1 =>
    rees_Check_5 k x0 x3 x6 x10 x13 v1 x112 x113 x114 x10 (x10.len : Int) 0 lo H κ
  else
  κ true H := by kernel_rfl
theorem rees_Check_5_eq {ρ : Type} (k : Nat) {x0 : Sl} {x3 : Sl} {x6 : Option Pt} {x10 : Sl} {x13 : Sl} {x20 : Int} {x112 : Sl} {x113 : Int} {x114 : Int} {x118 : Sl} {x119 : Int} {x120 : Int} {lo : Nat} {H : AH} {κ : Bool → AH → Option ρ} : rees_Check_5 (k + 1) x0 x3 x6 x10 x13 x20 x112 x113 x114 x118 x119 x120 lo H κ =
  bif decide (x120 < x119) then
    rdI H x118 x120 fun v1 =>
    rdS H x0 x20 fun v2 =>
    rdI H v2 v1 fun v3 =>
    rdB H x13 v3 fun v4 =>
    bif v4 then
      rdS H x0 x20 fun v5 =>
      rdI H v5 v1 fun v6 =>
      rdI H x3 v6 fun v7 =>
      rees_Check_6 k x0 x3 x6 x10 x13 x20 v1 v7 x112 x113 x114 x118 x119 x120 lo H κ
    else
    asP (.ptr x6) fun p8 => 
    ldc H ⟨p8.b, p8.o + 4⟩ fun u9 => asB u9 fun v10 =>
    bif !v10 then
      κ false H
    else
    rees_Check_6 k x0 x3 x6 x10 x13 x20 v1 0 x112 x113 x114 x118 x119 x120 lo H κ
  else
  rees_Check_4 k x0 x3 x6 x10 x13 x112 x113 (W (x114 + 1)) lo H κ := by kernel_rfl
theorem rees_Check_6_eq {ρ : Type} (k : Nat) {x0 : Sl} {x3 : Sl} {x6 : Option Pt} {x10 : Sl} {x13 : Sl} {x20 : Int} {x22 : Int} {x23 : Int} {x112 : Sl} {x113 : Int} {x114 : Int} {x118 : Sl} {x119 : Int} {x120 : Int} {lo : Nat} {H : AH} {κ : Bool → AH → Option ρ} : rees_Check_6 (k + 1) x0 x3 x6 x10 x13 x20 x22 x23 x112 x113 x114 x118 x119 x120 lo H κ =
  asP (.ptr x6) fun p1 => ldA_siisb H p1 fun v2 v3 v4 v5 v6 =>
  rdI H x3 x20 fun v7 =>
  rdI H x3 x22 fun v8 =>
  rees_mul k v2 v3 v4 v5 v6 v7 v8 H.length H fun v9 H10 =>
  bif !decide (v9 = x23) then
    κ false H10
  else
  rees_Check_5 k x0 x3 x6 x10 x13 x20 x112 x113 x114 x118 x119 (W (x120 + 1)) lo H10 κ := by kernel_rfl
theorem semigroupref14_Associative_eq {ρ : Type} (k : Nat) {x0 : Sl} {lo : Nat} {H : AH} {κ : (Int × Int × Int × Int) → AH → Option ρ} : semigroupref14_Associative (k + 1) x0 lo H κ =
  semigroupref14_Shape k x0 H.length H fun v1 H2 =>
  bif !decide (v1 = 0) then
    κ (0, 0, 0, v1) H2
  else
  semigroupref14_Associative_1 k x0 (x0.len : Int) 0 lo H2 κ := by kernel_rfl
theorem semigroupref14_Associative_1_eq {ρ : Type} (k : Nat) {x0 : Sl} {x16 : Int} {x17 : Int} {lo : Nat} {H : AH} {κ : (Int × Int × Int × Int) → AH → Option ρ} : semigroupref14_Associative_1 (k + 1) x0 x16 x17 lo H κ =
  bif decide (x17 < x16) then
    semigroupref14_Associative_2 k x0 x17 x16 x17 (x0.len : Int) 0 lo H κ
  else
  κ (0, 0, 0, 0) H := by kernel_rfl
theorem semigroupref14_Associative_2_eq {ρ : Type} (k : Nat) {x0 : Sl} {x7 : Int} {x16 : Int} {x17 : Int} {x21 : Int} {x22 : Int} {lo : Nat} {H : AH} {κ : (Int × Int × Int × Int) → AH → Option ρ} : semigroupref14_Associative_2 (k + 1) x0 x7 x16 x17 x21 x22 lo H κ =
  bif decide (x22 < x21) then
    semigroupref14_Associative_3 k x0 x7 x22 x16 x17 x21 x22 (x0.len : Int) 0 lo H κ
  else
  semigroupref14_Associative_1 k x0 x16 (W (x17 + 1)) lo H κ := by kernel_rfl
theorem semigroupref14_Associative_3_eq {ρ : Type} (k : Nat) {x0 : Sl} {x7 : Int} {x8 : Int} {x16 : Int} {x17 : Int} {x21 : Int} {x22 : Int} {x26 : Int} {x27 : Int} {lo : Nat} {H : AH} {κ : (Int × Int × Int × Int) → AH → Option ρ} : semigroupref14_Associative_3 (k + 1) x0 x7 x8 x16 x17 x21 x22 x26 x27 lo H κ =
  bif decide (x27 < x26) then
    rdS H x0 x7 fun v1 =>
    rdI H v1 x8 fun v2 =>
    rdS H x0 v2 fun v3 =>
    rdI H v3 x27 fun v4 =>
    rdS H x0 x7 fun v5 =>
    rdS H x0 x8 fun v6 =>
    rdI H v6 x27 fun v7 =>
    rdI H v5 v7 fun v8 =>
    bif !decide (v4 = v8) then
      κ (x7, x8, x27, 5) H
    else
    semigroupref14_Associative_3 k x0 x7 x8 x16 x17 x21 x22 x26 (W (x27 + 1)) lo H κ
  else
  semigroupref14_Associative_2 k x0 x7 x16 x17 x21 (W (x22 + 1)) lo H κ := by kernel_rfl
theorem semigroupref14_Validate_eq {ρ : Type} (k : Nat) {x0 : Sl} {lo : Nat} {H : AH} {κ : Int → AH → Option ρ} : semigroupref14_Validate (k + 1) x0 lo H κ =
  semigroupref14_Associative k x0 H.length H fun r1 H2 =>
  κ r1.2.2.2 H2 := by kernel_rfl
theorem semigroupref15_Right_eq {ρ : Type} (k : Nat) {x0 : Sl} {x1 : Int} {lo : Nat} {H : AH} {κ : Sl → AH → Option ρ} : semigroupref15_Right (k + 1) x0 x1 lo H κ =
  mks H [(.bool false)] 1 (x0.len : Int) (x0.len : Int) fun s1 H2 =>
  idx s1 x1 1 fun p3 =>
  stc lo H2 p3 (.bool true) fun H4 =>
  rdS H4 x0 x1 fun v5 =>
  semigroupref15_Right_1 k s1 v5 (v5.len : Int) 0 lo H4 κ := by kernel_rfl
theorem semigroupref15_Right_1_eq {ρ : Type} (k : Nat) {x5 : Sl} {x17 : Sl} {x18 : Int} {x19 : Int} {lo : Nat} {H : AH} {κ : Sl → AH → Option ρ} : semigroupref15_Right_1 (k + 1) x5 x17 x18 x19 lo H κ =
  bif decide (x19 < x18) then
    rdI H x17 x19 fun v1 =>
    idx x5 v1 1 fun p2 =>
    stc lo H p2 (.bool true) fun H3 =>
    semigroupref15_Right_1 k x5 x17 x18 (W (x19 + 1)) lo H3 κ
  else
  κ x5 H := by kernel_rfl
theorem semigroupref15_Left_eq {ρ : Type} (k : Nat) {x0 : Sl} {x1 : Int} {lo : Nat} {H : AH} {κ : Sl → AH → Option ρ} : semigroupref15_Left (k + 1) x0 x1 lo H κ =
  mks H [(.bool false)] 1 (x0.len : Int) (x0.len : Int) fun s1 H2 =>
  idx s1 x1 1 fun p3 =>
  stc lo H2 p3 (.bool true) fun H4 =>
  semigroupref15_Left_1 k x0 x1 s1 (x0.len : Int) 0 lo H4 κ := by kernel_rfl
theorem semigroupref15_Left_1_eq {ρ : Type} (k : Nat) {x0 : Sl} {x1 : Int} {x5 : Sl} {x14 : Int} {x15 : Int} {lo : Nat} {H : AH} {κ : Sl → AH → Option ρ} : semigroupref15_Left_1 (k + 1) x0 x1 x5 x14 x15 lo H κ =
  bif decide (x15 < x14) then
    rdS H x0 x15 fun v1 =>
    rdI H v1 x1 fun v2 =>
    idx x5 v2 1 fun p3 =>
    stc lo H p3 (.bool true) fun H4 =>
    semigroupref15_Left_1 k x0 x1 x5 x14 (W (x15 + 1)) lo H4 κ
  else
  κ x5 H := by kernel_rfl
theorem semigroupref15_Both_eq {ρ : Type} (k : Nat) {x0 : Sl} {x1 : Int} {lo : Nat} {H : AH} {κ : Sl → AH → Option ρ} : semigroupref15_Both (k + 1) x0 x1 lo H κ =
  mks H [(.bool false)] 1 (x0.len : Int) (x0.len : Int) fun s1 H2 =>
  semigroupref15_Left k x0 x1 H2.length H2 fun v3 H4 =>
  semigroupref15_Both_1 k x0 s1 v3 (v3.len : Int) 0 lo H4 κ := by kernel_rfl
theorem semigroupref15_Both_1_eq {ρ : Type} (k : Nat) {x0 : Sl} {x5 : Sl} {x15 : Sl} {x16 : Int} {x17 : Int} {lo : Nat} {H : AH} {κ : Sl → AH → Option ρ} : semigroupref15_Both_1 (k + 1) x0 x5 x15 x16 x17 lo H κ =
  bif decide (x17 < x16) then
    rdB H x15 x17 fun v1 =>
    bif !v1 then
      semigroupref15_Both_3 k x0 x5 x15 x16 x17 lo H κ
    else
    idx x5 x17 1 fun p2 =>
    stc lo H p2 (.bool true) fun H3 =>
    rdS H3 x0 x17 fun v4 =>
    semigroupref15_Both_2 k x0 x5 x15 x16 x17 v4 (v4.len : Int) 0 lo H3 κ
  else
  κ x5 H := by kernel_rfl
theorem semigroupref15_Both_2_eq {ρ : Type} (k : Nat) {x0 : Sl} {x5 : Sl} {x15 : Sl} {x16 : Int} {x17 : Int} {x30 : Sl} {x31 : Int} {x32 : Int} {lo : Nat} {H : AH} {κ : Sl → AH → Option ρ} : semigroupref15_Both_2 (k + 1) x0 x5 x15 x16 x17 x30 x31 x32 lo H κ =
  bif decide (x32 < x31) then
    rdI H x30 x32 fun v1 =>
    idx x5 v1 1 fun p2 =>
    stc lo H p2 (.bool true) fun H3 =>
    semigroupref15_Both_2 k x0 x5 x15 x16 x17 x30 x31 (W (x32 + 1)) lo H3 κ
  else
  semigroupref15_Both_3 k x0 x5 x15 x16 x17 lo H κ := by kernel_rfl
theorem semigroupref15_Both_3_eq {ρ : Type} (k : Nat) {x0 : Sl} {x5 : Sl} {x15 : Sl} {x16 : Int} {x17 : Int} {lo : Nat} {H : AH} {κ : Sl → AH → Option ρ} : semigroupref15_Both_3 (k + 1) x0 x5 x15 x16 x17 lo H κ =
  semigroupref15_Both_1 k x0 x5 x15 x16 (W (x17 + 1)) lo H κ := by kernel_rfl
theorem semigroupref15_ideals_eq {ρ : Type} (k : Nat) {x0 : Sl} {x1 : Int} {lo : Nat} {H : AH} {κ : Sl → AH → Option ρ} : semigroupref15_ideals (k + 1) x0 x1 lo H κ =
  semigroupref15_ideals_1 k x0 x1 ⟨none, 0⟩ (x0.len : Int) 0 lo H κ := by kernel_rfl
theorem semigroupref15_ideals_1_eq {ρ : Type} (k : Nat) {x0 : Sl} {x1 : Int} {x5 : Sl} {x8 : Int} {x9 : Int} {lo : Nat} {H : AH} {κ : Sl → AH → Option ρ} : semigroupref15_ideals_1 (k + 1) x0 x1 x5 x8 x9 lo H κ =
  bif decide (x9 < x8) then
    bif decide (x1 = 82) then
      semigroupref15_Right k x0 x9 H.length H fun v1 H2 =>
      mkb H2 [(.sl v1)] 1 1 fun s3 H4 =>
      appS lo H4 x5 s3 1 24 fun s5 H6 =>
      semigroupref15_ideals_2 k x0 x1 s5 x8 x9 lo H6 κ
    else
    bif decide (x1 = 76) then
      semigroupref15_Left k x0 x9 H.length H fun v7 H8 =>
      mkb H8 [(.sl v7)] 1 1 fun s9 H10 =>
      appS lo H10 x5 s9 1 24 fun s11 H12 =>
      semigroupref15_ideals_2 k x0 x1 s11 x8 x9 lo H12 κ
    else
    semigroupref15_Both k x0 x9 H.length H fun v13 H14 =>
    mkb H14 [(.sl v13)] 1 1 fun s15 H16 =>
    appS lo H16 x5 s15 1 24 fun s17 H18 =>
    semigroupref15_ideals_2 k x0 x1 s17 x8 x9 lo H18 κ
  else
  κ x5 H := by kernel_rfl
theorem semigroupref15_ideals_2_eq {ρ : Type} (k : Nat) {x0 : Sl} {x1 : Int} {x5 : Sl} {x8 : Int} {x9 : Int} {lo : Nat} {H : AH} {κ : Sl → AH → Option ρ} : semigroupref15_ideals_2 (k + 1) x0 x1 x5 x8 x9 lo H κ =
  semigroupref15_ideals_1 k x0 x1 x5 x8 (W (x9 + 1)) lo H κ := by kernel_rfl
theorem semigroupref03_Canonical_eq {ρ : Type} (k : Nat) {x0 : Sl} {lo : Nat} {H : AH} {κ : Sl → AH → Option ρ} : semigroupref03_Canonical (k + 1) x0 lo H κ =
  bif decide ((x0.len : Int) > 4096) then
    κ ⟨none, 0⟩ H
  else
  mks H [(.int .i64 0)] 8 (x0.len : Int) (x0.len : Int) fun s1 H2 =>
  mkm H2 fun m4 H3 =>
  semigroupref03_Canonical_1 k s1 0 (some m4) x0 (x0.len : Int) 0 lo H3 κ := by kernel_rfl
theorem semigroupref03_Canonical_1_eq {ρ : Type} (k : Nat) {x3 : Sl} {x4 : Int} {x5 : Option Nat} {x17 : Sl} {x18 : Int} {x19 : Int} {lo : Nat} {H : AH} {κ : Sl → AH → Option ρ} : semigroupref03_Canonical_1 (k + 1) x3 x4 x5 x17 x18 x19 lo H κ =
  bif decide (x19 < x18) then
    rdI H x17 x19 fun v1 =>
    mlook false H x5 (.int .i64 v1) fun r2 => asI .i64 (Option.getD r2 (.int .i64 0)) fun v3 =>
    bif !(Option.isSome r2) then
      mput false lo H x5 (.int .i64 v1) (.int .i64 x4) fun H4 =>
      semigroupref03_Canonical_2 k x3 (W (x4 + 1)) x5 x19 x4 x17 x18 x19 lo H4 κ
    else
    semigroupref03_Canonical_2 k x3 x4 x5 x19 v3 x17 x18 x19 lo H κ
  else
  κ x3 H := by kernel_rfl
theorem semigroupref03_Canonical_2_eq {ρ : Type} (k : Nat) {x3 : Sl} {x4 : Int} {x5 : Option Nat} {x6 : Int} {x8 : Int} {x17 : Sl} {x18 : Int} {x19 : Int} {lo : Nat} {H : AH} {κ : Sl → AH → Option ρ} : semigroupref03_Canonical_2 (k + 1) x3 x4 x5 x6 x8 x17 x18 x19 lo H κ =
  idx x3 x6 1 fun p1 =>
  stc lo H p1 (.int .i64 x8) fun H2 =>
  semigroupref03_Canonical_1 k x3 x4 x5 x17 x18 (W (x19 + 1)) lo H2 κ := by kernel_rfl
theorem semigroupref15_mutual_eq {ρ : Type} (k : Nat) {x0 : Sl} {lo : Nat} {H : AH} {κ : Sl → AH → Option ρ} : semigroupref15_mutual (k + 1) x0 lo H κ =
  mks H [(.int .i64 0)] 8 (x0.len : Int) (x0.len : Int) fun s1 H2 =>
  semigroupref15_mutual_1 k x0 s1 (s1.len : Int) 0 lo H2 κ := by kernel_rfl
theorem semigroupref15_mutual_1_eq {ρ : Type} (k : Nat) {x0 : Sl} {x3 : Sl} {x10 : Int} {x11 : Int} {lo : Nat} {H : AH} {κ : Sl → AH → Option ρ} : semigroupref15_mutual_1 (k + 1) x0 x3 x10 x11 lo H κ =
  bif decide (x11 < x10) then
    idx x3 x11 1 fun p1 =>
    stc lo H p1 (.int .i64 x11) fun H2 =>
    semigroupref15_mutual_2 k x0 x3 x11 0 x10 x11 lo H2 κ
  else
  semigroupref03_Canonical k x3 H.length H fun v3 H4 =>
  κ v3 H4 := by kernel_rfl
theorem semigroupref15_mutual_2_eq {ρ : Type} (k : Nat) {x0 : Sl} {x3 : Sl} {x4 : Int} {x5 : Int} {x10 : Int} {x11 : Int} {lo : Nat} {H : AH} {κ : Sl → AH → Option ρ} : semigroupref15_mutual_2 (k + 1) x0 x3 x4 x5 x10 x11 lo H κ =
  bif decide (x5 < x4) then
    rdS H x0 x4 fun v1 =>
    rdB H v1 x5 fun v2 =>
    andB v2 (fun _ κ' => rdS H x0 x5 fun v3 =>
      rdB H v3 x4 fun v4 =>
      κ' v4 H) H fun b5 H6 =>
    bif b5 then
      rdI H6 x3 x5 fun v7 =>
      idx x3 x4 1 fun p8 =>
      stc lo H6 p8 (.int .i64 v7) fun H9 =>
      semigroupref15_mutual_3 k x0 x3 x10 x11 lo H9 κ
    else
    semigroupref15_mutual_2 k x0 x3 x4 (W (x5 + 1)) x10 x11 lo H6 κ
  else
  semigroupref15_mutual_3 k x0 x3 x10 x11 lo H κ := by kernel_rfl
theorem semigroupref15_mutual_3_eq {ρ : Type} (k : Nat) {x0 : Sl} {x3 : Sl} {x10 : Int} {x11 : Int} {lo : Nat} {H : AH} {κ : Sl → AH → Option ρ} : semigroupref15_mutual_3 (k + 1) x0 x3 x10 x11 lo H κ =
  semigroupref15_mutual_1 k x0 x3 x10 (W (x11 + 1)) lo H κ := by kernel_rfl
theorem semigroupref03_Meet_eq {ρ : Type} (k : Nat) {x0 : Sl} {x1 : Sl} {lo : Nat} {H : AH} {κ : Sl → AH → Option ρ} : semigroupref03_Meet (k + 1) x0 x1 lo H κ =
  mks H [(.int .i64 0)] 8 (x0.len : Int) (x0.len : Int) fun s1 H2 =>
  semigroupref03_Meet_1 k x0 x1 s1 (x0.len : Int) 0 lo H2 κ := by kernel_rfl
theorem semigroupref03_Meet_1_eq {ρ : Type} (k : Nat) {x0 : Sl} {x1 : Sl} {x5 : Sl} {x11 : Int} {x12 : Int} {lo : Nat} {H : AH} {κ : Sl → AH → Option ρ} : semigroupref03_Meet_1 (k + 1) x0 x1 x5 x11 x12 lo H κ =
  bif decide (x12 < x11) then
    rdI H x0 x12 fun v1 =>
    rdI H x1 x12 fun v2 =>
    idx x5 x12 1 fun p3 =>
    stc lo H p3 (.int .i64 (W ((W (v1 * 4096)) + v2))) fun H4 =>
    semigroupref03_Meet_1 k x0 x1 x5 x11 (W (x12 + 1)) lo H4 κ
  else
  semigroupref03_Canonical k x5 H.length H fun v5 H6 =>
  κ v5 H6 := by kernel_rfl
theorem semigroupref03_Count_eq {ρ : Type} (k : Nat) {x0 : Sl} {lo : Nat} {H : AH} {κ : Int → AH → Option ρ} : semigroupref03_Count (k + 1) x0 lo H κ =
  semigroupref03_Count_1 k 0 x0 (x0.len : Int) 0 lo H κ := by kernel_rfl
theorem semigroupref03_Count_1_eq {ρ : Type} (k : Nat) {x3 : Int} {x6 : Sl} {x7 : Int} {x8 : Int} {lo : Nat} {H : AH} {κ : Int → AH → Option ρ} : semigroupref03_Count_1 (k + 1) x3 x6 x7 x8 lo H κ =
  bif decide (x8 < x7) then
    rdI H x6 x8 fun v1 =>
    semigroupref03_Count_1 k (mxI x3 (W (v1 + 1))) x6 x7 (W (x8 + 1)) lo H κ
  else
  κ x3 H := by kernel_rfl
theorem semigroupref03_Classes_eq {ρ : Type} (k : Nat) {x0 : Sl} {lo : Nat} {H : AH} {κ : Sl → AH → Option ρ} : semigroupref03_Classes (k + 1) x0 lo H κ =
  semigroupref03_Count k x0 H.length H fun v1 H2 =>
  mks H2 [(.sl ⟨none, 0⟩)] 24 v1 v1 fun s3 H4 =>
  semigroupref03_Classes_1 k s3 x0 (x0.len : Int) 0 lo H4 κ := by kernel_rfl
theorem semigroupref03_Classes_1_eq {ρ : Type} (k : Nat) {x3 : Sl} {x9 : Sl} {x10 : Int} {x11 : Int} {lo : Nat} {H : AH} {κ : Sl → AH → Option ρ} : semigroupref03_Classes_1 (k + 1) x3 x9 x10 x11 lo H κ =
  bif decide (x11 < x10) then
    rdI H x9 x11 fun v1 =>
    rdS H x3 v1 fun v2 =>
    mkb H [(.int .i64 x11)] 1 1 fun s3 H4 =>
    appS lo H4 v2 s3 1 8 fun s5 H6 =>
    idx x3 v1 1 fun p7 =>
    stc lo H6 p7 (.sl s5) fun H8 =>
    semigroupref03_Classes_1 k x3 x9 x10 (W (x11 + 1)) lo H8 κ
  else
  κ x3 H := by kernel_rfl
theorem semigroupref15_Classes_eq {ρ : Type} (k : Nat) {x0 : Sl} {lo : Nat} {H : AH} {κ : (Sl × Sl × Sl × Sl × Sl) → AH → Option ρ} : semigroupref15_Classes (k + 1) x0 lo H κ =
  alc H [(.sl ⟨none, 0⟩), (.sl ⟨none, 0⟩), (.sl ⟨none, 0⟩), (.sl ⟨none, 0⟩), (.sl ⟨none, 0⟩)] fun p1 H2 =>
  semigroupref15_ideals k x0 82 H2.length H2 fun v3 H4 =>
  semigroupref15_mutual k v3 H4.length H4 fun v5 H6 =>
  semigroupref15_ideals k x0 76 H6.length H6 fun v7 H8 =>
  semigroupref15_mutual k v7 H8.length H8 fun v9 H10 =>
  alc H10 [(.sl ⟨none, 0⟩), (.sl ⟨none, 0⟩), (.sl ⟨none, 0⟩), (.sl ⟨none, 0⟩), (.sl ⟨none, 0⟩)] fun p11 H12 =>
  stn lo H12 p11 [(.sl v5), (.sl v9), (.sl ⟨none, 0⟩), (.sl ⟨none, 0⟩), (.sl ⟨none, 0⟩)] fun H13 =>
  semigroupref15_ideals k x0 74 H13.length H13 fun v14 H15 =>
  semigroupref15_mutual k v14 H15.length H15 fun v16 H17 =>
  stc lo H17 ⟨p11.b, p11.o + 2⟩ (.sl v16) fun H18 =>
  ldc H18 ⟨p11.b, p11.o + 0⟩ fun u19 => asS u19 fun v20 =>
  ldc H18 ⟨p11.b, p11.o + 1⟩ fun u21 => asS u21 fun v22 =>
  semigroupref03_Meet k v20 v22 H18.length H18 fun v23 H24 =>
  stc lo H24 ⟨p11.b, p11.o + 3⟩ (.sl v23) fun H25 =>
  ldc H25 ⟨p11.b, p11.o + 2⟩ fun u26 => asS u26 fun v27 =>
  semigroupref03_Classes k v27 H25.length H25 fun v28 H29 =>
  semigroupref15_Classes_1 k (some p1) (some p11) v14 v28 v28 (v28.len : Int) 0 lo H29 κ := by kernel_rfl
theorem semigroupref15_Classes_1_eq {ρ : Type} (k : Nat) {x2 : Option Pt} {x3 : Option Pt} {x4 : Sl} {x5 : Sl} {x32 : Sl} {x33 : Int} {x34 : Int} {lo : Nat} {H : AH} {κ : (Sl × Sl × Sl × Sl × Sl) → AH → Option ρ} : semigroupref15_Classes_1 (k + 1) x2 x3 x4 x5 x32 x33 x34 lo H κ =
  bif decide (x34 < x33) then
    rdS H x32 x34 fun v1 =>
    semigroupref15_Classes_2 k x2 x3 x4 x5 v1 ⟨none, 0⟩ x32 x33 x34 x5 (x5.len : Int) 0 lo H κ
  else
  asP (.ptr x3) fun p2 => ldA_sssss H p2 fun v3 v4 v5 v6 v7 =>
  asP (.ptr x2) fun p8 => stn lo H p8 [(.sl v3), (.sl v4), (.sl v5), (.sl v6), (.sl v7)] fun H9 =>
  asP (.ptr x2) fun p10 => ldA_sssss H9 p10 fun v11 v12 v13 v14 v15 => κ (v11, v12, v13, v14, v15) H9 := by kernel_rfl
theorem semigroupref15_Classes_2_eq {ρ : Type} (k : Nat) {x2 : Option Pt} {x3 : Option Pt} {x4 : Sl} {x5 : Sl} {x7 : Sl} {x8 : Sl} {x32 : Sl} {x33 : Int} {x34 : Int} {x38 : Sl} {x39 : Int} {x40 : Int} {lo : Nat} {H : AH} {κ : (Sl × Sl × Sl × Sl × Sl) → AH → Option ρ} : semigroupref15_Classes_2 (k + 1) x2 x3 x4 x5 x7 x8 x32 x33 x34 x38 x39 x40 lo H κ =
  bif decide (x40 < x39) then
    rdS H x38 x40 fun v1 =>
    rdI H v1 0 fun v2 =>
    rdS H x4 v2 fun v3 =>
    rdI H x7 0 fun v4 =>
    rdB H v3 v4 fun v5 =>
    mkb H [(.bool v5)] 1 1 fun s6 H7 =>
    appS lo H7 x8 s6 1 1 fun s8 H9 =>
    semigroupref15_Classes_2 k x2 x3 x4 x5 x7 s8 x32 x33 x34 x38 x39 (W (x40 + 1)) lo H9 κ
  else
  asP (.ptr x3) fun p10 => 
  ldc H ⟨p10.b, p10.o + 4⟩ fun u11 => asS u11 fun v12 =>
  mkb H [(.sl x8)] 1 1 fun s13 H14 =>
  appS lo H14 v12 s13 1 24 fun s15 H16 =>
  asP (.ptr x3) fun p17 => 
  stc lo H16 ⟨p17.b, p17.o + 4⟩ (.sl s15) fun H18 =>
  semigroupref15_Classes_1 k x2 x3 x4 x5 x32 x33 (W (x34 + 1)) lo H18 κ := by kernel_rfl
theorem semigroupref15_Minimal_eq {ρ : Type} (k : Nat) {x0_0 : Sl} {x0_1 : Sl} {x0_2 : Sl} {x0_3 : Sl} {x0_4 : Sl} {x1 : Int} {lo : Nat} {H : AH} {κ : Bool → AH → Option ρ} : semigroupref15_Minimal (k + 1) x0_0 x0_1 x0_2 x0_3 x0_4 x1 lo H κ =
  alc H [(.sl x0_0), (.sl x0_1), (.sl x0_2), (.sl x0_3), (.sl x0_4)] fun p1 H2 =>
  ldc H2 ⟨p1.b, p1.o + 4⟩ fun u3 => asS u3 fun v4 =>
  semigroupref15_Minimal_1 k x1 (some p1) (v4.len : Int) 0 lo H2 κ := by kernel_rfl
theorem semigroupref15_Minimal_1_eq {ρ : Type} (k : Nat) {x1 : Int} {x2 : Option Pt} {x8 : Int} {x9 : Int} {lo : Nat} {H : AH} {κ : Bool → AH → Option ρ} : semigroupref15_Minimal_1 (k + 1) x1 x2 x8 x9 lo H κ =
  bif decide (x9 < x8) then
    andB (!decide (x9 = x1)) (fun _ κ' => asP (.ptr x2) fun p1 => 
      ldc H ⟨p1.b, p1.o + 4⟩ fun u2 => asS u2 fun v3 =>
      rdS H v3 x9 fun v4 =>
      rdB H v4 x1 fun v5 =>
      κ' v5 H) H fun b6 H7 =>
    bif b6 then
      κ false H7
    else
    semigroupref15_Minimal_1 k x1 x2 x8 (W (x9 + 1)) lo H7 κ
  else
  κ true H := by kernel_rfl
theorem semigroupref17_class_eq {ρ : Type} (k : Nat) {x0 : Sl} {x1 : Int} {lo : Nat} {H : AH} {κ : (Sl × Bool × Int) → AH → Option ρ} : semigroupref17_class (k + 1) x0 x1 lo H κ =
  semigroupref14_Validate k x0 H.length H fun v1 H2 =>
  bif !decide (v1 = 0) then
    κ (⟨none, 0⟩, false, v1) H2
  else
  semigroupref15_Classes k x0 H2.length H2 fun r3 H4 =>
  alc H4 [(.sl ⟨none, 0⟩), (.sl ⟨none, 0⟩), (.sl ⟨none, 0⟩), (.sl ⟨none, 0⟩), (.sl ⟨none, 0⟩)] fun p5 H6 =>
  stn lo H6 p5 [(.sl r3.1), (.sl r3.2.1), (.sl r3.2.2.1), (.sl r3.2.2.2.1), (.sl r3.2.2.2.2)] fun H7 =>
  orB (decide (x1 < 0)) (fun _ κ' => ldc H7 ⟨p5.b, p5.o + 4⟩ fun u8 => asS u8 fun v9 =>
    κ' (decide (x1 ≥ (v9.len : Int))) H7) H7 fun b10 H11 =>
  bif b10 then
    κ (⟨none, 0⟩, false, 1) H11
  else
  ldc H11 ⟨p5.b, p5.o + 2⟩ fun u12 => asS u12 fun v13 =>
  semigroupref03_Classes k v13 H11.length H11 fun v14 H15 =>
  rdS H15 v14 x1 fun v16 =>
  ldA_sssss H15 p5 fun v17 v18 v19 v20 v21 =>
  semigroupref15_Minimal k v17 v18 v19 v20 v21 x1 H15.length H15 fun v22 H23 =>
  κ (v16, v22, 0) H23 := by kernel_rfl
theorem semigroupref14_Valid_eq {ρ : Type} (k : Nat) {x0 : Sl} {lo : Nat} {H : AH} {κ : Bool → AH → Option ρ} : semigroupref14_Valid (k + 1) x0 lo H κ =
  semigroupref14_Validate k x0 H.length H fun v1 H2 =>
  κ (decide (v1 = 0)) H2 := by kernel_rfl
theorem semigroupref14_Identity_eq {ρ : Type} (k : Nat) {x0 : Sl} {lo : Nat} {H : AH} {κ : Int → AH → Option ρ} : semigroupref14_Identity (k + 1) x0 lo H κ =
  semigroupref14_Identity_1 k x0 (x0.len : Int) 0 lo H κ := by kernel_rfl
theorem semigroupref14_Identity_1_eq {ρ : Type} (k : Nat) {x0 : Sl} {x7 : Int} {x8 : Int} {lo : Nat} {H : AH} {κ : Int → AH → Option ρ} : semigroupref14_Identity_1 (k + 1) x0 x7 x8 lo H κ =
  bif decide (x8 < x7) then
    semigroupref14_Identity_2 k x0 x8 true x7 x8 (x0.len : Int) 0 lo H κ
  else
  κ (-1) H := by kernel_rfl
theorem semigroupref14_Identity_2_eq {ρ : Type} (k : Nat) {x0 : Sl} {x3 : Int} {x4 : Bool} {x7 : Int} {x8 : Int} {x12 : Int} {x13 : Int} {lo : Nat} {H : AH} {κ : Int → AH → Option ρ} : semigroupref14_Identity_2 (k + 1) x0 x3 x4 x7 x8 x12 x13 lo H κ =
  bif decide (x13 < x12) then
    andB x4 (fun _ κ' => rdS H x0 x3 fun v1 =>
      rdI H v1 x13 fun v2 =>
      κ' (decide (v2 = x13)) H) H fun b3 H4 =>
    andB b3 (fun _ κ' => rdS H4 x0 x13 fun v5 =>
      rdI H4 v5 x3 fun v6 =>
      κ' (decide (v6 = x13)) H4) H4 fun b7 H8 =>
    semigroupref14_Identity_2 k x0 x3 b7 x7 x8 x12 (W (x13 + 1)) lo H8 κ
  else
  bif x4 then
    κ x3 H
  else
  semigroupref14_Identity_1 k x0 x7 (W (x8 + 1)) lo H κ := by kernel_rfl
theorem semigroupref16_Inverse_eq {ρ : Type} (k : Nat) {x0 : Sl} {x1 : Int} {lo : Nat} {H : AH} {κ : Int → AH → Option ρ} : semigroupref16_Inverse (k + 1) x0 x1 lo H κ =
  semigroupref14_Identity k x0 H.length H fun v1 H2 =>
  semigroupref16_Inverse_1 k x0 x1 v1 (x0.len : Int) 0 lo H2 κ := by kernel_rfl
theorem semigroupref16_Inverse_1_eq {ρ : Type} (k : Nat) {x0 : Sl} {x1 : Int} {x5 : Int} {x10 : Int} {x11 : Int} {lo : Nat} {H : AH} {κ : Int → AH → Option ρ} : semigroupref16_Inverse_1 (k + 1) x0 x1 x5 x10 x11 lo H κ =
  bif decide (x11 < x10) then
    rdS H x0 x1 fun v1 =>
    rdI H v1 x11 fun v2 =>
    andB (decide (v2 = x5)) (fun _ κ' => rdS H x0 x11 fun v3 =>
      rdI H v3 x1 fun v4 =>
      κ' (decide (v4 = x5)) H) H fun b5 H6 =>
    bif b5 then
      κ x11 H6
    else
    semigroupref16_Inverse_1 k x0 x1 x5 x10 (W (x11 + 1)) lo H6 κ
  else
  κ (-1) H := by kernel_rfl
theorem semigroupref16_IsGroup_eq {ρ : Type} (k : Nat) {x0 : Sl} {lo : Nat} {H : AH} {κ : Bool → AH → Option ρ} : semigroupref16_IsGroup (k + 1) x0 lo H κ =
  semigroupref14_Valid k x0 H.length H fun v1 H2 =>
  orB (!v1) (fun _ κ' => semigroupref14_Identity k x0 H2.length H2 fun v3 H4 =>
    κ' (decide (v3 < 0)) H4) H2 fun b5 H6 =>
  bif b5 then
    κ false H6
  else
  semigroupref16_IsGroup_1 k x0 (x0.len : Int) 0 lo H6 κ := by kernel_rfl
theorem semigroupref16_IsGroup_1_eq {ρ : Type} (k : Nat) {x0 : Sl} {x13 : Int} {x14 : Int} {lo : Nat} {H : AH} {κ : Bool → AH → Option ρ} : semigroupref16_IsGroup_1 (k + 1) x0 x13 x14 lo H κ =
  bif decide (x14 < x13) then
    semigroupref16_Inverse k x0 x14 H.length H fun v1 H2 =>
    bif decide (v1 < 0) then
      κ false H2
    else
    semigroupref16_IsGroup_1 k x0 x13 (W (x14 + 1)) lo H2 κ
  else
  κ true H := by kernel_rfl
theorem semigroupref17_Validate_eq {ρ : Type} (k : Nat) {x0_0 : Sl} {x0_1 : Int} {x0_2 : Int} {x0_3 : Sl} {x0_4 : Bool} {lo : Nat} {H : AH} {κ : Int → AH → Option ρ} : semigroupref17_Validate (k + 1) x0_0 x0_1 x0_2 x0_3 x0_4 lo H κ =
  alc H [(.sl x0_0), (.int .i64 x0_1), (.int .i64 x0_2), (.sl x0_3), (.bool x0_4)] fun p1 H2 =>
  ldc H2 ⟨p1.b, p1.o + 0⟩ fun u3 => asS u3 fun v4 =>
  semigroupref16_IsGroup k v4 H2.length H2 fun v5 H6 =>
  orB (!v5) (fun _ κ' => ldc H6 ⟨p1.b, p1.o + 1⟩ fun u7 => asI .i64 u7 fun v8 =>
    κ' (decide (v8 < 1)) H6) H6 fun b9 H10 =>
  orB b9 (fun _ κ' => ldc H10 ⟨p1.b, p1.o + 2⟩ fun u11 => asI .i64 u11 fun v12 =>
    κ' (decide (v12 < 1)) H10) H10 fun b13 H14 =>
  orB b13 (fun _ κ' => ldc H14 ⟨p1.b, p1.o + 3⟩ fun u15 => asS u15 fun v16 =>
    ldc H14 ⟨p1.b, p1.o + 2⟩ fun u17 => asI .i64 u17 fun v18 =>
    κ' (!decide ((v16.len : Int) = v18)) H14) H14 fun b19 H20 =>
  bif b19 then
    κ 4 H20
  else
  ldc H20 ⟨p1.b, p1.o + 3⟩ fun u21 => asS u21 fun v22 =>
  semigroupref17_Validate_1 k (some p1) v22 (v22.len : Int) 0 lo H20 κ := by kernel_rfl
theorem semigroupref17_Validate_1_eq {ρ : Type} (k : Nat) {x1 : Option Pt} {x31 : Sl} {x32 : Int} {x33 : Int} {lo : Nat} {H : AH} {κ : Int → AH → Option ρ} : semigroupref17_Validate_1 (k + 1) x1 x31 x32 x33 lo H κ =
  bif decide (x33 < x32) then
    rdS H x31 x33 fun v1 =>
    asP (.ptr x1) fun p2 => 
    ldc H ⟨p2.b, p2.o + 1⟩ fun u3 => asI .i64 u3 fun v4 =>
    bif !decide ((v1.len : Int) = v4) then
      κ 4 H
    else
    semigroupref17_Validate_2 k x1 x31 x32 x33 v1 (v1.len : Int) 0 lo H κ
  else
  asP (.ptr x1) fun p5 => 
  ldc H ⟨p5.b, p5.o + 4⟩ fun u6 => asB u6 fun v7 =>
  bif v7 then
    semigroupref17_Validate_3 k x1 (W (400 - 1)) lo H κ
  else
  semigroupref17_Validate_3 k x1 400 lo H κ := by kernel_rfl
theorem semigroupref17_Validate_2_eq {ρ : Type} (k : Nat) {x1 : Option Pt} {x31 : Sl} {x32 : Int} {x33 : Int} {x42 : Sl} {x43 : Int} {x44 : Int} {lo : Nat} {H : AH} {κ : Int → AH → Option ρ} : semigroupref17_Validate_2 (k + 1) x1 x31 x32 x33 x42 x43 x44 lo H κ =
  bif decide (x44 < x43) then
    rdI H x42 x44 fun v1 =>
    orB (decide (v1 < (-1))) (fun _ κ' => asP (.ptr x1) fun p2 => 
      ldc H ⟨p2.b, p2.o + 0⟩ fun u3 => asS u3 fun v4 =>
      κ' (decide (v1 ≥ (v4.len : Int))) H) H fun b5 H6 =>
    orB b5 (fun _ κ' => andB (decide (v1 < 0)) (fun _ κ' => asP (.ptr x1) fun p7 => 
        ldc H6 ⟨p7.b, p7.o + 4⟩ fun u8 => asB u8 fun v9 =>
        κ' (!v9) H6) H6 fun b10 H11 =>
      κ' b10 H11) H6 fun b12 H13 =>
    bif b12 then
      κ 4 H13
    else
    semigroupref17_Validate_2 k x1 x31 x32 x33 x42 x43 (W (x44 + 1)) lo H13 κ
  else
  semigroupref17_Validate_1 k x1 x31 x32 (W (x33 + 1)) lo H κ := by kernel_rfl
theorem semigroupref17_Validate_3_eq {ρ : Type} (k : Nat) {x1 : Option Pt} {x7 : Int} {lo : Nat} {H : AH} {κ : Int → AH → Option ρ} : semigroupref17_Validate_3 (k + 1) x1 x7 lo H κ =
  asP (.ptr x1) fun p1 => 
  ldc H ⟨p1.b, p1.o + 1⟩ fun u2 => asI .i64 u2 fun v3 =>
  asP (.ptr x1) fun p4 => 
  ldc H ⟨p4.b, p4.o + 0⟩ fun u5 => asS u5 fun v6 =>
  bif decide ((v6.len : Int) = 0) then none else
  orB (decide (v3 > (W (Int.tdiv x7 (v6.len : Int))))) (fun _ κ' => asP (.ptr x1) fun p7 => 
    ldc H ⟨p7.b, p7.o + 1⟩ fun u8 => asI .i64 u8 fun v9 =>
    asP (.ptr x1) fun p10 => 
    ldc H ⟨p10.b, p10.o + 0⟩ fun u11 => asS u11 fun v12 =>
    asP (.ptr x1) fun p13 => 
    ldc H ⟨p13.b, p13.o + 2⟩ fun u14 => asI .i64 u14 fun v15 =>
    bif decide (v15 = 0) then none else
    κ' (decide ((W (v9 * (v12.len : Int))) > (W (Int.tdiv x7 v15)))) H) H fun b16 H17 =>
  bif b16 then
    κ 3 H17
  else
  κ 0 H17 := by kernel_rfl
theorem semigroupref17_base_eq {ρ : Type} (k : Nat) {x0_0 : Sl} {x0_1 : Int} {x0_2 : Int} {x0_3 : Sl} {x0_4 : Bool} {lo : Nat} {H : AH} {κ : Int → AH → Option ρ} : semigroupref17_base (k + 1) x0_0 x0_1 x0_2 x0_3 x0_4 lo H κ =
  alc H [(.sl x0_0), (.int .i64 x0_1), (.int .i64 x0_2), (.sl x0_3), (.bool x0_4)] fun p1 H2 =>
  ldc H2 ⟨p1.b, p1.o + 4⟩ fun u3 => asB u3 fun v4 =>
  bif v4 then
    κ 1 H2
  else
  κ 0 H2 := by kernel_rfl
theorem semigroupref17_Size_eq {ρ : Type} (k : Nat) {x0_0 : Sl} {x0_1 : Int} {x0_2 : Int} {x0_3 : Sl} {x0_4 : Bool} {lo : Nat} {H : AH} {κ : Int → AH → Option ρ} : semigroupref17_Size (k + 1) x0_0 x0_1 x0_2 x0_3 x0_4 lo H κ =
  alc H [(.sl x0_0), (.int .i64 x0_1), (.int .i64 x0_2), (.sl x0_3), (.bool x0_4)] fun p1 H2 =>
  ldc H2 ⟨p1.b, p1.o + 1⟩ fun u3 => asI .i64 u3 fun v4 =>
  ldc H2 ⟨p1.b, p1.o + 0⟩ fun u5 => asS u5 fun v6 =>
  ldc H2 ⟨p1.b, p1.o + 2⟩ fun u7 => asI .i64 u7 fun v8 =>
  ldA_siisb H2 p1 fun v9 v10 v11 v12 v13 =>
  semigroupref17_base k v9 v10 v11 v12 v13 H2.length H2 fun v14 H15 =>
  κ (W ((W ((W (v4 * (v6.len : Int))) * v8)) + v14)) H15 := by kernel_rfl
theorem semigroupref03_Set_eq {ρ : Type} (k : Nat) {x0 : Sl} {x1 : Int} {lo : Nat} {H : AH} {κ : Sl → AH → Option ρ} : semigroupref03_Set (k + 1) x0 x1 lo H κ =
  mks H [(.bool false)] 1 x1 x1 fun s1 H2 =>
  semigroupref03_Set_1 k x1 s1 x0 (x0.len : Int) 0 lo H2 κ := by kernel_rfl
theorem semigroupref03_Set_1_eq {ρ : Type} (k : Nat) {x1 : Int} {x5 : Sl} {x10 : Sl} {x11 : Int} {x12 : Int} {lo : Nat} {H : AH} {κ : Sl → AH → Option ρ} : semigroupref03_Set_1 (k + 1) x1 x5 x10 x11 x12 lo H κ =
  bif decide (x12 < x11) then
    rdI H x10 x12 fun v1 =>
    andB (decide (v1 ≥ 0)) (fun _ κ' => κ' (decide (v1 < x1)) H) H fun b2 H3 =>
    bif b2 then
      idx x5 v1 1 fun p4 =>
      stc lo H3 p4 (.bool true) fun H5 =>
      semigroupref03_Set_2 k x1 x5 x10 x11 x12 lo H5 κ
    else
    semigroupref03_Set_2 k x1 x5 x10 x11 x12 lo H3 κ
  else
  κ x5 H := by kernel_rfl
theorem semigroupref03_Set_2_eq {ρ : Type} (k : Nat) {x1 : Int} {x5 : Sl} {x10 : Sl} {x11 : Int} {x12 : Int} {lo : Nat} {H : AH} {κ : Sl → AH → Option ρ} : semigroupref03_Set_2 (k + 1) x1 x5 x10 x11 x12 lo H κ =
  semigroupref03_Set_1 k x1 x5 x10 x11 (W (x12 + 1)) lo H κ := by kernel_rfl
theorem semigroupref17_Number_eq {ρ : Type} (k : Nat) {x0_0 : Sl} {x0_1 : Int} {x0_2 : Int} {x0_3 : Sl} {x0_4 : Bool} {x1 : Int} {x2 : Int} {x3 : Int} {lo : Nat} {H : AH} {κ : Int → AH → Option ρ} : semigroupref17_Number (k + 1) x0_0 x0_1 x0_2 x0_3 x0_4 x1 x2 x3 lo H κ =
  alc H [(.sl x0_0), (.int .i64 x0_1), (.int .i64 x0_2), (.sl x0_3), (.bool x0_4)] fun p1 H2 =>
  orB (decide (x1 < 0)) (fun _ κ' => ldc H2 ⟨p1.b, p1.o + 1⟩ fun u3 => asI .i64 u3 fun v4 =>
    κ' (decide (x1 ≥ v4)) H2) H2 fun b5 H6 =>
  orB b5 (fun _ κ' => κ' (decide (x2 < 0)) H6) H6 fun b7 H8 =>
  orB b7 (fun _ κ' => ldc H8 ⟨p1.b, p1.o + 0⟩ fun u9 => asS u9 fun v10 =>
    κ' (decide (x2 ≥ (v10.len : Int))) H8) H8 fun b11 H12 =>
  orB b11 (fun _ κ' => κ' (decide (x3 < 0)) H12) H12 fun b13 H14 =>
  orB b13 (fun _ κ' => ldc H14 ⟨p1.b, p1.o + 2⟩ fun u15 => asI .i64 u15 fun v16 =>
    κ' (decide (x3 ≥ v16)) H14) H14 fun b17 H18 =>
  bif b17 then
    κ (-1) H18
  else
  ldc H18 ⟨p1.b, p1.o + 0⟩ fun u19 => asS u19 fun v20 =>
  ldc H18 ⟨p1.b, p1.o + 2⟩ fun u21 => asI .i64 u21 fun v22 =>
  ldA_siisb H18 p1 fun v23 v24 v25 v26 v27 =>
  semigroupref17_base k v23 v24 v25 v26 v27 H18.length H18 fun v28 H29 =>
  κ (W ((W ((W ((W ((W (x1 * (v20.len : Int))) + x2)) * v22)) + x3)) + v28)) H29 := by kernel_rfl
theorem semigroupref17_Mul_eq {ρ : Type} (k : Nat) {x0_0 : Sl} {x0_1 : Int} {x0_2 : Int} {x0_3 : Sl} {x0_4 : Bool} {x1 : Int} {x2 : Int} {lo : Nat} {H : AH} {κ : Int → AH → Option ρ} : semigroupref17_Mul (k + 1) x0_0 x0_1 x0_2 x0_3 x0_4 x1 x2 lo H κ =
  alc H [(.sl x0_0), (.int .i64 x0_1), (.int .i64 x0_2), (.sl x0_3), (.bool x0_4)] fun p1 H2 =>
  orB (decide (x1 < 0)) (fun _ κ' => ldA_siisb H2 p1 fun v3 v4 v5 v6 v7 =>
    semigroupref17_Size k v3 v4 v5 v6 v7 H2.length H2 fun v8 H9 =>
    κ' (decide (x1 ≥ v8)) H9) H2 fun b10 H11 =>
  orB b10 (fun _ κ' => κ' (decide (x2 < 0)) H11) H11 fun b12 H13 =>
  orB b12 (fun _ κ' => ldA_siisb H13 p1 fun v14 v15 v16 v17 v18 =>
    semigroupref17_Size k v14 v15 v16 v17 v18 H13.length H13 fun v19 H20 =>
    κ' (decide (x2 ≥ v19)) H20) H13 fun b21 H22 =>
  bif b21 then
    κ (-1) H22
  else
  ldA_siisb H22 p1 fun v23 v24 v25 v26 v27 =>
  semigroupref17_base k v23 v24 v25 v26 v27 H22.length H22 fun v28 H29 =>
  ldA_siisb H29 p1 fun v30 v31 v32 v33 v34 =>
  semigroupref17_base k v30 v31 v32 v33 v34 H29.length H29 fun v35 H36 =>
  orB (decide ((W (x1 - v28)) < 0)) (fun _ κ' => κ' (decide ((W (x2 - v35)) < 0)) H36) H36 fun b37 H38 =>
  bif b37 then
    κ 0 H38
  else
  ldc H38 ⟨p1.b, p1.o + 0⟩ fun u39 => asS u39 fun v40 =>
  ldc H38 ⟨p1.b, p1.o + 3⟩ fun u41 => asS u41 fun v42 =>
  ldc H38 ⟨p1.b, p1.o + 2⟩ fun u43 => asI .i64 u43 fun v44 =>
  bif decide (v44 = 0) then none else
  rdS H38 v42 (Int.tmod (W (x1 - v28)) v44) fun v45 =>
  ldc H38 ⟨p1.b, p1.o + 2⟩ fun u46 => asI .i64 u46 fun v47 =>
  bif decide (v47 = 0) then none else
  bif decide ((v40.len : Int) = 0) then none else
  rdI H38 v45 (W (Int.tdiv (W (Int.tdiv (W (x2 - v35)) v47)) (v40.len : Int))) fun v48 =>
  bif decide (v48 < 0) then
    κ 0 H38
  else
  ldc H38 ⟨p1.b, p1.o + 0⟩ fun u49 => asS u49 fun v50 =>
  ldc H38 ⟨p1.b, p1.o + 0⟩ fun u51 => asS u51 fun v52 =>
  ldc H38 ⟨p1.b, p1.o + 2⟩ fun u53 => asI .i64 u53 fun v54 =>
  bif decide (v54 = 0) then none else
  bif decide ((v40.len : Int) = 0) then none else
  rdS H38 v52 (Int.tmod (W (Int.tdiv (W (x1 - v28)) v54)) (v40.len : Int)) fun v55 =>
  rdI H38 v55 v48 fun v56 =>
  rdS H38 v50 v56 fun v57 =>
  ldc H38 ⟨p1.b, p1.o + 2⟩ fun u58 => asI .i64 u58 fun v59 =>
  bif decide (v59 = 0) then none else
  bif decide ((v40.len : Int) = 0) then none else
  rdI H38 v57 (Int.tmod (W (Int.tdiv (W (x2 - v35)) v59)) (v40.len : Int)) fun v60 =>
  ldA_siisb H38 p1 fun v61 v62 v63 v64 v65 =>
  ldc H38 ⟨p1.b, p1.o + 2⟩ fun u66 => asI .i64 u66 fun v67 =>
  bif decide (v67 = 0) then none else
  bif decide ((v40.len : Int) = 0) then none else
  ldc H38 ⟨p1.b, p1.o + 2⟩ fun u68 => asI .i64 u68 fun v69 =>
  bif decide (v69 = 0) then none else
  semigroupref17_Number k v61 v62 v63 v64 v65 (W (Int.tdiv (W (Int.tdiv (W (x1 - v28)) v67)) (v40.len : Int))) v60 (Int.tmod (W (x2 - v35)) v69) H38.length H38 fun v70 H71 =>
  κ v70 H71 := by kernel_rfl
theorem semigroupref17_Check_eq {ρ : Type} (k : Nat) {x0 : Sl} {x1 : Int} {x2_0 : Sl} {x2_1 : Int} {x2_2 : Int} {x2_3 : Sl} {x2_4 : Bool} {x3 : Sl} {lo : Nat} {H : AH} {κ : Bool → AH → Option ρ} : semigroupref17_Check (k + 1) x0 x1 x2_0 x2_1 x2_2 x2_3 x2_4 x3 lo H κ =
  alc H [(.sl x2_0), (.int .i64 x2_1), (.int .i64 x2_2), (.sl x2_3), (.bool x2_4)] fun p1 H2 =>
  semigroupref17_class k x0 x1 H2.length H2 fun r3 H4 =>
  orB (!decide (r3.2.2 = 0)) (fun _ κ' => ldA_siisb H4 p1 fun v5 v6 v7 v8 v9 =>
    semigroupref17_Validate k v5 v6 v7 v8 v9 H4.length H4 fun v10 H11 =>
    κ' (!decide (v10 = 0)) H11) H4 fun b12 H13 =>
  orB b12 (fun _ κ' => ldc H13 ⟨p1.b, p1.o + 4⟩ fun u14 => asB u14 fun v15 =>
    κ' (v15 == r3.2.1) H13) H13 fun b16 H17 =>
  orB b16 (fun _ κ' => κ' (!decide ((x3.len : Int) = (x0.len : Int))) H17) H17 fun b18 H19 =>
  orB b18 (fun _ κ' => ldA_siisb H19 p1 fun v20 v21 v22 v23 v24 =>
    semigroupref17_Size k v20 v21 v22 v23 v24 H19.length H19 fun v25 H26 =>
    ldA_siisb H26 p1 fun v27 v28 v29 v30 v31 =>
    semigroupref17_base k v27 v28 v29 v30 v31 H26.length H26 fun v32 H33 =>
    κ' (!decide ((r3.1.len : Int) = (W (v25 - v32)))) H33) H19 fun b34 H35 =>
  bif b34 then
    κ false H35
  else
  semigroupref03_Set k r3.1 (x0.len : Int) H35.length H35 fun v36 H37 =>
  ldA_siisb H37 p1 fun v38 v39 v40 v41 v42 =>
  semigroupref17_Size k v38 v39 v40 v41 v42 H37.length H37 fun v43 H44 =>
  mks H44 [(.bool false)] 1 v43 v43 fun s45 H46 =>
  semigroupref17_Check_1 k x0 x3 (some p1) r3.1 v36 s45 (x0.len : Int) 0 lo H46 κ := by kernel_rfl
theorem semigroupref17_Check_1_eq {ρ : Type} (k : Nat) {x0 : Sl} {x3 : Sl} {x6 : Option Pt} {x9 : Sl} {x12 : Sl} {x13 : Sl} {x65 : Int} {x66 : Int} {lo : Nat} {H : AH} {κ : Bool → AH → Option ρ} : semigroupref17_Check_1 (k + 1) x0 x3 x6 x9 x12 x13 x65 x66 lo H κ =
  bif decide (x66 < x65) then
    rdB H x12 x66 fun v1 =>
    bif !v1 then
      rdI H x3 x66 fun v2 =>
      bif !decide (v2 = (-1)) then
        κ false H
      else
      semigroupref17_Check_2 k x0 x3 x6 x9 x12 x13 x65 x66 lo H κ
    else
    rdI H x3 x66 fun v3 =>
    asP (.ptr x6) fun p4 => ldA_siisb H p4 fun v5 v6 v7 v8 v9 =>
    semigroupref17_base k v5 v6 v7 v8 v9 H.length H fun v10 H11 =>
    orB (decide (v3 < v10)) (fun _ κ' => rdI H11 x3 x66 fun v12 =>
      asP (.ptr x6) fun p13 => ldA_siisb H11 p13 fun v14 v15 v16 v17 v18 =>
      semigroupref17_Size k v14 v15 v16 v17 v18 H11.length H11 fun v19 H20 =>
      κ' (decide (v12 ≥ v19)) H20) H11 fun b21 H22 =>
    orB b21 (fun _ κ' => rdI H22 x3 x66 fun v23 =>
      rdB H22 x13 v23 fun v24 =>
      κ' v24 H22) H22 fun b25 H26 =>
    bif b25 then
      κ false H26
    else
    rdI H26 x3 x66 fun v27 =>
    idx x13 v27 1 fun p28 =>
    stc lo H26 p28 (.bool true) fun H29 =>
    semigroupref17_Check_2 k x0 x3 x6 x9 x12 x13 x65 x66 lo H29 κ
  else
  semigroupref17_Check_3 k x0 x3 x6 x9 x12 x9 (x9.len : Int) 0 lo H κ := by kernel_rfl
theorem semigroupref17_Check_2_eq {ρ : Type} (k : Nat) {x0 : Sl} {x3 : Sl} {x6 : Option Pt} {x9 : Sl} {x12 : Sl} {x13 : Sl} {x65 : Int} {x66 : Int} {lo : Nat} {H : AH} {κ : Bool → AH → Option ρ} : semigroupref17_Check_2 (k + 1) x0 x3 x6 x9 x12 x13 x65 x66 lo H κ =
  semigroupref17_Check_1 k x0 x3 x6 x9 x12 x13 x65 (W (x66 + 1)) lo H κ := by kernel_rfl
theorem semigroupref17_Check_3_eq {ρ : Type} (k : Nat) {x0 : Sl} {x3 : Sl} {x6 : Option Pt} {x9 : Sl} {x12 : Sl} {x111 : Sl} {x112 : Int} {x113 : Int} {lo : Nat} {H : AH} {κ : Bool → AH → Option ρ} : semigroupref17_Check_3 (k + 1) x0 x3 x6 x9 x12 x111 x112 x113 lo H κ =
  bif decide (x113 < x112) then
    rdI H x111 x113 fun v1 =>
    semigroupref17_Check_4 k x0 x3 x6 x9 x12 v1 x111 x112 x113 x9 (x9.len : Int) 0 lo H κ
  else
  κ true H := by kernel_rfl
theorem semigroupref17_Check_4_eq {ρ : Type} (k : Nat) {x0 : Sl} {x3 : Sl} {x6 : Option Pt} {x9 : Sl} {x12 : Sl} {x16 : Int} {x111 : Sl} {x112 : Int} {x113 : Int} {x117 : Sl} {x118 : Int} {x119 : Int} {lo : Nat} {H : AH} {κ : Bool → AH → Option ρ} : semigroupref17_Check_4 (k + 1) x0 x3 x6 x9 x12 x16 x111 x112 x113 x117 x118 x119 lo H κ =
  bif decide (x119 < x118) then
    rdI H x117 x119 fun v1 =>
    asP (.ptr x6) fun p2 => ldA_siisb H p2 fun v3 v4 v5 v6 v7 =>
    rdI H x3 x16 fun v8 =>
    rdI H x3 v1 fun v9 =>
    semigroupref17_Mul k v3 v4 v5 v6 v7 v8 v9 H.length H fun v10 H11 =>
    rdS H11 x0 x16 fun v12 =>
    rdI H11 v12 v1 fun v13 =>
    rdB H11 x12 v13 fun v14 =>
    andB v14 (fun _ κ' => rdS H11 x0 x16 fun v15 =>
      rdI H11 v15 v1 fun v16 =>
      rdI H11 x3 v16 fun v17 =>
      κ' (!decide (v10 = v17)) H11) H11 fun b18 H19 =>
    orB b18 (fun _ κ' => rdS H19 x0 x16 fun v20 =>
      rdI H19 v20 v1 fun v21 =>
      rdB H19 x12 v21 fun v22 =>
      andB (!v22) (fun _ κ' => orB (!decide (v10 = 0)) (fun _ κ' => asP (.ptr x6) fun p23 => 
          ldc H19 ⟨p23.b, p23.o + 4⟩ fun u24 => asB u24 fun v25 =>
          κ' (!v25) H19) H19 fun b26 H27 =>
        κ' b26 H27) H19 fun b28 H29 =>
      κ' b28 H29) H19 fun b30 H31 =>
    bif b30 then
      κ false H31
    else
    semigroupref17_Check_4 k x0 x3 x6 x9 x12 x16 x111 x112 x113 x117 x118 (W (x119 + 1)) lo H31 κ
  else
  semigroupref17_Check_3 k x0 x3 x6 x9 x12 x111 x112 (W (x113 + 1)) lo H κ := by kernel_rfl
theorem semigrouplaw17_ReesChecks_eq {ρ : Type} (k : Nat) {x0 : Sl} {x1 : Int} {x2_0 : Sl} {x2_1 : Int} {x2_2 : Int} {x2_3 : Sl} {x2_4 : Bool} {x3 : Sl} {lo : Nat} {H : AH} {κ : Bool → AH → Option ρ} : semigrouplaw17_ReesChecks (k + 1) x0 x1 x2_0 x2_1 x2_2 x2_3 x2_4 x3 lo H κ =
  alc H [(.sl x2_0), (.int .i64 x2_1), (.int .i64 x2_2), (.sl x2_3), (.bool x2_4)] fun p1 H2 =>
  semigrouplaw17_large k x0 16 H2.length H2 fun v3 H4 =>
  orB v3 (fun _ κ' => ldc H4 ⟨p1.b, p1.o + 0⟩ fun u5 => asS u5 fun v6 =>
    semigrouplaw17_large k v6 8 H4.length H4 fun v7 H8 =>
    κ' v7 H8) H4 fun b9 H10 =>
  bif b9 then
    semigrouplaw17_awake k  H10.length H10 fun v11 H12 =>
    κ v11 H12
  else
  ldA_siisb H10 p1 fun v13 v14 v15 v16 v17 =>
  rees_Check k x0 x1 v13 v14 v15 v16 v17 x3 H10.length H10 fun v18 H19 =>
  ldA_siisb H19 p1 fun v20 v21 v22 v23 v24 =>
  semigroupref17_Check k x0 x1 v20 v21 v22 v23 v24 x3 H19.length H19 fun v25 H26 =>
  andB (v18 == v25) (fun _ κ' => semigrouplaw17_awake k  H26.length H26 fun v27 H28 =>
    κ' v27 H28) H26 fun b29 H30 =>
  κ b29 H30 := by kernel_rfl
end Go.Ab
