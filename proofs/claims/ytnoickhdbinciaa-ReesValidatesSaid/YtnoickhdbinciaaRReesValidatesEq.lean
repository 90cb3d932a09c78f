/- Each label's equation. Printed. -/
import Derived.Test.YtnoickhdbinciaaRReesValidatesIr
import Derived.Test.YtnoickhdbinciaaAbAS
import Derived.KernelRfl
set_option linter.unusedVariables false
namespace Go.Ab
theorem noid_ok : noidG G = true := by kernel_rfl
theorem semigrouplaw17_awake_true {H : AH} : Ev (fun _ k κ => semigrouplaw17_awake k H.length H κ) (fun v _ => v = true) := ev_awake (k := 400) noid_ok (by kernel_rfl) H
theorem semigroupref14_Shape_eq {ρ : Type} (k : Nat) {x0 : Sl} {lo : Nat} {H : AH} {κ : Int → AH → Option ρ} : semigroupref14_Shape (k + 1) x0 lo H κ =
  bif decide ((x0.len : Int) > 400) then
    κ 3 H
  else
  bif decide ((x0.len : Int) = 0) then
    κ 4 H
  else
  semigroupref14_Shape_1 k x0 x0 (x0.len : Int) 0 lo H κ := by kernel_rfl
theorem semigroupref14_Shape_1_eq {ρ : Type} (k : Nat) {x0 : Sl} {x13 : Sl} {x14 : Int} {x15 : Int} {lo : Nat} {H : AH} {κ : Int → AH → Option ρ} : semigroupref14_Shape_1 (k + 1) x0 x13 x14 x15 lo H κ =
  bif decide (x15 < x14) then
    rdS H x13 x15 fun v1 =>
    bif !decide ((v1.len : Int) = (x0.len : Int)) then
      κ 4 H
    else
    semigroupref14_Shape_2 k x0 x13 x14 x15 v1 (v1.len : Int) 0 lo H κ
  else
  κ 0 H := by kernel_rfl
theorem semigroupref14_Shape_2_eq {ρ : Type} (k : Nat) {x0 : Sl} {x13 : Sl} {x14 : Int} {x15 : Int} {x24 : Sl} {x25 : Int} {x26 : Int} {lo : Nat} {H : AH} {κ : Int → AH → Option ρ} : semigroupref14_Shape_2 (k + 1) x0 x13 x14 x15 x24 x25 x26 lo H κ =
  bif decide (x26 < x25) then
    rdI H x24 x26 fun v1 =>
    orB (decide (v1 < 0)) (fun _ κ' => κ' (decide (v1 ≥ (x0.len : Int))) H) H fun b2 H3 =>
    bif b2 then
      κ 4 H3
    else
    semigroupref14_Shape_2 k x0 x13 x14 x15 x24 x25 (W (x26 + 1)) lo H3 κ
  else
  semigroupref14_Shape_1 k x0 x13 x14 (W (x15 + 1)) lo H κ := by kernel_rfl
theorem semigrouplaw17_large_eq {ρ : Type} (k : Nat) {x0 : Sl} {x1 : Int} {lo : Nat} {H : AH} {κ : Bool → AH → Option ρ} : semigrouplaw17_large (k + 1) x0 x1 lo H κ =
  andB (decide ((x0.len : Int) > x1)) (fun _ κ' => semigroupref14_Shape k x0 H.length H fun v1 H2 =>
    κ' (decide (v1 = 0)) H2) H fun b3 H4 =>
  κ b3 H4 := by kernel_rfl
theorem semigrouplaw17_brandt_eq {ρ : Type} (k : Nat) {lo : Nat} {H : AH} {κ : (Sl × Int × Int × Sl × Bool) → AH → Option ρ} : semigrouplaw17_brandt (k + 1) lo H κ =
  alc H [(.sl ⟨none, 0⟩), (.int .i64 0), (.int .i64 0), (.sl ⟨none, 0⟩), (.bool false)] fun p1 H2 =>
  mkb H2 [(.int .i64 0)] 1 1 fun s3 H4 =>
  mkb H4 [(.sl s3)] 1 1 fun s5 H6 =>
  mkb H6 [(.int .i64 0), (.int .i64 (-1))] 1 2 fun s7 H8 =>
  mkb H8 [(.int .i64 (-1)), (.int .i64 0)] 1 2 fun s9 H10 =>
  mkb H10 [(.sl s7), (.sl s9)] 1 2 fun s11 H12 =>
  stn lo H12 p1 [(.sl s5), (.int .i64 2), (.int .i64 2), (.sl s11), (.bool true)] fun H13 =>
  ldA_siisb H13 p1 fun v14 v15 v16 v17 v18 => κ (v14, v15, v16, v17, v18) H13 := by kernel_rfl
theorem mult_shape_eq {ρ : Type} (k : Nat) {x0 : Sl} {lo : Nat} {H : AH} {κ : Int → AH → Option ρ} : mult_shape (k + 1) x0 lo H κ =
  bif decide ((x0.len : Int) > 400) then
    κ 3 H
  else
  bif decide ((x0.len : Int) = 0) then
    κ 4 H
  else
  mult_shape_1 k x0 x0 (x0.len : Int) 0 lo H κ := by kernel_rfl
theorem mult_shape_1_eq {ρ : Type} (k : Nat) {x0 : Sl} {x15 : Sl} {x16 : Int} {x17 : Int} {lo : Nat} {H : AH} {κ : Int → AH → Option ρ} : mult_shape_1 (k + 1) x0 x15 x16 x17 lo H κ =
  bif decide (x17 < x16) then
    rdS H x15 x17 fun v1 =>
    bif !decide ((v1.len : Int) = (x0.len : Int)) then
      κ 4 H
    else
    mult_shape_2 k x0 x15 x16 x17 v1 (v1.len : Int) 0 lo H κ
  else
  κ 0 H := by kernel_rfl
theorem mult_shape_2_eq {ρ : Type} (k : Nat) {x0 : Sl} {x15 : Sl} {x16 : Int} {x17 : Int} {x26 : Sl} {x27 : Int} {x28 : Int} {lo : Nat} {H : AH} {κ : Int → AH → Option ρ} : mult_shape_2 (k + 1) x0 x15 x16 x17 x26 x27 x28 lo H κ =
  bif decide (x28 < x27) then
    rdI H x26 x28 fun v1 =>
    orB (decide (v1 < 0)) (fun _ κ' => κ' (decide (v1 ≥ (x0.len : Int))) H) H fun b2 H3 =>
    bif b2 then
      κ 4 H3
    else
    mult_shape_2 k x0 x15 x16 x17 x26 x27 (W (x28 + 1)) lo H3 κ
  else
  mult_shape_1 k x0 x15 x16 (W (x17 + 1)) lo H κ := by kernel_rfl
theorem mult_failing_eq {ρ : Type} (k : Nat) {x0 : Sl} {lo : Nat} {H : AH} {κ : (Int × Int × Int × Bool) → AH → Option ρ} : mult_failing (k + 1) x0 lo H κ =
  mult_failing_1 k x0 (x0.len : Int) 0 lo H κ := by kernel_rfl
theorem mult_failing_1_eq {ρ : Type} (k : Nat) {x0 : Sl} {x10 : Int} {x11 : Int} {lo : Nat} {H : AH} {κ : (Int × Int × Int × Bool) → AH → Option ρ} : mult_failing_1 (k + 1) x0 x10 x11 lo H κ =
  bif decide (x11 < x10) then
    mult_failing_2 k x0 x11 x10 x11 (x0.len : Int) 0 lo H κ
  else
  κ (0, 0, 0, false) H := by kernel_rfl
theorem mult_failing_2_eq {ρ : Type} (k : Nat) {x0 : Sl} {x6 : Int} {x10 : Int} {x11 : Int} {x15 : Int} {x16 : Int} {lo : Nat} {H : AH} {κ : (Int × Int × Int × Bool) → AH → Option ρ} : mult_failing_2 (k + 1) x0 x6 x10 x11 x15 x16 lo H κ =
  bif decide (x16 < x15) then
    mult_failing_3 k x0 x6 x16 x10 x11 x15 x16 (x0.len : Int) 0 lo H κ
  else
  mult_failing_1 k x0 x10 (W (x11 + 1)) lo H κ := by kernel_rfl
theorem mult_failing_3_eq {ρ : Type} (k : Nat) {x0 : Sl} {x6 : Int} {x7 : Int} {x10 : Int} {x11 : Int} {x15 : Int} {x16 : Int} {x20 : Int} {x21 : Int} {lo : Nat} {H : AH} {κ : (Int × Int × Int × Bool) → AH → Option ρ} : mult_failing_3 (k + 1) x0 x6 x7 x10 x11 x15 x16 x20 x21 lo H κ =
  bif decide (x21 < x20) then
    rdS H x0 x6 fun v1 =>
    rdI H v1 x7 fun v2 =>
    rdS H x0 v2 fun v3 =>
    rdI H v3 x21 fun v4 =>
    rdS H x0 x6 fun v5 =>
    rdS H x0 x7 fun v6 =>
    rdI H v6 x21 fun v7 =>
    rdI H v5 v7 fun v8 =>
    bif !decide (v4 = v8) then
      κ (x6, x7, x21, true) H
    else
    mult_failing_3 k x0 x6 x7 x10 x11 x15 x16 x20 (W (x21 + 1)) lo H κ
  else
  mult_failing_2 k x0 x6 x10 x11 x15 (W (x16 + 1)) lo H κ := by kernel_rfl
theorem mult_Validate_eq {ρ : Type} (k : Nat) {x0 : Sl} {lo : Nat} {H : AH} {κ : Int → AH → Option ρ} : mult_Validate (k + 1) x0 lo H κ =
  mult_shape k x0 H.length H fun v1 H2 =>
  bif !decide (v1 = 0) then
    κ v1 H2
  else
  mult_failing k x0 H2.length H2 fun r3 H4 =>
  bif r3.2.2.2 then
    κ 5 H4
  else
  κ 0 H4 := by kernel_rfl
theorem group_inverses_eq {ρ : Type} (k : Nat) {x0 : Sl} {lo : Nat} {H : AH} {κ : (Int × Sl × Bool) → AH → Option ρ} : group_inverses (k + 1) x0 lo H κ =
  group_inverses_1 k x0 (-1) (x0.len : Int) 0 lo H κ := by kernel_rfl
theorem group_inverses_1_eq {ρ : Type} (k : Nat) {x0 : Sl} {x5 : Int} {x13 : Int} {x14 : Int} {lo : Nat} {H : AH} {κ : (Int × Sl × Bool) → AH → Option ρ} : group_inverses_1 (k + 1) x0 x5 x13 x14 lo H κ =
  bif decide (x14 < x13) then
    group_inverses_2 k x0 x5 x14 true x13 x14 (x0.len : Int) 0 lo H κ
  else
  group_inverses_3 k x0 x5 lo H κ := by kernel_rfl
theorem group_inverses_2_eq {ρ : Type} (k : Nat) {x0 : Sl} {x5 : Int} {x6 : Int} {x7 : Bool} {x13 : Int} {x14 : Int} {x18 : Int} {x19 : Int} {lo : Nat} {H : AH} {κ : (Int × Sl × Bool) → AH → Option ρ} : group_inverses_2 (k + 1) x0 x5 x6 x7 x13 x14 x18 x19 lo H κ =
  bif decide (x19 < x18) then
    andB x7 (fun _ κ' => rdS H x0 x6 fun v1 =>
      rdI H v1 x19 fun v2 =>
      κ' (decide (v2 = x19)) H) H fun b3 H4 =>
    andB b3 (fun _ κ' => rdS H4 x0 x19 fun v5 =>
      rdI H4 v5 x6 fun v6 =>
      κ' (decide (v6 = x19)) H4) H4 fun b7 H8 =>
    group_inverses_2 k x0 x5 x6 b7 x13 x14 x18 (W (x19 + 1)) lo H8 κ
  else
  bif x7 then
    group_inverses_3 k x0 x6 lo H κ
  else
  group_inverses_1 k x0 x5 x13 (W (x14 + 1)) lo H κ := by kernel_rfl
theorem group_inverses_3_eq {ρ : Type} (k : Nat) {x0 : Sl} {x5 : Int} {lo : Nat} {H : AH} {κ : (Int × Sl × Bool) → AH → Option ρ} : group_inverses_3 (k + 1) x0 x5 lo H κ =
  bif decide (x5 < 0) then
    κ (0, ⟨none, 0⟩, false) H
  else
  mks H [(.int .i64 0)] 8 (x0.len : Int) (x0.len : Int) fun s1 H2 =>
  group_inverses_4 k x0 x5 s1 (x0.len : Int) 0 lo H2 κ := by kernel_rfl
theorem group_inverses_4_eq {ρ : Type} (k : Nat) {x0 : Sl} {x5 : Int} {x9 : Sl} {x55 : Int} {x56 : Int} {lo : Nat} {H : AH} {κ : (Int × Sl × Bool) → AH → Option ρ} : group_inverses_4 (k + 1) x0 x5 x9 x55 x56 lo H κ =
  bif decide (x56 < x55) then
    idx x9 x56 1 fun p1 =>
    stc lo H p1 (.int .i64 (-1)) fun H2 =>
    group_inverses_5 k x0 x5 x9 x56 x55 x56 (x0.len : Int) 0 lo H2 κ
  else
  κ (x5, x9, true) H := by kernel_rfl
theorem group_inverses_5_eq {ρ : Type} (k : Nat) {x0 : Sl} {x5 : Int} {x9 : Sl} {x10 : Int} {x55 : Int} {x56 : Int} {x63 : Int} {x64 : Int} {lo : Nat} {H : AH} {κ : (Int × Sl × Bool) → AH → Option ρ} : group_inverses_5 (k + 1) x0 x5 x9 x10 x55 x56 x63 x64 lo H κ =
  bif decide (x64 < x63) then
    rdS H x0 x10 fun v1 =>
    rdI H v1 x64 fun v2 =>
    andB (decide (v2 = x5)) (fun _ κ' => rdS H x0 x64 fun v3 =>
      rdI H v3 x10 fun v4 =>
      κ' (decide (v4 = x5)) H) H fun b5 H6 =>
    bif b5 then
      idx x9 x10 1 fun p7 =>
      stc lo H6 p7 (.int .i64 x64) fun H8 =>
      group_inverses_6 k x0 x5 x9 x10 x55 x56 x63 x64 lo H8 κ
    else
    group_inverses_6 k x0 x5 x9 x10 x55 x56 x63 x64 lo H6 κ
  else
  rdI H x9 x10 fun v9 =>
  bif decide (v9 < 0) then
    κ (0, ⟨none, 0⟩, false) H
  else
  group_inverses_4 k x0 x5 x9 x55 (W (x56 + 1)) lo H κ := by kernel_rfl
theorem group_inverses_6_eq {ρ : Type} (k : Nat) {x0 : Sl} {x5 : Int} {x9 : Sl} {x10 : Int} {x55 : Int} {x56 : Int} {x63 : Int} {x64 : Int} {lo : Nat} {H : AH} {κ : (Int × Sl × Bool) → AH → Option ρ} : group_inverses_6 (k + 1) x0 x5 x9 x10 x55 x56 x63 x64 lo H κ =
  group_inverses_5 k x0 x5 x9 x10 x55 x56 x63 (W (x64 + 1)) lo H κ := by kernel_rfl
theorem group_of_eq {ρ : Type} (k : Nat) {x0 : Sl} {lo : Nat} {H : AH} {κ : (Sl × Int × Sl × Bool) → AH → Option ρ} : group_of (k + 1) x0 lo H κ =
  alc H [(.sl ⟨none, 0⟩), (.int .i64 0), (.sl ⟨none, 0⟩)] fun p1 H2 =>
  mult_Validate k x0 H2.length H2 fun v3 H4 =>
  bif !decide (v3 = 0) then
    stn lo H4 p1 [(.sl ⟨none, 0⟩), (.int .i64 0), (.sl ⟨none, 0⟩)] fun H5 =>
    ldA_sis H5 p1 fun v6 v7 v8 => κ (v6, v7, v8, false) H5
  else
  group_inverses k x0 H4.length H4 fun r9 H10 =>
  stn lo H10 p1 [(.sl x0), (.int .i64 r9.1), (.sl r9.2.1)] fun H11 =>
  ldA_sis H11 p1 fun v12 v13 v14 => κ (v12, v13, v14, r9.2.2) H11 := by kernel_rfl
theorem group_IsGroup_eq {ρ : Type} (k : Nat) {x0 : Sl} {lo : Nat} {H : AH} {κ : Bool → AH → Option ρ} : group_IsGroup (k + 1) x0 lo H κ =
  group_of k x0 H.length H fun r1 H2 =>
  alc H2 [(.sl ⟨none, 0⟩), (.int .i64 0), (.sl ⟨none, 0⟩)] fun p3 H4 =>
  stn lo H4 p3 [(.sl r1.1), (.int .i64 r1.2.1), (.sl r1.2.2.1)] fun H5 =>
  κ r1.2.2.2 H5 := by kernel_rfl
theorem rees_zero_eq {ρ : Type} (k : Nat) {x0_0 : Sl} {x0_1 : Int} {x0_2 : Int} {x0_3 : Sl} {x0_4 : Bool} {lo : Nat} {H : AH} {κ : Int → AH → Option ρ} : rees_zero (k + 1) x0_0 x0_1 x0_2 x0_3 x0_4 lo H κ =
  alc H [(.sl x0_0), (.int .i64 x0_1), (.int .i64 x0_2), (.sl x0_3), (.bool x0_4)] fun p1 H2 =>
  ldc H2 ⟨p1.b, p1.o + 4⟩ fun u3 => asB u3 fun v4 =>
  bif v4 then
    κ 1 H2
  else
  κ 0 H2 := by kernel_rfl
theorem rees_size_eq {ρ : Type} (k : Nat) {x0_0 : Sl} {x0_1 : Int} {x0_2 : Int} {x0_3 : Sl} {x0_4 : Bool} {lo : Nat} {H : AH} {κ : Int → AH → Option ρ} : rees_size (k + 1) x0_0 x0_1 x0_2 x0_3 x0_4 lo H κ =
  alc H [(.sl x0_0), (.int .i64 x0_1), (.int .i64 x0_2), (.sl x0_3), (.bool x0_4)] fun p1 H2 =>
  ldc H2 ⟨p1.b, p1.o + 1⟩ fun u3 => asI .i64 u3 fun v4 =>
  orB (decide (v4 > 400)) (fun _ κ' => ldc H2 ⟨p1.b, p1.o + 2⟩ fun u5 => asI .i64 u5 fun v6 =>
    κ' (decide (v6 > 400)) H2) H2 fun b7 H8 =>
  bif b7 then
    κ 401 H8
  else
  ldc H8 ⟨p1.b, p1.o + 1⟩ fun u9 => asI .i64 u9 fun v10 =>
  ldc H8 ⟨p1.b, p1.o + 2⟩ fun u11 => asI .i64 u11 fun v12 =>
  ldc H8 ⟨p1.b, p1.o + 0⟩ fun u13 => asS u13 fun v14 =>
  ldA_siisb H8 p1 fun v15 v16 v17 v18 v19 =>
  rees_zero k v15 v16 v17 v18 v19 H8.length H8 fun v20 H21 =>
  κ (W ((W ((W (v10 * v12)) * (v14.len : Int))) + v20)) H21 := by kernel_rfl
theorem rees_Validate_eq {ρ : Type} (k : Nat) {x0_0 : Sl} {x0_1 : Int} {x0_2 : Int} {x0_3 : Sl} {x0_4 : Bool} {lo : Nat} {H : AH} {κ : Int → AH → Option ρ} : rees_Validate (k + 1) x0_0 x0_1 x0_2 x0_3 x0_4 lo H κ =
  alc H [(.sl x0_0), (.int .i64 x0_1), (.int .i64 x0_2), (.sl x0_3), (.bool x0_4)] fun p1 H2 =>
  ldc H2 ⟨p1.b, p1.o + 0⟩ fun u3 => asS u3 fun v4 =>
  group_IsGroup k v4 H2.length H2 fun v5 H6 =>
  orB (!v5) (fun _ κ' => ldc H6 ⟨p1.b, p1.o + 1⟩ fun u7 => asI .i64 u7 fun v8 =>
    κ' (decide (v8 < 1)) H6) H6 fun b9 H10 =>
  orB b9 (fun _ κ' => ldc H10 ⟨p1.b, p1.o + 2⟩ fun u11 => asI .i64 u11 fun v12 =>
    κ' (decide (v12 < 1)) H10) H10 fun b13 H14 =>
  orB b13 (fun _ κ' => ldc H14 ⟨p1.b, p1.o + 3⟩ fun u15 => asS u15 fun v16 =>
    ldc H14 ⟨p1.b, p1.o + 2⟩ fun u17 => asI .i64 u17 fun v18 =>
    κ' (!decide ((v16.len : Int) = v18)) H14) H14 fun b19 H20 =>
  bif b19 then
    κ 4 H20
  else
  ldc H20 ⟨p1.b, p1.o + 3⟩ fun u21 => asS u21 fun v22 =>
  rees_Validate_1 k (some p1) v22 (v22.len : Int) 0 lo H20 κ := by kernel_rfl
theorem rees_Validate_1_eq {ρ : Type} (k : Nat) {x1 : Option Pt} {x30 : Sl} {x31 : Int} {x32 : Int} {lo : Nat} {H : AH} {κ : Int → AH → Option ρ} : rees_Validate_1 (k + 1) x1 x30 x31 x32 lo H κ =
  bif decide (x32 < x31) then
    rdS H x30 x32 fun v1 =>
    asP (.ptr x1) fun p2 => 
    ldc H ⟨p2.b, p2.o + 1⟩ fun u3 => asI .i64 u3 fun v4 =>
    bif !decide ((v1.len : Int) = v4) then
      κ 4 H
    else
    rees_Validate_2 k x1 x30 x31 x32 v1 (v1.len : Int) 0 lo H κ
  else
  asP (.ptr x1) fun p5 => ldA_siisb H p5 fun v6 v7 v8 v9 v10 =>
  rees_size k v6 v7 v8 v9 v10 H.length H fun v11 H12 =>
  bif decide (v11 > 400) then
    κ 3 H12
  else
  κ 0 H12 := by kernel_rfl
theorem rees_Validate_2_eq {ρ : Type} (k : Nat) {x1 : Option Pt} {x30 : Sl} {x31 : Int} {x32 : Int} {x41 : Sl} {x42 : Int} {x43 : Int} {lo : Nat} {H : AH} {κ : Int → AH → Option ρ} : rees_Validate_2 (k + 1) x1 x30 x31 x32 x41 x42 x43 lo H κ =
  bif decide (x43 < x42) then
    rdI H x41 x43 fun v1 =>
    orB (decide (v1 < (-1))) (fun _ κ' => asP (.ptr x1) fun p2 => 
      ldc H ⟨p2.b, p2.o + 0⟩ fun u3 => asS u3 fun v4 =>
      κ' (decide (v1 ≥ (v4.len : Int))) H) H fun b5 H6 =>
    orB b5 (fun _ κ' => andB (decide (v1 < 0)) (fun _ κ' => asP (.ptr x1) fun p7 => 
        ldc H6 ⟨p7.b, p7.o + 4⟩ fun u8 => asB u8 fun v9 =>
        κ' (!v9) H6) H6 fun b10 H11 =>
      κ' b10 H11) H6 fun b12 H13 =>
    bif b12 then
      κ 4 H13
    else
    rees_Validate_2 k x1 x30 x31 x32 x41 x42 (W (x43 + 1)) lo H13 κ
  else
  rees_Validate_1 k x1 x30 x31 (W (x32 + 1)) lo H κ := by kernel_rfl
theorem rees_number_eq {ρ : Type} (k : Nat) {x0_0 : Sl} {x0_1 : Int} {x0_2 : Int} {x0_3 : Sl} {x0_4 : Bool} {x1 : Int} {x2 : Int} {x3 : Int} {lo : Nat} {H : AH} {κ : Int → AH → Option ρ} : rees_number (k + 1) x0_0 x0_1 x0_2 x0_3 x0_4 x1 x2 x3 lo H κ =
  alc H [(.sl x0_0), (.int .i64 x0_1), (.int .i64 x0_2), (.sl x0_3), (.bool x0_4)] fun p1 H2 =>
  ldc H2 ⟨p1.b, p1.o + 0⟩ fun u3 => asS u3 fun v4 =>
  ldc H2 ⟨p1.b, p1.o + 2⟩ fun u5 => asI .i64 u5 fun v6 =>
  ldA_siisb H2 p1 fun v7 v8 v9 v10 v11 =>
  rees_zero k v7 v8 v9 v10 v11 H2.length H2 fun v12 H13 =>
  κ (W ((W ((W ((W ((W (x1 * (v4.len : Int))) + x2)) * v6)) + x3)) + v12)) H13 := by kernel_rfl
theorem rees_mul_eq {ρ : Type} (k : Nat) {x0_0 : Sl} {x0_1 : Int} {x0_2 : Int} {x0_3 : Sl} {x0_4 : Bool} {x1 : Int} {x2 : Int} {lo : Nat} {H : AH} {κ : Int → AH → Option ρ} : rees_mul (k + 1) x0_0 x0_1 x0_2 x0_3 x0_4 x1 x2 lo H κ =
  alc H [(.sl x0_0), (.int .i64 x0_1), (.int .i64 x0_2), (.sl x0_3), (.bool x0_4)] fun p1 H2 =>
  ldA_siisb H2 p1 fun v3 v4 v5 v6 v7 =>
  rees_zero k v3 v4 v5 v6 v7 H2.length H2 fun v8 H9 =>
  andB (decide (v8 = 1)) (fun _ κ' => orB (decide (x1 = 0)) (fun _ κ' => κ' (decide (x2 = 0)) H9) H9 fun b10 H11 =>
    κ' b10 H11) H9 fun b12 H13 =>
  bif b12 then
    κ 0 H13
  else
  ldc H13 ⟨p1.b, p1.o + 2⟩ fun u14 => asI .i64 u14 fun v15 =>
  bif decide (v15 = 0) then none else
  ldc H13 ⟨p1.b, p1.o + 2⟩ fun u16 => asI .i64 u16 fun v17 =>
  bif decide (v17 = 0) then none else
  ldc H13 ⟨p1.b, p1.o + 2⟩ fun u18 => asI .i64 u18 fun v19 =>
  bif decide (v19 = 0) then none else
  ldc H13 ⟨p1.b, p1.o + 0⟩ fun u20 => asS u20 fun v21 =>
  bif decide ((v21.len : Int) = 0) then none else
  ldc H13 ⟨p1.b, p1.o + 2⟩ fun u22 => asI .i64 u22 fun v23 =>
  bif decide (v23 = 0) then none else
  ldc H13 ⟨p1.b, p1.o + 0⟩ fun u24 => asS u24 fun v25 =>
  bif decide ((v25.len : Int) = 0) then none else
  ldc H13 ⟨p1.b, p1.o + 2⟩ fun u26 => asI .i64 u26 fun v27 =>
  bif decide (v27 = 0) then none else
  ldc H13 ⟨p1.b, p1.o + 0⟩ fun u28 => asS u28 fun v29 =>
  bif decide ((v29.len : Int) = 0) then none else
  ldc H13 ⟨p1.b, p1.o + 2⟩ fun u30 => asI .i64 u30 fun v31 =>
  bif decide (v31 = 0) then none else
  ldc H13 ⟨p1.b, p1.o + 0⟩ fun u32 => asS u32 fun v33 =>
  bif decide ((v33.len : Int) = 0) then none else
  ldc H13 ⟨p1.b, p1.o + 3⟩ fun u34 => asS u34 fun v35 =>
  rdS H13 v35 (Int.tmod (W (x1 - v8)) v15) fun v36 =>
  rdI H13 v36 (W (Int.tdiv (W (Int.tdiv (W (x2 - v8)) v31)) (v33.len : Int))) fun v37 =>
  bif decide (v37 < 0) then
    κ 0 H13
  else
  ldA_siisb H13 p1 fun v38 v39 v40 v41 v42 =>
  ldc H13 ⟨p1.b, p1.o + 0⟩ fun u43 => asS u43 fun v44 =>
  ldc H13 ⟨p1.b, p1.o + 0⟩ fun u45 => asS u45 fun v46 =>
  rdS H13 v46 (Int.tmod (W (Int.tdiv (W (x1 - v8)) v19)) (v21.len : Int)) fun v47 =>
  rdI H13 v47 v37 fun v48 =>
  rdS H13 v44 v48 fun v49 =>
  rdI H13 v49 (Int.tmod (W (Int.tdiv (W (x2 - v8)) v23)) (v25.len : Int)) fun v50 =>
  rees_number k v38 v39 v40 v41 v42 (W (Int.tdiv (W (Int.tdiv (W (x1 - v8)) v27)) (v29.len : Int))) v50 (Int.tmod (W (x2 - v8)) v17) H13.length H13 fun v51 H52 =>
  κ v51 H52 := by kernel_rfl
theorem rees_Table_eq {ρ : Type} (k : Nat) {x0_0 : Sl} {x0_1 : Int} {x0_2 : Int} {x0_3 : Sl} {x0_4 : Bool} {lo : Nat} {H : AH} {κ : (Sl × Int) → AH → Option ρ} : rees_Table (k + 1) x0_0 x0_1 x0_2 x0_3 x0_4 lo H κ =
  alc H [(.sl x0_0), (.int .i64 x0_1), (.int .i64 x0_2), (.sl x0_3), (.bool x0_4)] fun p1 H2 =>
  ldA_siisb H2 p1 fun v3 v4 v5 v6 v7 =>
  rees_Validate k v3 v4 v5 v6 v7 H2.length H2 fun v8 H9 =>
  bif !decide (v8 = 0) then
    κ (⟨none, 0⟩, v8) H9
  else
  ldA_siisb H9 p1 fun v10 v11 v12 v13 v14 =>
  rees_size k v10 v11 v12 v13 v14 H9.length H9 fun v15 H16 =>
  mks H16 [(.sl ⟨none, 0⟩)] 24 v15 v15 fun s17 H18 =>
  rees_Table_1 k (some p1) s17 (s17.len : Int) 0 lo H18 κ := by kernel_rfl
theorem rees_Table_1_eq {ρ : Type} (k : Nat) {x1 : Option Pt} {x5 : Sl} {x17 : Int} {x18 : Int} {lo : Nat} {H : AH} {κ : (Sl × Int) → AH → Option ρ} : rees_Table_1 (k + 1) x1 x5 x17 x18 lo H κ =
  bif decide (x18 < x17) then
    mks H [(.int .i64 0)] 8 (x5.len : Int) (x5.len : Int) fun s1 H2 =>
    idx x5 x18 1 fun p3 =>
    stc lo H2 p3 (.sl s1) fun H4 =>
    rees_Table_2 k x1 x5 x18 x17 x18 (x5.len : Int) 0 lo H4 κ
  else
  κ (x5, 0) H := by kernel_rfl
theorem rees_Table_2_eq {ρ : Type} (k : Nat) {x1 : Option Pt} {x5 : Sl} {x6 : Int} {x17 : Int} {x18 : Int} {x28 : Int} {x29 : Int} {lo : Nat} {H : AH} {κ : (Sl × Int) → AH → Option ρ} : rees_Table_2 (k + 1) x1 x5 x6 x17 x18 x28 x29 lo H κ =
  bif decide (x29 < x28) then
    rdS H x5 x6 fun v1 =>
    asP (.ptr x1) fun p2 => ldA_siisb H p2 fun v3 v4 v5 v6 v7 =>
    rees_mul k v3 v4 v5 v6 v7 x6 x29 H.length H fun v8 H9 =>
    idx v1 x29 1 fun p10 =>
    stc lo H9 p10 (.int .i64 v8) fun H11 =>
    rees_Table_2 k x1 x5 x6 x17 x18 x28 (W (x29 + 1)) lo H11 κ
  else
  rees_Table_1 k x1 x5 x17 (W (x18 + 1)) lo H κ := by kernel_rfl
theorem rees_Regular_eq {ρ : Type} (k : Nat) {x0_0 : Sl} {x0_1 : Int} {x0_2 : Int} {x0_3 : Sl} {x0_4 : Bool} {lo : Nat} {H : AH} {κ : Bool → AH → Option ρ} : rees_Regular (k + 1) x0_0 x0_1 x0_2 x0_3 x0_4 lo H κ =
  alc H [(.sl x0_0), (.int .i64 x0_1), (.int .i64 x0_2), (.sl x0_3), (.bool x0_4)] fun p1 H2 =>
  ldA_siisb H2 p1 fun v3 v4 v5 v6 v7 =>
  rees_Validate k v3 v4 v5 v6 v7 H2.length H2 fun v8 H9 =>
  bif !decide (v8 = 0) then
    κ false H9
  else
  ldc H9 ⟨p1.b, p1.o + 1⟩ fun u10 => asI .i64 u10 fun v11 =>
  mks H9 [(.bool false)] 1 v11 v11 fun s12 H13 =>
  ldc H13 ⟨p1.b, p1.o + 2⟩ fun u14 => asI .i64 u14 fun v15 =>
  mks H13 [(.bool false)] 1 v15 v15 fun s16 H17 =>
  ldc H17 ⟨p1.b, p1.o + 3⟩ fun u18 => asS u18 fun v19 =>
  rees_Regular_1 k (some p1) s12 s16 (v19.len : Int) 0 lo H17 κ := by kernel_rfl
theorem rees_Regular_1_eq {ρ : Type} (k : Nat) {x1 : Option Pt} {x3 : Sl} {x4 : Sl} {x21 : Int} {x22 : Int} {lo : Nat} {H : AH} {κ : Bool → AH → Option ρ} : rees_Regular_1 (k + 1) x1 x3 x4 x21 x22 lo H κ =
  bif decide (x22 < x21) then
    asP (.ptr x1) fun p1 => 
    ldc H ⟨p1.b, p1.o + 3⟩ fun u2 => asS u2 fun v3 =>
    rdS H v3 x22 fun v4 =>
    rees_Regular_2 k x1 x3 x4 x22 x21 x22 v4 (v4.len : Int) 0 lo H κ
  else
  appS lo H x3 x4 1 1 fun s5 H6 =>
  rees_Regular_3 k s5 (s5.len : Int) 0 lo H6 κ := by kernel_rfl
theorem rees_Regular_2_eq {ρ : Type} (k : Nat) {x1 : Option Pt} {x3 : Sl} {x4 : Sl} {x5 : Int} {x21 : Int} {x22 : Int} {x29 : Sl} {x30 : Int} {x31 : Int} {lo : Nat} {H : AH} {κ : Bool → AH → Option ρ} : rees_Regular_2 (k + 1) x1 x3 x4 x5 x21 x22 x29 x30 x31 lo H κ =
  bif decide (x31 < x30) then
    rdI H x29 x31 fun v1 =>
    rdB H x3 x31 fun v2 =>
    orB v2 (fun _ κ' => κ' (decide (v1 ≥ 0)) H) H fun b3 H4 =>
    idx x3 x31 1 fun p5 =>
    stc lo H4 p5 (.bool b3) fun H6 =>
    rdB H6 x4 x5 fun v7 =>
    orB v7 (fun _ κ' => κ' (decide (v1 ≥ 0)) H6) H6 fun b8 H9 =>
    idx x4 x5 1 fun p10 =>
    stc lo H9 p10 (.bool b8) fun H11 =>
    rees_Regular_2 k x1 x3 x4 x5 x21 x22 x29 x30 (W (x31 + 1)) lo H11 κ
  else
  rees_Regular_1 k x1 x3 x4 x21 (W (x22 + 1)) lo H κ := by kernel_rfl
theorem rees_Regular_3_eq {ρ : Type} (k : Nat) {x62 : Sl} {x63 : Int} {x64 : Int} {lo : Nat} {H : AH} {κ : Bool → AH → Option ρ} : rees_Regular_3 (k + 1) x62 x63 x64 lo H κ =
  bif decide (x64 < x63) then
    rdB H x62 x64 fun v1 =>
    bif !v1 then
      κ false H
    else
    rees_Regular_3 k x62 x63 (W (x64 + 1)) lo H κ
  else
  κ true H := by kernel_rfl
theorem semigrouplaw17_awake_eq {ρ : Type} (k : Nat) {lo : Nat} {H : AH} {κ : Bool → AH → Option ρ} : semigrouplaw17_awake (k + 1) lo H κ =
  semigrouplaw17_brandt k  H.length H fun r1 H2 =>
  rees_Table k r1.1 r1.2.1 r1.2.2.1 r1.2.2.2.1 r1.2.2.2.2 H2.length H2 fun r3 H4 =>
  andB (decide (r3.2 = 0)) (fun _ κ' => κ' (decide ((r3.1.len : Int) = 5)) H4) H4 fun b5 H6 =>
  andB b5 (fun _ κ' => semigrouplaw17_brandt k  H6.length H6 fun r7 H8 =>
    rees_Regular k r7.1 r7.2.1 r7.2.2.1 r7.2.2.2.1 r7.2.2.2.2 H8.length H8 fun v9 H10 =>
    κ' v9 H10) H6 fun b11 H12 =>
  andB b11 (fun _ κ' => rdS H12 r3.1 1 fun v13 =>
    rdI H12 v13 1 fun v14 =>
    κ' (decide (v14 = 1)) H12) H12 fun b15 H16 =>
  andB b15 (fun _ κ' => rdS H16 r3.1 1 fun v17 =>
    rdI H16 v17 4 fun v18 =>
    κ' (decide (v18 = 0)) H16) H16 fun b19 H20 =>
  κ b19 H20 := by kernel_rfl
theorem semigroupref14_Associative_eq {ρ : Type} (k : Nat) {x0 : Sl} {lo : Nat} {H : AH} {κ : (Int × Int × Int × Int) → AH → Option ρ} : semigroupref14_Associative (k + 1) x0 lo H κ =
  semigroupref14_Shape k x0 H.length H fun v1 H2 =>
  bif !decide (v1 = 0) then
    κ (0, 0, 0, v1) H2
  else
  semigroupref14_Associative_1 k x0 (x0.len : Int) 0 lo H2 κ := by kernel_rfl
theorem semigroupref14_Associative_1_eq {ρ : Type} (k : Nat) {x0 : Sl} {x16 : Int} {x17 : Int} {lo : Nat} {H : AH} {κ : (Int × Int × Int × Int) → AH → Option ρ} : semigroupref14_Associative_1 (k + 1) x0 x16 x17 lo H κ =
  bif decide (x17 < x16) then
    semigroupref14_Associative_2 k x0 x17 x16 x17 (x0.len : Int) 0 lo H κ
  else
  κ (0, 0, 0, 0) H := by kernel_rfl
theorem semigroupref14_Associative_2_eq {ρ : Type} (k : Nat) {x0 : Sl} {x7 : Int} {x16 : Int} {x17 : Int} {x21 : Int} {x22 : Int} {lo : Nat} {H : AH} {κ : (Int × Int × Int × Int) → AH → Option ρ} : semigroupref14_Associative_2 (k + 1) x0 x7 x16 x17 x21 x22 lo H κ =
  bif decide (x22 < x21) then
    semigroupref14_Associative_3 k x0 x7 x22 x16 x17 x21 x22 (x0.len : Int) 0 lo H κ
  else
  semigroupref14_Associative_1 k x0 x16 (W (x17 + 1)) lo H κ := by kernel_rfl
theorem semigroupref14_Associative_3_eq {ρ : Type} (k : Nat) {x0 : Sl} {x7 : Int} {x8 : Int} {x16 : Int} {x17 : Int} {x21 : Int} {x22 : Int} {x26 : Int} {x27 : Int} {lo : Nat} {H : AH} {κ : (Int × Int × Int × Int) → AH → Option ρ} : semigroupref14_Associative_3 (k + 1) x0 x7 x8 x16 x17 x21 x22 x26 x27 lo H κ =
  bif decide (x27 < x26) then
    rdS H x0 x7 fun v1 =>
    rdI H v1 x8 fun v2 =>
    rdS H x0 v2 fun v3 =>
    rdI H v3 x27 fun v4 =>
    rdS H x0 x7 fun v5 =>
    rdS H x0 x8 fun v6 =>
    rdI H v6 x27 fun v7 =>
    rdI H v5 v7 fun v8 =>
    bif !decide (v4 = v8) then
      κ (x7, x8, x27, 5) H
    else
    semigroupref14_Associative_3 k x0 x7 x8 x16 x17 x21 x22 x26 (W (x27 + 1)) lo H κ
  else
  semigroupref14_Associative_2 k x0 x7 x16 x17 x21 (W (x22 + 1)) lo H κ := by kernel_rfl
theorem semigroupref14_Validate_eq {ρ : Type} (k : Nat) {x0 : Sl} {lo : Nat} {H : AH} {κ : Int → AH → Option ρ} : semigroupref14_Validate (k + 1) x0 lo H κ =
  semigroupref14_Associative k x0 H.length H fun r1 H2 =>
  κ r1.2.2.2 H2 := by kernel_rfl
theorem semigroupref14_Valid_eq {ρ : Type} (k : Nat) {x0 : Sl} {lo : Nat} {H : AH} {κ : Bool → AH → Option ρ} : semigroupref14_Valid (k + 1) x0 lo H κ =
  semigroupref14_Validate k x0 H.length H fun v1 H2 =>
  κ (decide (v1 = 0)) H2 := by kernel_rfl
theorem semigroupref14_Identity_eq {ρ : Type} (k : Nat) {x0 : Sl} {lo : Nat} {H : AH} {κ : Int → AH → Option ρ} : semigroupref14_Identity (k + 1) x0 lo H κ =
  semigroupref14_Identity_1 k x0 (x0.len : Int) 0 lo H κ := by kernel_rfl
theorem semigroupref14_Identity_1_eq {ρ : Type} (k : Nat) {x0 : Sl} {x7 : Int} {x8 : Int} {lo : Nat} {H : AH} {κ : Int → AH → Option ρ} : semigroupref14_Identity_1 (k + 1) x0 x7 x8 lo H κ =
  bif decide (x8 < x7) then
    semigroupref14_Identity_2 k x0 x8 true x7 x8 (x0.len : Int) 0 lo H κ
  else
  κ (-1) H := by kernel_rfl
theorem semigroupref14_Identity_2_eq {ρ : Type} (k : Nat) {x0 : Sl} {x3 : Int} {x4 : Bool} {x7 : Int} {x8 : Int} {x12 : Int} {x13 : Int} {lo : Nat} {H : AH} {κ : Int → AH → Option ρ} : semigroupref14_Identity_2 (k + 1) x0 x3 x4 x7 x8 x12 x13 lo H κ =
  bif decide (x13 < x12) then
    andB x4 (fun _ κ' => rdS H x0 x3 fun v1 =>
      rdI H v1 x13 fun v2 =>
      κ' (decide (v2 = x13)) H) H fun b3 H4 =>
    andB b3 (fun _ κ' => rdS H4 x0 x13 fun v5 =>
      rdI H4 v5 x3 fun v6 =>
      κ' (decide (v6 = x13)) H4) H4 fun b7 H8 =>
    semigroupref14_Identity_2 k x0 x3 b7 x7 x8 x12 (W (x13 + 1)) lo H8 κ
  else
  bif x4 then
    κ x3 H
  else
  semigroupref14_Identity_1 k x0 x7 (W (x8 + 1)) lo H κ := by kernel_rfl
theorem semigroupref16_Inverse_eq {ρ : Type} (k : Nat) {x0 : Sl} {x1 : Int} {lo : Nat} {H : AH} {κ : Int → AH → Option ρ} : semigroupref16_Inverse (k + 1) x0 x1 lo H κ =
  semigroupref14_Identity k x0 H.length H fun v1 H2 =>
  semigroupref16_Inverse_1 k x0 x1 v1 (x0.len : Int) 0 lo H2 κ := by kernel_rfl
theorem semigroupref16_Inverse_1_eq {ρ : Type} (k : Nat) {x0 : Sl} {x1 : Int} {x5 : Int} {x10 : Int} {x11 : Int} {lo : Nat} {H : AH} {κ : Int → AH → Option ρ} : semigroupref16_Inverse_1 (k + 1) x0 x1 x5 x10 x11 lo H κ =
  bif decide (x11 < x10) then
    rdS H x0 x1 fun v1 =>
    rdI H v1 x11 fun v2 =>
    andB (decide (v2 = x5)) (fun _ κ' => rdS H x0 x11 fun v3 =>
      rdI H v3 x1 fun v4 =>
      κ' (decide (v4 = x5)) H) H fun b5 H6 =>
    bif b5 then
      κ x11 H6
    else
    semigroupref16_Inverse_1 k x0 x1 x5 x10 (W (x11 + 1)) lo H6 κ
  else
  κ (-1) H := by kernel_rfl
theorem semigroupref16_IsGroup_eq {ρ : Type} (k : Nat) {x0 : Sl} {lo : Nat} {H : AH} {κ : Bool → AH → Option ρ} : semigroupref16_IsGroup (k + 1) x0 lo H κ =
  semigroupref14_Valid k x0 H.length H fun v1 H2 =>
  orB (!v1) (fun _ κ' => semigroupref14_Identity k x0 H2.length H2 fun v3 H4 =>
    κ' (decide (v3 < 0)) H4) H2 fun b5 H6 =>
  bif b5 then
    κ false H6
  else
  semigroupref16_IsGroup_1 k x0 (x0.len : Int) 0 lo H6 κ := by kernel_rfl
theorem semigroupref16_IsGroup_1_eq {ρ : Type} (k : Nat) {x0 : Sl} {x13 : Int} {x14 : Int} {lo : Nat} {H : AH} {κ : Bool → AH → Option ρ} : semigroupref16_IsGroup_1 (k + 1) x0 x13 x14 lo H κ =
  bif decide (x14 < x13) then
    semigroupref16_Inverse k x0 x14 H.length H fun v1 H2 =>
    bif decide (v1 < 0) then
      κ false H2
    else
    semigroupref16_IsGroup_1 k x0 x13 (W (x14 + 1)) lo H2 κ
  else
  κ true H := by kernel_rfl
theorem semigroupref17_Validate_eq {ρ : Type} (k : Nat) {x0_0 : Sl} {x0_1 : Int} {x0_2 : Int} {x0_3 : Sl} {x0_4 : Bool} {lo : Nat} {H : AH} {κ : Int → AH → Option ρ} : semigroupref17_Validate (k + 1) x0_0 x0_1 x0_2 x0_3 x0_4 lo H κ =
  alc H [(.sl x0_0), (.int .i64 x0_1), (.int .i64 x0_2), (.sl x0_3), (.bool x0_4)] fun p1 H2 =>
  ldc H2 ⟨p1.b, p1.o + 0⟩ fun u3 => asS u3 fun v4 =>
  semigroupref16_IsGroup k v4 H2.length H2 fun v5 H6 =>
  orB (!v5) (fun _ κ' => ldc H6 ⟨p1.b, p1.o + 1⟩ fun u7 => asI .i64 u7 fun v8 =>
    κ' (decide (v8 < 1)) H6) H6 fun b9 H10 =>
  orB b9 (fun _ κ' => ldc H10 ⟨p1.b, p1.o + 2⟩ fun u11 => asI .i64 u11 fun v12 =>
    κ' (decide (v12 < 1)) H10) H10 fun b13 H14 =>
  orB b13 (fun _ κ' => ldc H14 ⟨p1.b, p1.o + 3⟩ fun u15 => asS u15 fun v16 =>
    ldc H14 ⟨p1.b, p1.o + 2⟩ fun u17 => asI .i64 u17 fun v18 =>
    κ' (!decide ((v16.len : Int) = v18)) H14) H14 fun b19 H20 =>
  bif b19 then
    κ 4 H20
  else
  ldc H20 ⟨p1.b, p1.o + 3⟩ fun u21 => asS u21 fun v22 =>
  semigroupref17_Validate_1 k (some p1) v22 (v22.len : Int) 0 lo H20 κ := by kernel_rfl
theorem semigroupref17_Validate_1_eq {ρ : Type} (k : Nat) {x1 : Option Pt} {x31 : Sl} {x32 : Int} {x33 : Int} {lo : Nat} {H : AH} {κ : Int → AH → Option ρ} : semigroupref17_Validate_1 (k + 1) x1 x31 x32 x33 lo H κ =
  bif decide (x33 < x32) then
    rdS H x31 x33 fun v1 =>
    asP (.ptr x1) fun p2 => 
    ldc H ⟨p2.b, p2.o + 1⟩ fun u3 => asI .i64 u3 fun v4 =>
    bif !decide ((v1.len : Int) = v4) then
      κ 4 H
    else
    semigroupref17_Validate_2 k x1 x31 x32 x33 v1 (v1.len : Int) 0 lo H κ
  else
  asP (.ptr x1) fun p5 => 
  ldc H ⟨p5.b, p5.o + 4⟩ fun u6 => asB u6 fun v7 =>
  bif v7 then
    semigroupref17_Validate_3 k x1 (W (400 - 1)) lo H κ
  else
  semigroupref17_Validate_3 k x1 400 lo H κ := by kernel_rfl
theorem semigroupref17_Validate_2_eq {ρ : Type} (k : Nat) {x1 : Option Pt} {x31 : Sl} {x32 : Int} {x33 : Int} {x42 : Sl} {x43 : Int} {x44 : Int} {lo : Nat} {H : AH} {κ : Int → AH → Option ρ} : semigroupref17_Validate_2 (k + 1) x1 x31 x32 x33 x42 x43 x44 lo H κ =
  bif decide (x44 < x43) then
    rdI H x42 x44 fun v1 =>
    orB (decide (v1 < (-1))) (fun _ κ' => asP (.ptr x1) fun p2 => 
      ldc H ⟨p2.b, p2.o + 0⟩ fun u3 => asS u3 fun v4 =>
      κ' (decide (v1 ≥ (v4.len : Int))) H) H fun b5 H6 =>
    orB b5 (fun _ κ' => andB (decide (v1 < 0)) (fun _ κ' => asP (.ptr x1) fun p7 => 
        ldc H6 ⟨p7.b, p7.o + 4⟩ fun u8 => asB u8 fun v9 =>
        κ' (!v9) H6) H6 fun b10 H11 =>
      κ' b10 H11) H6 fun b12 H13 =>
    bif b12 then
      κ 4 H13
    else
    semigroupref17_Validate_2 k x1 x31 x32 x33 x42 x43 (W (x44 + 1)) lo H13 κ
  else
  semigroupref17_Validate_1 k x1 x31 x32 (W (x33 + 1)) lo H κ := by kernel_rfl
theorem semigroupref17_Validate_3_eq {ρ : Type} (k : Nat) {x1 : Option Pt} {x7 : Int} {lo : Nat} {H : AH} {κ : Int → AH → Option ρ} : semigroupref17_Validate_3 (k + 1) x1 x7 lo H κ =
  asP (.ptr x1) fun p1 => 
  ldc H ⟨p1.b, p1.o + 1⟩ fun u2 => asI .i64 u2 fun v3 =>
  asP (.ptr x1) fun p4 => 
  ldc H ⟨p4.b, p4.o + 0⟩ fun u5 => asS u5 fun v6 =>
  bif decide ((v6.len : Int) = 0) then none else
  orB (decide (v3 > (W (Int.tdiv x7 (v6.len : Int))))) (fun _ κ' => asP (.ptr x1) fun p7 => 
    ldc H ⟨p7.b, p7.o + 1⟩ fun u8 => asI .i64 u8 fun v9 =>
    asP (.ptr x1) fun p10 => 
    ldc H ⟨p10.b, p10.o + 0⟩ fun u11 => asS u11 fun v12 =>
    asP (.ptr x1) fun p13 => 
    ldc H ⟨p13.b, p13.o + 2⟩ fun u14 => asI .i64 u14 fun v15 =>
    bif decide (v15 = 0) then none else
    κ' (decide ((W (v9 * (v12.len : Int))) > (W (Int.tdiv x7 v15)))) H) H fun b16 H17 =>
  bif b16 then
    κ 3 H17
  else
  κ 0 H17 := by kernel_rfl
theorem rees_Size_eq {ρ : Type} (k : Nat) {x0_0 : Sl} {x0_1 : Int} {x0_2 : Int} {x0_3 : Sl} {x0_4 : Bool} {lo : Nat} {H : AH} {κ : Int → AH → Option ρ} : rees_Size (k + 1) x0_0 x0_1 x0_2 x0_3 x0_4 lo H κ =
  alc H [(.sl x0_0), (.int .i64 x0_1), (.int .i64 x0_2), (.sl x0_3), (.bool x0_4)] fun p1 H2 =>
  ldA_siisb H2 p1 fun v3 v4 v5 v6 v7 =>
  rees_Validate k v3 v4 v5 v6 v7 H2.length H2 fun v8 H9 =>
  bif !decide (v8 = 0) then
    κ 0 H9
  else
  ldA_siisb H9 p1 fun v10 v11 v12 v13 v14 =>
  rees_size k v10 v11 v12 v13 v14 H9.length H9 fun v15 H16 =>
  κ v15 H16 := by kernel_rfl
theorem semigroupref17_base_eq {ρ : Type} (k : Nat) {x0_0 : Sl} {x0_1 : Int} {x0_2 : Int} {x0_3 : Sl} {x0_4 : Bool} {lo : Nat} {H : AH} {κ : Int → AH → Option ρ} : semigroupref17_base (k + 1) x0_0 x0_1 x0_2 x0_3 x0_4 lo H κ =
  alc H [(.sl x0_0), (.int .i64 x0_1), (.int .i64 x0_2), (.sl x0_3), (.bool x0_4)] fun p1 H2 =>
  ldc H2 ⟨p1.b, p1.o + 4⟩ fun u3 => asB u3 fun v4 =>
  bif v4 then
    κ 1 H2
  else
  κ 0 H2 := by kernel_rfl
theorem semigroupref17_Size_eq {ρ : Type} (k : Nat) {x0_0 : Sl} {x0_1 : Int} {x0_2 : Int} {x0_3 : Sl} {x0_4 : Bool} {lo : Nat} {H : AH} {κ : Int → AH → Option ρ} : semigroupref17_Size (k + 1) x0_0 x0_1 x0_2 x0_3 x0_4 lo H κ =
  alc H [(.sl x0_0), (.int .i64 x0_1), (.int .i64 x0_2), (.sl x0_3), (.bool x0_4)] fun p1 H2 =>
  ldc H2 ⟨p1.b, p1.o + 1⟩ fun u3 => asI .i64 u3 fun v4 =>
  ldc H2 ⟨p1.b, p1.o + 0⟩ fun u5 => asS u5 fun v6 =>
  ldc H2 ⟨p1.b, p1.o + 2⟩ fun u7 => asI .i64 u7 fun v8 =>
  ldA_siisb H2 p1 fun v9 v10 v11 v12 v13 =>
  semigroupref17_base k v9 v10 v11 v12 v13 H2.length H2 fun v14 H15 =>
  κ (W ((W ((W (v4 * (v6.len : Int))) * v8)) + v14)) H15 := by kernel_rfl
theorem semigroupref03_Members_eq {ρ : Type} (k : Nat) {x0 : Sl} {lo : Nat} {H : AH} {κ : Sl → AH → Option ρ} : semigroupref03_Members (k + 1) x0 lo H κ =
  semigroupref03_Members_1 k ⟨none, 0⟩ x0 (x0.len : Int) 0 lo H κ := by kernel_rfl
theorem semigroupref03_Members_1_eq {ρ : Type} (k : Nat) {x3 : Sl} {x6 : Sl} {x7 : Int} {x8 : Int} {lo : Nat} {H : AH} {κ : Sl → AH → Option ρ} : semigroupref03_Members_1 (k + 1) x3 x6 x7 x8 lo H κ =
  bif decide (x8 < x7) then
    rdB H x6 x8 fun v1 =>
    bif v1 then
      mkb H [(.int .i64 x8)] 1 1 fun s2 H3 =>
      appS lo H3 x3 s2 1 8 fun s4 H5 =>
      semigroupref03_Members_2 k s4 x6 x7 x8 lo H5 κ
    else
    semigroupref03_Members_2 k x3 x6 x7 x8 lo H κ
  else
  κ x3 H := by kernel_rfl
theorem semigroupref03_Members_2_eq {ρ : Type} (k : Nat) {x3 : Sl} {x6 : Sl} {x7 : Int} {x8 : Int} {lo : Nat} {H : AH} {κ : Sl → AH → Option ρ} : semigroupref03_Members_2 (k + 1) x3 x6 x7 x8 lo H κ =
  semigroupref03_Members_1 k x3 x6 x7 (W (x8 + 1)) lo H κ := by kernel_rfl
theorem semigroupref17_Regular_eq {ρ : Type} (k : Nat) {x0_0 : Sl} {x0_1 : Int} {x0_2 : Int} {x0_3 : Sl} {x0_4 : Bool} {lo : Nat} {H : AH} {κ : Bool → AH → Option ρ} : semigroupref17_Regular (k + 1) x0_0 x0_1 x0_2 x0_3 x0_4 lo H κ =
  alc H [(.sl x0_0), (.int .i64 x0_1), (.int .i64 x0_2), (.sl x0_3), (.bool x0_4)] fun p1 H2 =>
  ldc H2 ⟨p1.b, p1.o + 1⟩ fun u3 => asI .i64 u3 fun v4 =>
  mks H2 [(.bool false)] 1 v4 v4 fun s5 H6 =>
  ldc H6 ⟨p1.b, p1.o + 3⟩ fun u7 => asS u7 fun v8 =>
  semigroupref17_Regular_1 k (some p1) s5 v8 (v8.len : Int) 0 lo H6 κ := by kernel_rfl
theorem semigroupref17_Regular_1_eq {ρ : Type} (k : Nat) {x1 : Option Pt} {x3 : Sl} {x13 : Sl} {x14 : Int} {x15 : Int} {lo : Nat} {H : AH} {κ : Bool → AH → Option ρ} : semigroupref17_Regular_1 (k + 1) x1 x3 x13 x14 x15 lo H κ =
  bif decide (x15 < x14) then
    rdS H x13 x15 fun v1 =>
    semigroupref17_Regular_2 k x1 x3 false x13 x14 x15 v1 (v1.len : Int) 0 lo H κ
  else
  semigroupref03_Members k x3 H.length H fun v2 H3 =>
  asP (.ptr x1) fun p4 => 
  ldc H3 ⟨p4.b, p4.o + 1⟩ fun u5 => asI .i64 u5 fun v6 =>
  κ (decide ((v2.len : Int) = v6)) H3 := by kernel_rfl
theorem semigroupref17_Regular_2_eq {ρ : Type} (k : Nat) {x1 : Option Pt} {x3 : Sl} {x6 : Bool} {x13 : Sl} {x14 : Int} {x15 : Int} {x19 : Sl} {x20 : Int} {x21 : Int} {lo : Nat} {H : AH} {κ : Bool → AH → Option ρ} : semigroupref17_Regular_2 (k + 1) x1 x3 x6 x13 x14 x15 x19 x20 x21 lo H κ =
  bif decide (x21 < x20) then
    rdI H x19 x21 fun v1 =>
    bif decide (v1 ≥ 0) then
      idx x3 x21 1 fun p2 =>
      stc lo H p2 (.bool true) fun H3 =>
      semigroupref17_Regular_3 k x1 x3 true x13 x14 x15 x19 x20 x21 lo H3 κ
    else
    semigroupref17_Regular_3 k x1 x3 x6 x13 x14 x15 x19 x20 x21 lo H κ
  else
  bif !x6 then
    κ false H
  else
  semigroupref17_Regular_1 k x1 x3 x13 x14 (W (x15 + 1)) lo H κ := by kernel_rfl
theorem semigroupref17_Regular_3_eq {ρ : Type} (k : Nat) {x1 : Option Pt} {x3 : Sl} {x6 : Bool} {x13 : Sl} {x14 : Int} {x15 : Int} {x19 : Sl} {x20 : Int} {x21 : Int} {lo : Nat} {H : AH} {κ : Bool → AH → Option ρ} : semigroupref17_Regular_3 (k + 1) x1 x3 x6 x13 x14 x15 x19 x20 x21 lo H κ =
  semigroupref17_Regular_2 k x1 x3 x6 x13 x14 x15 x19 x20 (W (x21 + 1)) lo H κ := by kernel_rfl
theorem semigrouplaw17_ReesValidates_eq {ρ : Type} (k : Nat) {x0_0 : Sl} {x0_1 : Int} {x0_2 : Int} {x0_3 : Sl} {x0_4 : Bool} {lo : Nat} {H : AH} {κ : Bool → AH → Option ρ} : semigrouplaw17_ReesValidates (k + 1) x0_0 x0_1 x0_2 x0_3 x0_4 lo H κ =
  alc H [(.sl x0_0), (.int .i64 x0_1), (.int .i64 x0_2), (.sl x0_3), (.bool x0_4)] fun p1 H2 =>
  ldc H2 ⟨p1.b, p1.o + 0⟩ fun u3 => asS u3 fun v4 =>
  semigrouplaw17_large k v4 16 H2.length H2 fun v5 H6 =>
  bif v5 then
    semigrouplaw17_awake k  H6.length H6 fun v7 H8 =>
    κ v7 H8
  else
  ldA_siisb H6 p1 fun v9 v10 v11 v12 v13 =>
  semigroupref17_Validate k v9 v10 v11 v12 v13 H6.length H6 fun v14 H15 =>
  bif !decide (v14 = 0) then
    ldA_siisb H15 p1 fun v16 v17 v18 v19 v20 =>
    rees_Validate k v16 v17 v18 v19 v20 H15.length H15 fun v21 H22 =>
    andB (decide (v21 = v14)) (fun _ κ' => ldA_siisb H22 p1 fun v23 v24 v25 v26 v27 =>
      rees_Size k v23 v24 v25 v26 v27 H22.length H22 fun v28 H29 =>
      κ' (decide (v28 = 0)) H29) H22 fun b30 H31 =>
    andB b30 (fun _ κ' => ldA_siisb H31 p1 fun v32 v33 v34 v35 v36 =>
      rees_Regular k v32 v33 v34 v35 v36 H31.length H31 fun v37 H38 =>
      κ' (!v37) H38) H31 fun b39 H40 =>
    andB b39 (fun _ κ' => semigrouplaw17_awake k  H40.length H40 fun v41 H42 =>
      κ' v41 H42) H40 fun b43 H44 =>
    κ b43 H44
  else
  ldA_siisb H15 p1 fun v45 v46 v47 v48 v49 =>
  rees_Validate k v45 v46 v47 v48 v49 H15.length H15 fun v50 H51 =>
  andB (decide (v50 = v14)) (fun _ κ' => ldA_siisb H51 p1 fun v52 v53 v54 v55 v56 =>
    rees_Size k v52 v53 v54 v55 v56 H51.length H51 fun v57 H58 =>
    ldA_siisb H58 p1 fun v59 v60 v61 v62 v63 =>
    semigroupref17_Size k v59 v60 v61 v62 v63 H58.length H58 fun v64 H65 =>
    κ' (decide (v57 = v64)) H65) H51 fun b66 H67 =>
  andB b66 (fun _ κ' => ldA_siisb H67 p1 fun v68 v69 v70 v71 v72 =>
    rees_Regular k v68 v69 v70 v71 v72 H67.length H67 fun v73 H74 =>
    ldA_siisb H74 p1 fun v75 v76 v77 v78 v79 =>
    semigroupref17_Regular k v75 v76 v77 v78 v79 H74.length H74 fun v80 H81 =>
    κ' (v73 == v80) H81) H67 fun b82 H83 =>
  andB b82 (fun _ κ' => semigrouplaw17_awake k  H83.length H83 fun v84 H85 =>
    κ' v84 H85) H83 fun b86 H87 =>
  κ b86 H87 := by kernel_rfl
end Go.Ab
