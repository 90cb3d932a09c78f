/- Each label's equation. Printed. -/
import Derived.Test.YtnoickhdbinciaaRReesSimpleIr
import Derived.Test.YtnoickhdbinciaaAbA3
import Derived.KernelRfl
set_option linter.unusedVariables false
namespace Go.Ab
theorem noid_ok : noidG G = true := by kernel_rfl
theorem semigrouplaw17_awake_true {H : AH} : Ev (fun _ k κ => semigrouplaw17_awake k H.length H κ) (fun v _ => v = true) := ev_awake (k := 400) noid_ok (by kernel_rfl) H
theorem semigroupref14_Shape_eq {ρ : Type} (k : Nat) {x0 : Sl} {lo : Nat} {H : AH} {κ : Int → AH → Option ρ} : semigroupref14_Shape (k + 1) x0 lo H κ =
  bif decide ((x0.len : Int) > 400) then
    κ 3 H
  else
  bif decide ((x0.len : Int) = 0) then
    κ 4 H
  else
  semigroupref14_Shape_1 k x0 x0 (x0.len : Int) 0 lo H κ := by kernel_rfl
theorem semigroupref14_Shape_1_eq {ρ : Type} (k : Nat) {x0 : Sl} {x13 : Sl} {x14 : Int} {x15 : Int} {lo : Nat} {H : AH} {κ : Int → AH → Option ρ} : semigroupref14_Shape_1 (k + 1) x0 x13 x14 x15 lo H κ =
  bif decide (x15 < x14) then
    rdS H x13 x15 fun v1 =>
    bif !decide ((v1.len : Int) = (x0.len : Int)) then
      κ 4 H
    else
    semigroupref14_Shape_2 k x0 x13 x14 x15 v1 (v1.len : Int) 0 lo H κ
  else
  κ 0 H := by kernel_rfl
theorem semigroupref14_Shape_2_eq {ρ : Type} (k : Nat) {x0 : Sl} {x13 : Sl} {x14 : Int} {x15 : Int} {x24 : Sl} {x25 : Int} {x26 : Int} {lo : Nat} {H : AH} {κ : Int → AH → Option ρ} : semigroupref14_Shape_2 (k + 1) x0 x13 x14 x15 x24 x25 x26 lo H κ =
  bif decide (x26 < x25) then
    rdI H x24 x26 fun v1 =>
    orB (decide (v1 < 0)) (fun _ κ' => κ' (decide (v1 ≥ (x0.len : Int))) H) H fun b2 H3 =>
    bif b2 then
      κ 4 H3
    else
    semigroupref14_Shape_2 k x0 x13 x14 x15 x24 x25 (W (x26 + 1)) lo H3 κ
  else
  semigroupref14_Shape_1 k x0 x13 x14 (W (x15 + 1)) lo H κ := by kernel_rfl
theorem semigroupref14_Associative_eq {ρ : Type} (k : Nat) {x0 : Sl} {lo : Nat} {H : AH} {κ : (Int × Int × Int × Int) → AH → Option ρ} : semigroupref14_Associative (k + 1) x0 lo H κ =
  semigroupref14_Shape k x0 H.length H fun v1 H2 =>
  bif !decide (v1 = 0) then
    κ (0, 0, 0, v1) H2
  else
  semigroupref14_Associative_1 k x0 (x0.len : Int) 0 lo H2 κ := by kernel_rfl
theorem semigroupref14_Associative_1_eq {ρ : Type} (k : Nat) {x0 : Sl} {x16 : Int} {x17 : Int} {lo : Nat} {H : AH} {κ : (Int × Int × Int × Int) → AH → Option ρ} : semigroupref14_Associative_1 (k + 1) x0 x16 x17 lo H κ =
  bif decide (x17 < x16) then
    semigroupref14_Associative_2 k x0 x17 x16 x17 (x0.len : Int) 0 lo H κ
  else
  κ (0, 0, 0, 0) H := by kernel_rfl
theorem semigroupref14_Associative_2_eq {ρ : Type} (k : Nat) {x0 : Sl} {x7 : Int} {x16 : Int} {x17 : Int} {x21 : Int} {x22 : Int} {lo : Nat} {H : AH} {κ : (Int × Int × Int × Int) → AH → Option ρ} : semigroupref14_Associative_2 (k + 1) x0 x7 x16 x17 x21 x22 lo H κ =
  bif decide (x22 < x21) then
    semigroupref14_Associative_3 k x0 x7 x22 x16 x17 x21 x22 (x0.len : Int) 0 lo H κ
  else
  semigroupref14_Associative_1 k x0 x16 (W (x17 + 1)) lo H κ := by kernel_rfl
theorem semigroupref14_Associative_3_eq {ρ : Type} (k : Nat) {x0 : Sl} {x7 : Int} {x8 : Int} {x16 : Int} {x17 : Int} {x21 : Int} {x22 : Int} {x26 : Int} {x27 : Int} {lo : Nat} {H : AH} {κ : (Int × Int × Int × Int) → AH → Option ρ} : semigroupref14_Associative_3 (k + 1) x0 x7 x8 x16 x17 x21 x22 x26 x27 lo H κ =
  bif decide (x27 < x26) then
    rdS H x0 x7 fun v1 =>
    rdI H v1 x8 fun v2 =>
    rdS H x0 v2 fun v3 =>
    rdI H v3 x27 fun v4 =>
    rdS H x0 x7 fun v5 =>
    rdS H x0 x8 fun v6 =>
    rdI H v6 x27 fun v7 =>
    rdI H v5 v7 fun v8 =>
    bif !decide (v4 = v8) then
      κ (x7, x8, x27, 5) H
    else
    semigroupref14_Associative_3 k x0 x7 x8 x16 x17 x21 x22 x26 (W (x27 + 1)) lo H κ
  else
  semigroupref14_Associative_2 k x0 x7 x16 x17 x21 (W (x22 + 1)) lo H κ := by kernel_rfl
theorem semigroupref14_Validate_eq {ρ : Type} (k : Nat) {x0 : Sl} {lo : Nat} {H : AH} {κ : Int → AH → Option ρ} : semigroupref14_Validate (k + 1) x0 lo H κ =
  semigroupref14_Associative k x0 H.length H fun r1 H2 =>
  κ r1.2.2.2 H2 := by kernel_rfl
theorem semigroupref14_Valid_eq {ρ : Type} (k : Nat) {x0 : Sl} {lo : Nat} {H : AH} {κ : Bool → AH → Option ρ} : semigroupref14_Valid (k + 1) x0 lo H κ =
  semigroupref14_Validate k x0 H.length H fun v1 H2 =>
  κ (decide (v1 = 0)) H2 := by kernel_rfl
theorem semigroupref14_Identity_eq {ρ : Type} (k : Nat) {x0 : Sl} {lo : Nat} {H : AH} {κ : Int → AH → Option ρ} : semigroupref14_Identity (k + 1) x0 lo H κ =
  semigroupref14_Identity_1 k x0 (x0.len : Int) 0 lo H κ := by kernel_rfl
theorem semigroupref14_Identity_1_eq {ρ : Type} (k : Nat) {x0 : Sl} {x7 : Int} {x8 : Int} {lo : Nat} {H : AH} {κ : Int → AH → Option ρ} : semigroupref14_Identity_1 (k + 1) x0 x7 x8 lo H κ =
  bif decide (x8 < x7) then
    semigroupref14_Identity_2 k x0 x8 true x7 x8 (x0.len : Int) 0 lo H κ
  else
  κ (-1) H := by kernel_rfl
theorem semigroupref14_Identity_2_eq {ρ : Type} (k : Nat) {x0 : Sl} {x3 : Int} {x4 : Bool} {x7 : Int} {x8 : Int} {x12 : Int} {x13 : Int} {lo : Nat} {H : AH} {κ : Int → AH → Option ρ} : semigroupref14_Identity_2 (k + 1) x0 x3 x4 x7 x8 x12 x13 lo H κ =
  bif decide (x13 < x12) then
    andB x4 (fun _ κ' => rdS H x0 x3 fun v1 =>
      rdI H v1 x13 fun v2 =>
      κ' (decide (v2 = x13)) H) H fun b3 H4 =>
    andB b3 (fun _ κ' => rdS H4 x0 x13 fun v5 =>
      rdI H4 v5 x3 fun v6 =>
      κ' (decide (v6 = x13)) H4) H4 fun b7 H8 =>
    semigroupref14_Identity_2 k x0 x3 b7 x7 x8 x12 (W (x13 + 1)) lo H8 κ
  else
  bif x4 then
    κ x3 H
  else
  semigroupref14_Identity_1 k x0 x7 (W (x8 + 1)) lo H κ := by kernel_rfl
theorem semigroupref16_Inverse_eq {ρ : Type} (k : Nat) {x0 : Sl} {x1 : Int} {lo : Nat} {H : AH} {κ : Int → AH → Option ρ} : semigroupref16_Inverse (k + 1) x0 x1 lo H κ =
  semigroupref14_Identity k x0 H.length H fun v1 H2 =>
  semigroupref16_Inverse_1 k x0 x1 v1 (x0.len : Int) 0 lo H2 κ := by kernel_rfl
theorem semigroupref16_Inverse_1_eq {ρ : Type} (k : Nat) {x0 : Sl} {x1 : Int} {x5 : Int} {x10 : Int} {x11 : Int} {lo : Nat} {H : AH} {κ : Int → AH → Option ρ} : semigroupref16_Inverse_1 (k + 1) x0 x1 x5 x10 x11 lo H κ =
  bif decide (x11 < x10) then
    rdS H x0 x1 fun v1 =>
    rdI H v1 x11 fun v2 =>
    andB (decide (v2 = x5)) (fun _ κ' => rdS H x0 x11 fun v3 =>
      rdI H v3 x1 fun v4 =>
      κ' (decide (v4 = x5)) H) H fun b5 H6 =>
    bif b5 then
      κ x11 H6
    else
    semigroupref16_Inverse_1 k x0 x1 x5 x10 (W (x11 + 1)) lo H6 κ
  else
  κ (-1) H := by kernel_rfl
theorem semigroupref16_IsGroup_eq {ρ : Type} (k : Nat) {x0 : Sl} {lo : Nat} {H : AH} {κ : Bool → AH → Option ρ} : semigroupref16_IsGroup (k + 1) x0 lo H κ =
  semigroupref14_Valid k x0 H.length H fun v1 H2 =>
  orB (!v1) (fun _ κ' => semigroupref14_Identity k x0 H2.length H2 fun v3 H4 =>
    κ' (decide (v3 < 0)) H4) H2 fun b5 H6 =>
  bif b5 then
    κ false H6
  else
  semigroupref16_IsGroup_1 k x0 (x0.len : Int) 0 lo H6 κ := by kernel_rfl
theorem semigroupref16_IsGroup_1_eq {ρ : Type} (k : Nat) {x0 : Sl} {x13 : Int} {x14 : Int} {lo : Nat} {H : AH} {κ : Bool → AH → Option ρ} : semigroupref16_IsGroup_1 (k + 1) x0 x13 x14 lo H κ =
  bif decide (x14 < x13) then
    semigroupref16_Inverse k x0 x14 H.length H fun v1 H2 =>
    bif decide (v1 < 0) then
      κ false H2
    else
    semigroupref16_IsGroup_1 k x0 x13 (W (x14 + 1)) lo H2 κ
  else
  κ true H := by kernel_rfl
theorem semigroupref17_Validate_eq {ρ : Type} (k : Nat) {x0_0 : Sl} {x0_1 : Int} {x0_2 : Int} {x0_3 : Sl} {x0_4 : Bool} {lo : Nat} {H : AH} {κ : Int → AH → Option ρ} : semigroupref17_Validate (k + 1) x0_0 x0_1 x0_2 x0_3 x0_4 lo H κ =
  alc H [(.sl x0_0), (.int .i64 x0_1), (.int .i64 x0_2), (.sl x0_3), (.bool x0_4)] fun p1 H2 =>
  ldc H2 ⟨p1.b, p1.o + 0⟩ fun u3 => asS u3 fun v4 =>
  semigroupref16_IsGroup k v4 H2.length H2 fun v5 H6 =>
  orB (!v5) (fun _ κ' => ldc H6 ⟨p1.b, p1.o + 1⟩ fun u7 => asI .i64 u7 fun v8 =>
    κ' (decide (v8 < 1)) H6) H6 fun b9 H10 =>
  orB b9 (fun _ κ' => ldc H10 ⟨p1.b, p1.o + 2⟩ fun u11 => asI .i64 u11 fun v12 =>
    κ' (decide (v12 < 1)) H10) H10 fun b13 H14 =>
  orB b13 (fun _ κ' => ldc H14 ⟨p1.b, p1.o + 3⟩ fun u15 => asS u15 fun v16 =>
    ldc H14 ⟨p1.b, p1.o + 2⟩ fun u17 => asI .i64 u17 fun v18 =>
    κ' (!decide ((v16.len : Int) = v18)) H14) H14 fun b19 H20 =>
  bif b19 then
    κ 4 H20
  else
  ldc H20 ⟨p1.b, p1.o + 3⟩ fun u21 => asS u21 fun v22 =>
  semigroupref17_Validate_1 k (some p1) v22 (v22.len : Int) 0 lo H20 κ := by kernel_rfl
theorem semigroupref17_Validate_1_eq {ρ : Type} (k : Nat) {x1 : Option Pt} {x31 : Sl} {x32 : Int} {x33 : Int} {lo : Nat} {H : AH} {κ : Int → AH → Option ρ} : semigroupref17_Validate_1 (k + 1) x1 x31 x32 x33 lo H κ =
  bif decide (x33 < x32) then
    rdS H x31 x33 fun v1 =>
    asP (.ptr x1) fun p2 => 
    ldc H ⟨p2.b, p2.o + 1⟩ fun u3 => asI .i64 u3 fun v4 =>
    bif !decide ((v1.len : Int) = v4) then
      κ 4 H
    else
    semigroupref17_Validate_2 k x1 x31 x32 x33 v1 (v1.len : Int) 0 lo H κ
  else
  asP (.ptr x1) fun p5 => 
  ldc H ⟨p5.b, p5.o + 4⟩ fun u6 => asB u6 fun v7 =>
  bif v7 then
    semigroupref17_Validate_3 k x1 (W (400 - 1)) lo H κ
  else
  semigroupref17_Validate_3 k x1 400 lo H κ := by kernel_rfl
theorem semigroupref17_Validate_2_eq {ρ : Type} (k : Nat) {x1 : Option Pt} {x31 : Sl} {x32 : Int} {x33 : Int} {x42 : Sl} {x43 : Int} {x44 : Int} {lo : Nat} {H : AH} {κ : Int → AH → Option ρ} : semigroupref17_Validate_2 (k + 1) x1 x31 x32 x33 x42 x43 x44 lo H κ =
  bif decide (x44 < x43) then
    rdI H x42 x44 fun v1 =>
    orB (decide (v1 < (-1))) (fun _ κ' => asP (.ptr x1) fun p2 => 
      ldc H ⟨p2.b, p2.o + 0⟩ fun u3 => asS u3 fun v4 =>
      κ' (decide (v1 ≥ (v4.len : Int))) H) H fun b5 H6 =>
    orB b5 (fun _ κ' => andB (decide (v1 < 0)) (fun _ κ' => asP (.ptr x1) fun p7 => 
        ldc H6 ⟨p7.b, p7.o + 4⟩ fun u8 => asB u8 fun v9 =>
        κ' (!v9) H6) H6 fun b10 H11 =>
      κ' b10 H11) H6 fun b12 H13 =>
    bif b12 then
      κ 4 H13
    else
    semigroupref17_Validate_2 k x1 x31 x32 x33 x42 x43 (W (x44 + 1)) lo H13 κ
  else
  semigroupref17_Validate_1 k x1 x31 x32 (W (x33 + 1)) lo H κ := by kernel_rfl
theorem semigroupref17_Validate_3_eq {ρ : Type} (k : Nat) {x1 : Option Pt} {x7 : Int} {lo : Nat} {H : AH} {κ : Int → AH → Option ρ} : semigroupref17_Validate_3 (k + 1) x1 x7 lo H κ =
  asP (.ptr x1) fun p1 => 
  ldc H ⟨p1.b, p1.o + 1⟩ fun u2 => asI .i64 u2 fun v3 =>
  asP (.ptr x1) fun p4 => 
  ldc H ⟨p4.b, p4.o + 0⟩ fun u5 => asS u5 fun v6 =>
  bif decide ((v6.len : Int) = 0) then none else
  orB (decide (v3 > (W (Int.tdiv x7 (v6.len : Int))))) (fun _ κ' => asP (.ptr x1) fun p7 => 
    ldc H ⟨p7.b, p7.o + 1⟩ fun u8 => asI .i64 u8 fun v9 =>
    asP (.ptr x1) fun p10 => 
    ldc H ⟨p10.b, p10.o + 0⟩ fun u11 => asS u11 fun v12 =>
    asP (.ptr x1) fun p13 => 
    ldc H ⟨p13.b, p13.o + 2⟩ fun u14 => asI .i64 u14 fun v15 =>
    bif decide (v15 = 0) then none else
    κ' (decide ((W (v9 * (v12.len : Int))) > (W (Int.tdiv x7 v15)))) H) H fun b16 H17 =>
  bif b16 then
    κ 3 H17
  else
  κ 0 H17 := by kernel_rfl
theorem semigroupref17_base_eq {ρ : Type} (k : Nat) {x0_0 : Sl} {x0_1 : Int} {x0_2 : Int} {x0_3 : Sl} {x0_4 : Bool} {lo : Nat} {H : AH} {κ : Int → AH → Option ρ} : semigroupref17_base (k + 1) x0_0 x0_1 x0_2 x0_3 x0_4 lo H κ =
  alc H [(.sl x0_0), (.int .i64 x0_1), (.int .i64 x0_2), (.sl x0_3), (.bool x0_4)] fun p1 H2 =>
  ldc H2 ⟨p1.b, p1.o + 4⟩ fun u3 => asB u3 fun v4 =>
  bif v4 then
    κ 1 H2
  else
  κ 0 H2 := by kernel_rfl
theorem semigroupref17_Size_eq {ρ : Type} (k : Nat) {x0_0 : Sl} {x0_1 : Int} {x0_2 : Int} {x0_3 : Sl} {x0_4 : Bool} {lo : Nat} {H : AH} {κ : Int → AH → Option ρ} : semigroupref17_Size (k + 1) x0_0 x0_1 x0_2 x0_3 x0_4 lo H κ =
  alc H [(.sl x0_0), (.int .i64 x0_1), (.int .i64 x0_2), (.sl x0_3), (.bool x0_4)] fun p1 H2 =>
  ldc H2 ⟨p1.b, p1.o + 1⟩ fun u3 => asI .i64 u3 fun v4 =>
  ldc H2 ⟨p1.b, p1.o + 0⟩ fun u5 => asS u5 fun v6 =>
  ldc H2 ⟨p1.b, p1.o + 2⟩ fun u7 => asI .i64 u7 fun v8 =>
  ldA_siisb H2 p1 fun v9 v10 v11 v12 v13 =>
  semigroupref17_base k v9 v10 v11 v12 v13 H2.length H2 fun v14 H15 =>
  κ (W ((W ((W (v4 * (v6.len : Int))) * v8)) + v14)) H15 := by kernel_rfl
theorem semigrouplaw17_brandt_eq {ρ : Type} (k : Nat) {lo : Nat} {H : AH} {κ : (Sl × Int × Int × Sl × Bool) → AH → Option ρ} : semigrouplaw17_brandt (k + 1) lo H κ =
  alc H [(.sl ⟨none, 0⟩), (.int .i64 0), (.int .i64 0), (.sl ⟨none, 0⟩), (.bool false)] fun p1 H2 =>
  mkb H2 [(.int .i64 0)] 1 1 fun s3 H4 =>
  mkb H4 [(.sl s3)] 1 1 fun s5 H6 =>
  mkb H6 [(.int .i64 0), (.int .i64 (-1))] 1 2 fun s7 H8 =>
  mkb H8 [(.int .i64 (-1)), (.int .i64 0)] 1 2 fun s9 H10 =>
  mkb H10 [(.sl s7), (.sl s9)] 1 2 fun s11 H12 =>
  stn lo H12 p1 [(.sl s5), (.int .i64 2), (.int .i64 2), (.sl s11), (.bool true)] fun H13 =>
  ldA_siisb H13 p1 fun v14 v15 v16 v17 v18 => κ (v14, v15, v16, v17, v18) H13 := by kernel_rfl
theorem mult_shape_eq {ρ : Type} (k : Nat) {x0 : Sl} {lo : Nat} {H : AH} {κ : Int → AH → Option ρ} : mult_shape (k + 1) x0 lo H κ =
  bif decide ((x0.len : Int) > 400) then
    κ 3 H
  else
  bif decide ((x0.len : Int) = 0) then
    κ 4 H
  else
  mult_shape_1 k x0 x0 (x0.len : Int) 0 lo H κ := by kernel_rfl
theorem mult_shape_1_eq {ρ : Type} (k : Nat) {x0 : Sl} {x15 : Sl} {x16 : Int} {x17 : Int} {lo : Nat} {H : AH} {κ : Int → AH → Option ρ} : mult_shape_1 (k + 1) x0 x15 x16 x17 lo H κ =
  bif decide (x17 < x16) then
    rdS H x15 x17 fun v1 =>
    bif !decide ((v1.len : Int) = (x0.len : Int)) then
      κ 4 H
    else
    mult_shape_2 k x0 x15 x16 x17 v1 (v1.len : Int) 0 lo H κ
  else
  κ 0 H := by kernel_rfl
theorem mult_shape_2_eq {ρ : Type} (k : Nat) {x0 : Sl} {x15 : Sl} {x16 : Int} {x17 : Int} {x26 : Sl} {x27 : Int} {x28 : Int} {lo : Nat} {H : AH} {κ : Int → AH → Option ρ} : mult_shape_2 (k + 1) x0 x15 x16 x17 x26 x27 x28 lo H κ =
  bif decide (x28 < x27) then
    rdI H x26 x28 fun v1 =>
    orB (decide (v1 < 0)) (fun _ κ' => κ' (decide (v1 ≥ (x0.len : Int))) H) H fun b2 H3 =>
    bif b2 then
      κ 4 H3
    else
    mult_shape_2 k x0 x15 x16 x17 x26 x27 (W (x28 + 1)) lo H3 κ
  else
  mult_shape_1 k x0 x15 x16 (W (x17 + 1)) lo H κ := by kernel_rfl
theorem mult_failing_eq {ρ : Type} (k : Nat) {x0 : Sl} {lo : Nat} {H : AH} {κ : (Int × Int × Int × Bool) → AH → Option ρ} : mult_failing (k + 1) x0 lo H κ =
  mult_failing_1 k x0 (x0.len : Int) 0 lo H κ := by kernel_rfl
theorem mult_failing_1_eq {ρ : Type} (k : Nat) {x0 : Sl} {x10 : Int} {x11 : Int} {lo : Nat} {H : AH} {κ : (Int × Int × Int × Bool) → AH → Option ρ} : mult_failing_1 (k + 1) x0 x10 x11 lo H κ =
  bif decide (x11 < x10) then
    mult_failing_2 k x0 x11 x10 x11 (x0.len : Int) 0 lo H κ
  else
  κ (0, 0, 0, false) H := by kernel_rfl
theorem mult_failing_2_eq {ρ : Type} (k : Nat) {x0 : Sl} {x6 : Int} {x10 : Int} {x11 : Int} {x15 : Int} {x16 : Int} {lo : Nat} {H : AH} {κ : (Int × Int × Int × Bool) → AH → Option ρ} : mult_failing_2 (k + 1) x0 x6 x10 x11 x15 x16 lo H κ =
  bif decide (x16 < x15) then
    mult_failing_3 k x0 x6 x16 x10 x11 x15 x16 (x0.len : Int) 0 lo H κ
  else
  mult_failing_1 k x0 x10 (W (x11 + 1)) lo H κ := by kernel_rfl
theorem mult_failing_3_eq {ρ : Type} (k : Nat) {x0 : Sl} {x6 : Int} {x7 : Int} {x10 : Int} {x11 : Int} {x15 : Int} {x16 : Int} {x20 : Int} {x21 : Int} {lo : Nat} {H : AH} {κ : (Int × Int × Int × Bool) → AH → Option ρ} : mult_failing_3 (k + 1) x0 x6 x7 x10 x11 x15 x16 x20 x21 lo H κ =
  bif decide (x21 < x20) then
    rdS H x0 x6 fun v1 =>
    rdI H v1 x7 fun v2 =>
    rdS H x0 v2 fun v3 =>
    rdI H v3 x21 fun v4 =>
    rdS H x0 x6 fun v5 =>
    rdS H x0 x7 fun v6 =>
    rdI H v6 x21 fun v7 =>
    rdI H v5 v7 fun v8 =>
    bif !decide (v4 = v8) then
      κ (x6, x7, x21, true) H
    else
    mult_failing_3 k x0 x6 x7 x10 x11 x15 x16 x20 (W (x21 + 1)) lo H κ
  else
  mult_failing_2 k x0 x6 x10 x11 x15 (W (x16 + 1)) lo H κ := by kernel_rfl
theorem mult_Validate_eq {ρ : Type} (k : Nat) {x0 : Sl} {lo : Nat} {H : AH} {κ : Int → AH → Option ρ} : mult_Validate (k + 1) x0 lo H κ =
  mult_shape k x0 H.length H fun v1 H2 =>
  bif !decide (v1 = 0) then
    κ v1 H2
  else
  mult_failing k x0 H2.length H2 fun r3 H4 =>
  bif r3.2.2.2 then
    κ 5 H4
  else
  κ 0 H4 := by kernel_rfl
theorem group_inverses_eq {ρ : Type} (k : Nat) {x0 : Sl} {lo : Nat} {H : AH} {κ : (Int × Sl × Bool) → AH → Option ρ} : group_inverses (k + 1) x0 lo H κ =
  group_inverses_1 k x0 (-1) (x0.len : Int) 0 lo H κ := by kernel_rfl
theorem group_inverses_1_eq {ρ : Type} (k : Nat) {x0 : Sl} {x5 : Int} {x13 : Int} {x14 : Int} {lo : Nat} {H : AH} {κ : (Int × Sl × Bool) → AH → Option ρ} : group_inverses_1 (k + 1) x0 x5 x13 x14 lo H κ =
  bif decide (x14 < x13) then
    group_inverses_2 k x0 x5 x14 true x13 x14 (x0.len : Int) 0 lo H κ
  else
  group_inverses_3 k x0 x5 lo H κ := by kernel_rfl
theorem group_inverses_2_eq {ρ : Type} (k : Nat) {x0 : Sl} {x5 : Int} {x6 : Int} {x7 : Bool} {x13 : Int} {x14 : Int} {x18 : Int} {x19 : Int} {lo : Nat} {H : AH} {κ : (Int × Sl × Bool) → AH → Option ρ} : group_inverses_2 (k + 1) x0 x5 x6 x7 x13 x14 x18 x19 lo H κ =
  bif decide (x19 < x18) then
    andB x7 (fun _ κ' => rdS H x0 x6 fun v1 =>
      rdI H v1 x19 fun v2 =>
      κ' (decide (v2 = x19)) H) H fun b3 H4 =>
    andB b3 (fun _ κ' => rdS H4 x0 x19 fun v5 =>
      rdI H4 v5 x6 fun v6 =>
      κ' (decide (v6 = x19)) H4) H4 fun b7 H8 =>
    group_inverses_2 k x0 x5 x6 b7 x13 x14 x18 (W (x19 + 1)) lo H8 κ
  else
  bif x7 then
    group_inverses_3 k x0 x6 lo H κ
  else
  group_inverses_1 k x0 x5 x13 (W (x14 + 1)) lo H κ := by kernel_rfl
theorem group_inverses_3_eq {ρ : Type} (k : Nat) {x0 : Sl} {x5 : Int} {lo : Nat} {H : AH} {κ : (Int × Sl × Bool) → AH → Option ρ} : group_inverses_3 (k + 1) x0 x5 lo H κ =
  bif decide (x5 < 0) then
    κ (0, ⟨none, 0⟩, false) H
  else
  mks H [(.int .i64 0)] 8 (x0.len : Int) (x0.len : Int) fun s1 H2 =>
  group_inverses_4 k x0 x5 s1 (x0.len : Int) 0 lo H2 κ := by kernel_rfl
theorem group_inverses_4_eq {ρ : Type} (k : Nat) {x0 : Sl} {x5 : Int} {x9 : Sl} {x55 : Int} {x56 : Int} {lo : Nat} {H : AH} {κ : (Int × Sl × Bool) → AH → Option ρ} : group_inverses_4 (k + 1) x0 x5 x9 x55 x56 lo H κ =
  bif decide (x56 < x55) then
    idx x9 x56 1 fun p1 =>
    stc lo H p1 (.int .i64 (-1)) fun H2 =>
    group_inverses_5 k x0 x5 x9 x56 x55 x56 (x0.len : Int) 0 lo H2 κ
  else
  κ (x5, x9, true) H := by kernel_rfl
theorem group_inverses_5_eq {ρ : Type} (k : Nat) {x0 : Sl} {x5 : Int} {x9 : Sl} {x10 : Int} {x55 : Int} {x56 : Int} {x63 : Int} {x64 : Int} {lo : Nat} {H : AH} {κ : (Int × Sl × Bool) → AH → Option ρ} : group_inverses_5 (k + 1) x0 x5 x9 x10 x55 x56 x63 x64 lo H κ =
  bif decide (x64 < x63) then
    rdS H x0 x10 fun v1 =>
    rdI H v1 x64 fun v2 =>
    andB (decide (v2 = x5)) (fun _ κ' => rdS H x0 x64 fun v3 =>
      rdI H v3 x10 fun v4 =>
      κ' (decide (v4 = x5)) H) H fun b5 H6 =>
    bif b5 then
      idx x9 x10 1 fun p7 =>
      stc lo H6 p7 (.int .i64 x64) fun H8 =>
      group_inverses_6 k x0 x5 x9 x10 x55 x56 x63 x64 lo H8 κ
    else
    group_inverses_6 k x0 x5 x9 x10 x55 x56 x63 x64 lo H6 κ
  else
  rdI H x9 x10 fun v9 =>
  bif decide (v9 < 0) then
    κ (0, ⟨none, 0⟩, false) H
  else
  group_inverses_4 k x0 x5 x9 x55 (W (x56 + 1)) lo H κ := by kernel_rfl
theorem group_inverses_6_eq {ρ : Type} (k : Nat) {x0 : Sl} {x5 : Int} {x9 : Sl} {x10 : Int} {x55 : Int} {x56 : Int} {x63 : Int} {x64 : Int} {lo : Nat} {H : AH} {κ : (Int × Sl × Bool) → AH → Option ρ} : group_inverses_6 (k + 1) x0 x5 x9 x10 x55 x56 x63 x64 lo H κ =
  group_inverses_5 k x0 x5 x9 x10 x55 x56 x63 (W (x64 + 1)) lo H κ := by kernel_rfl
theorem group_of_eq {ρ : Type} (k : Nat) {x0 : Sl} {lo : Nat} {H : AH} {κ : (Sl × Int × Sl × Bool) → AH → Option ρ} : group_of (k + 1) x0 lo H κ =
  alc H [(.sl ⟨none, 0⟩), (.int .i64 0), (.sl ⟨none, 0⟩)] fun p1 H2 =>
  mult_Validate k x0 H2.length H2 fun v3 H4 =>
  bif !decide (v3 = 0) then
    stn lo H4 p1 [(.sl ⟨none, 0⟩), (.int .i64 0), (.sl ⟨none, 0⟩)] fun H5 =>
    ldA_sis H5 p1 fun v6 v7 v8 => κ (v6, v7, v8, false) H5
  else
  group_inverses k x0 H4.length H4 fun r9 H10 =>
  stn lo H10 p1 [(.sl x0), (.int .i64 r9.1), (.sl r9.2.1)] fun H11 =>
  ldA_sis H11 p1 fun v12 v13 v14 => κ (v12, v13, v14, r9.2.2) H11 := by kernel_rfl
theorem group_IsGroup_eq {ρ : Type} (k : Nat) {x0 : Sl} {lo : Nat} {H : AH} {κ : Bool → AH → Option ρ} : group_IsGroup (k + 1) x0 lo H κ =
  group_of k x0 H.length H fun r1 H2 =>
  alc H2 [(.sl ⟨none, 0⟩), (.int .i64 0), (.sl ⟨none, 0⟩)] fun p3 H4 =>
  stn lo H4 p3 [(.sl r1.1), (.int .i64 r1.2.1), (.sl r1.2.2.1)] fun H5 =>
  κ r1.2.2.2 H5 := by kernel_rfl
theorem rees_zero_eq {ρ : Type} (k : Nat) {x0_0 : Sl} {x0_1 : Int} {x0_2 : Int} {x0_3 : Sl} {x0_4 : Bool} {lo : Nat} {H : AH} {κ : Int → AH → Option ρ} : rees_zero (k + 1) x0_0 x0_1 x0_2 x0_3 x0_4 lo H κ =
  alc H [(.sl x0_0), (.int .i64 x0_1), (.int .i64 x0_2), (.sl x0_3), (.bool x0_4)] fun p1 H2 =>
  ldc H2 ⟨p1.b, p1.o + 4⟩ fun u3 => asB u3 fun v4 =>
  bif v4 then
    κ 1 H2
  else
  κ 0 H2 := by kernel_rfl
theorem rees_size_eq {ρ : Type} (k : Nat) {x0_0 : Sl} {x0_1 : Int} {x0_2 : Int} {x0_3 : Sl} {x0_4 : Bool} {lo : Nat} {H : AH} {κ : Int → AH → Option ρ} : rees_size (k + 1) x0_0 x0_1 x0_2 x0_3 x0_4 lo H κ =
  alc H [(.sl x0_0), (.int .i64 x0_1), (.int .i64 x0_2), (.sl x0_3), (.bool x0_4)] fun p1 H2 =>
  ldc H2 ⟨p1.b, p1.o + 1⟩ fun u3 => asI .i64 u3 fun v4 =>
  orB (decide (v4 > 400)) (fun _ κ' => ldc H2 ⟨p1.b, p1.o + 2⟩ fun u5 => asI .i64 u5 fun v6 =>
    κ' (decide (v6 > 400)) H2) H2 fun b7 H8 =>
  bif b7 then
    κ 401 H8
  else
  ldc H8 ⟨p1.b, p1.o + 1⟩ fun u9 => asI .i64 u9 fun v10 =>
  ldc H8 ⟨p1.b, p1.o + 2⟩ fun u11 => asI .i64 u11 fun v12 =>
  ldc H8 ⟨p1.b, p1.o + 0⟩ fun u13 => asS u13 fun v14 =>
  ldA_siisb H8 p1 fun v15 v16 v17 v18 v19 =>
  rees_zero k v15 v16 v17 v18 v19 H8.length H8 fun v20 H21 =>
  κ (W ((W ((W (v10 * v12)) * (v14.len : Int))) + v20)) H21 := by kernel_rfl
theorem rees_Validate_eq {ρ : Type} (k : Nat) {x0_0 : Sl} {x0_1 : Int} {x0_2 : Int} {x0_3 : Sl} {x0_4 : Bool} {lo : Nat} {H : AH} {κ : Int → AH → Option ρ} : rees_Validate (k + 1) x0_0 x0_1 x0_2 x0_3 x0_4 lo H κ =
  alc H [(.sl x0_0), (.int .i64 x0_1), (.int .i64 x0_2), (.sl x0_3), (.bool x0_4)] fun p1 H2 =>
  ldc H2 ⟨p1.b, p1.o + 0⟩ fun u3 => asS u3 fun v4 =>
  group_IsGroup k v4 H2.length H2 fun v5 H6 =>
  orB (!v5) (fun _ κ' => ldc H6 ⟨p1.b, p1.o + 1⟩ fun u7 => asI .i64 u7 fun v8 =>
    κ' (decide (v8 < 1)) H6) H6 fun b9 H10 =>
  orB b9 (fun _ κ' => ldc H10 ⟨p1.b, p1.o + 2⟩ fun u11 => asI .i64 u11 fun v12 =>
    κ' (decide (v12 < 1)) H10) H10 fun b13 H14 =>
  orB b13 (fun _ κ' => ldc H14 ⟨p1.b, p1.o + 3⟩ fun u15 => asS u15 fun v16 =>
    ldc H14 ⟨p1.b, p1.o + 2⟩ fun u17 => asI .i64 u17 fun v18 =>
    κ' (!decide ((v16.len : Int) = v18)) H14) H14 fun b19 H20 =>
  bif b19 then
    κ 4 H20
  else
  ldc H20 ⟨p1.b, p1.o + 3⟩ fun u21 => asS u21 fun v22 =>
  rees_Validate_1 k (some p1) v22 (v22.len : Int) 0 lo H20 κ := by kernel_rfl
theorem rees_Validate_1_eq {ρ : Type} (k : Nat) {x1 : Option Pt} {x30 : Sl} {x31 : Int} {x32 : Int} {lo : Nat} {H : AH} {κ : Int → AH → Option ρ} : rees_Validate_1 (k + 1) x1 x30 x31 x32 lo H κ =
  bif decide (x32 < x31) then
    rdS H x30 x32 fun v1 =>
    asP (.ptr x1) fun p2 => 
    ldc H ⟨p2.b, p2.o + 1⟩ fun u3 => asI .i64 u3 fun v4 =>
    bif !decide ((v1.len : Int) = v4) then
      κ 4 H
    else
    rees_Validate_2 k x1 x30 x31 x32 v1 (v1.len : Int) 0 lo H κ
  else
  asP (.ptr x1) fun p5 => ldA_siisb H p5 fun v6 v7 v8 v9 v10 =>
  rees_size k v6 v7 v8 v9 v10 H.length H fun v11 H12 =>
  bif decide (v11 > 400) then
    κ 3 H12
  else
  κ 0 H12 := by kernel_rfl
theorem rees_Validate_2_eq {ρ : Type} (k : Nat) {x1 : Option Pt} {x30 : Sl} {x31 : Int} {x32 : Int} {x41 : Sl} {x42 : Int} {x43 : Int} {lo : Nat} {H : AH} {κ : Int → AH → Option ρ} : rees_Validate_2 (k + 1) x1 x30 x31 x32 x41 x42 x43 lo H κ =
  bif decide (x43 < x42) then
    rdI H x41 x43 fun v1 =>
    orB (decide (v1 < (-1))) (fun _ κ' => asP (.ptr x1) fun p2 => 
      ldc H ⟨p2.b, p2.o + 0⟩ fun u3 => asS u3 fun v4 =>
      κ' (decide (v1 ≥ (v4.len : Int))) H) H fun b5 H6 =>
    orB b5 (fun _ κ' => andB (decide (v1 < 0)) (fun _ κ' => asP (.ptr x1) fun p7 => 
        ldc H6 ⟨p7.b, p7.o + 4⟩ fun u8 => asB u8 fun v9 =>
        κ' (!v9) H6) H6 fun b10 H11 =>
      κ' b10 H11) H6 fun b12 H13 =>
    bif b12 then
      κ 4 H13
    else
    rees_Validate_2 k x1 x30 x31 x32 x41 x42 (W (x43 + 1)) lo H13 κ
  else
  rees_Validate_1 k x1 x30 x31 (W (x32 + 1)) lo H κ := by kernel_rfl
theorem rees_number_eq {ρ : Type} (k : Nat) {x0_0 : Sl} {x0_1 : Int} {x0_2 : Int} {x0_3 : Sl} {x0_4 : Bool} {x1 : Int} {x2 : Int} {x3 : Int} {lo : Nat} {H : AH} {κ : Int → AH → Option ρ} : rees_number (k + 1) x0_0 x0_1 x0_2 x0_3 x0_4 x1 x2 x3 lo H κ =
  alc H [(.sl x0_0), (.int .i64 x0_1), (.int .i64 x0_2), (.sl x0_3), (.bool x0_4)] fun p1 H2 =>
  ldc H2 ⟨p1.b, p1.o + 0⟩ fun u3 => asS u3 fun v4 =>
  ldc H2 ⟨p1.b, p1.o + 2⟩ fun u5 => asI .i64 u5 fun v6 =>
  ldA_siisb H2 p1 fun v7 v8 v9 v10 v11 =>
  rees_zero k v7 v8 v9 v10 v11 H2.length H2 fun v12 H13 =>
  κ (W ((W ((W ((W ((W (x1 * (v4.len : Int))) + x2)) * v6)) + x3)) + v12)) H13 := by kernel_rfl
theorem rees_mul_eq {ρ : Type} (k : Nat) {x0_0 : Sl} {x0_1 : Int} {x0_2 : Int} {x0_3 : Sl} {x0_4 : Bool} {x1 : Int} {x2 : Int} {lo : Nat} {H : AH} {κ : Int → AH → Option ρ} : rees_mul (k + 1) x0_0 x0_1 x0_2 x0_3 x0_4 x1 x2 lo H κ =
  alc H [(.sl x0_0), (.int .i64 x0_1), (.int .i64 x0_2), (.sl x0_3), (.bool x0_4)] fun p1 H2 =>
  ldA_siisb H2 p1 fun v3 v4 v5 v6 v7 =>
  rees_zero k v3 v4 v5 v6 v7 H2.length H2 fun v8 H9 =>
  andB (decide (v8 = 1)) (fun _ κ' => orB (decide (x1 = 0)) (fun _ κ' => κ' (decide (x2 = 0)) H9) H9 fun b10 H11 =>
    κ' b10 H11) H9 fun b12 H13 =>
  bif b12 then
    κ 0 H13
  else
  ldc H13 ⟨p1.b, p1.o + 2⟩ fun u14 => asI .i64 u14 fun v15 =>
  bif decide (v15 = 0) then none else
  ldc H13 ⟨p1.b, p1.o + 2⟩ fun u16 => asI .i64 u16 fun v17 =>
  bif decide (v17 = 0) then none else
  ldc H13 ⟨p1.b, p1.o + 2⟩ fun u18 => asI .i64 u18 fun v19 =>
  bif decide (v19 = 0) then none else
  ldc H13 ⟨p1.b, p1.o + 0⟩ fun u20 => asS u20 fun v21 =>
  bif decide ((v21.len : Int) = 0) then none else
  ldc H13 ⟨p1.b, p1.o + 2⟩ fun u22 => asI .i64 u22 fun v23 =>
  bif decide (v23 = 0) then none else
  ldc H13 ⟨p1.b, p1.o + 0⟩ fun u24 => asS u24 fun v25 =>
  bif decide ((v25.len : Int) = 0) then none else
  ldc H13 ⟨p1.b, p1.o + 2⟩ fun u26 => asI .i64 u26 fun v27 =>
  bif decide (v27 = 0) then none else
  ldc H13 ⟨p1.b, p1.o + 0⟩ fun u28 => asS u28 fun v29 =>
  bif decide ((v29.len : Int) = 0) then none else
  ldc H13 ⟨p1.b, p1.o + 2⟩ fun u30 => asI .i64 u30 fun v31 =>
  bif decide (v31 = 0) then none else
  ldc H13 ⟨p1.b, p1.o + 0⟩ fun u32 => asS u32 fun v33 =>
  bif decide ((v33.len : Int) = 0) then none else
  ldc H13 ⟨p1.b, p1.o + 3⟩ fun u34 => asS u34 fun v35 =>
  rdS H13 v35 (Int.tmod (W (x1 - v8)) v15) fun v36 =>
  rdI H13 v36 (W (Int.tdiv (W (Int.tdiv (W (x2 - v8)) v31)) (v33.len : Int))) fun v37 =>
  bif decide (v37 < 0) then
    κ 0 H13
  else
  ldA_siisb H13 p1 fun v38 v39 v40 v41 v42 =>
  ldc H13 ⟨p1.b, p1.o + 0⟩ fun u43 => asS u43 fun v44 =>
  ldc H13 ⟨p1.b, p1.o + 0⟩ fun u45 => asS u45 fun v46 =>
  rdS H13 v46 (Int.tmod (W (Int.tdiv (W (x1 - v8)) v19)) (v21.len : Int)) fun v47 =>
  rdI H13 v47 v37 fun v48 =>
  rdS H13 v44 v48 fun v49 =>
  rdI H13 v49 (Int.tmod (W (Int.tdiv (W (x2 - v8)) v23)) (v25.len : Int)) fun v50 =>
  rees_number k v38 v39 v40 v41 v42 (W (Int.tdiv (W (Int.tdiv (W (x1 - v8)) v27)) (v29.len : Int))) v50 (Int.tmod (W (x2 - v8)) v17) H13.length H13 fun v51 H52 =>
  κ v51 H52 := by kernel_rfl
theorem rees_Table_eq {ρ : Type} (k : Nat) {x0_0 : Sl} {x0_1 : Int} {x0_2 : Int} {x0_3 : Sl} {x0_4 : Bool} {lo : Nat} {H : AH} {κ : (Sl × Int) → AH → Option ρ} : rees_Table (k + 1) x0_0 x0_1 x0_2 x0_3 x0_4 lo H κ =
  alc H [(.sl x0_0), (.int .i64 x0_1), (.int .i64 x0_2), (.sl x0_3), (.bool x0_4)] fun p1 H2 =>
  ldA_siisb H2 p1 fun v3 v4 v5 v6 v7 =>
  rees_Validate k v3 v4 v5 v6 v7 H2.length H2 fun v8 H9 =>
  bif !decide (v8 = 0) then
    κ (⟨none, 0⟩, v8) H9
  else
  ldA_siisb H9 p1 fun v10 v11 v12 v13 v14 =>
  rees_size k v10 v11 v12 v13 v14 H9.length H9 fun v15 H16 =>
  mks H16 [(.sl ⟨none, 0⟩)] 24 v15 v15 fun s17 H18 =>
  rees_Table_1 k (some p1) s17 (s17.len : Int) 0 lo H18 κ := by kernel_rfl
theorem rees_Table_1_eq {ρ : Type} (k : Nat) {x1 : Option Pt} {x5 : Sl} {x17 : Int} {x18 : Int} {lo : Nat} {H : AH} {κ : (Sl × Int) → AH → Option ρ} : rees_Table_1 (k + 1) x1 x5 x17 x18 lo H κ =
  bif decide (x18 < x17) then
    mks H [(.int .i64 0)] 8 (x5.len : Int) (x5.len : Int) fun s1 H2 =>
    idx x5 x18 1 fun p3 =>
    stc lo H2 p3 (.sl s1) fun H4 =>
    rees_Table_2 k x1 x5 x18 x17 x18 (x5.len : Int) 0 lo H4 κ
  else
  κ (x5, 0) H := by kernel_rfl
theorem rees_Table_2_eq {ρ : Type} (k : Nat) {x1 : Option Pt} {x5 : Sl} {x6 : Int} {x17 : Int} {x18 : Int} {x28 : Int} {x29 : Int} {lo : Nat} {H : AH} {κ : (Sl × Int) → AH → Option ρ} : rees_Table_2 (k + 1) x1 x5 x6 x17 x18 x28 x29 lo H κ =
  bif decide (x29 < x28) then
    rdS H x5 x6 fun v1 =>
    asP (.ptr x1) fun p2 => ldA_siisb H p2 fun v3 v4 v5 v6 v7 =>
    rees_mul k v3 v4 v5 v6 v7 x6 x29 H.length H fun v8 H9 =>
    idx v1 x29 1 fun p10 =>
    stc lo H9 p10 (.int .i64 v8) fun H11 =>
    rees_Table_2 k x1 x5 x6 x17 x18 x28 (W (x29 + 1)) lo H11 κ
  else
  rees_Table_1 k x1 x5 x17 (W (x18 + 1)) lo H κ := by kernel_rfl
theorem rees_Regular_eq {ρ : Type} (k : Nat) {x0_0 : Sl} {x0_1 : Int} {x0_2 : Int} {x0_3 : Sl} {x0_4 : Bool} {lo : Nat} {H : AH} {κ : Bool → AH → Option ρ} : rees_Regular (k + 1) x0_0 x0_1 x0_2 x0_3 x0_4 lo H κ =
  alc H [(.sl x0_0), (.int .i64 x0_1), (.int .i64 x0_2), (.sl x0_3), (.bool x0_4)] fun p1 H2 =>
  ldA_siisb H2 p1 fun v3 v4 v5 v6 v7 =>
  rees_Validate k v3 v4 v5 v6 v7 H2.length H2 fun v8 H9 =>
  bif !decide (v8 = 0) then
    κ false H9
  else
  ldc H9 ⟨p1.b, p1.o + 1⟩ fun u10 => asI .i64 u10 fun v11 =>
  mks H9 [(.bool false)] 1 v11 v11 fun s12 H13 =>
  ldc H13 ⟨p1.b, p1.o + 2⟩ fun u14 => asI .i64 u14 fun v15 =>
  mks H13 [(.bool false)] 1 v15 v15 fun s16 H17 =>
  ldc H17 ⟨p1.b, p1.o + 3⟩ fun u18 => asS u18 fun v19 =>
  rees_Regular_1 k (some p1) s12 s16 (v19.len : Int) 0 lo H17 κ := by kernel_rfl
theorem rees_Regular_1_eq {ρ : Type} (k : Nat) {x1 : Option Pt} {x3 : Sl} {x4 : Sl} {x21 : Int} {x22 : Int} {lo : Nat} {H : AH} {κ : Bool → AH → Option ρ} : rees_Regular_1 (k + 1) x1 x3 x4 x21 x22 lo H κ =
  bif decide (x22 < x21) then
    asP (.ptr x1) fun p1 => 
    ldc H ⟨p1.b, p1.o + 3⟩ fun u2 => asS u2 fun v3 =>
    rdS H v3 x22 fun v4 =>
    rees_Regular_2 k x1 x3 x4 x22 x21 x22 v4 (v4.len : Int) 0 lo H κ
  else
  appS lo H x3 x4 1 1 fun s5 H6 =>
  rees_Regular_3 k s5 (s5.len : Int) 0 lo H6 κ := by kernel_rfl
theorem rees_Regular_2_eq {ρ : Type} (k : Nat) {x1 : Option Pt} {x3 : Sl} {x4 : Sl} {x5 : Int} {x21 : Int} {x22 : Int} {x29 : Sl} {x30 : Int} {x31 : Int} {lo : Nat} {H : AH} {κ : Bool → AH → Option ρ} : rees_Regular_2 (k + 1) x1 x3 x4 x5 x21 x22 x29 x30 x31 lo H κ =
  bif decide (x31 < x30) then
    rdI H x29 x31 fun v1 =>
    rdB H x3 x31 fun v2 =>
    orB v2 (fun _ κ' => κ' (decide (v1 ≥ 0)) H) H fun b3 H4 =>
    idx x3 x31 1 fun p5 =>
    stc lo H4 p5 (.bool b3) fun H6 =>
    rdB H6 x4 x5 fun v7 =>
    orB v7 (fun _ κ' => κ' (decide (v1 ≥ 0)) H6) H6 fun b8 H9 =>
    idx x4 x5 1 fun p10 =>
    stc lo H9 p10 (.bool b8) fun H11 =>
    rees_Regular_2 k x1 x3 x4 x5 x21 x22 x29 x30 (W (x31 + 1)) lo H11 κ
  else
  rees_Regular_1 k x1 x3 x4 x21 (W (x22 + 1)) lo H κ := by kernel_rfl
theorem rees_Regular_3_eq {ρ : Type} (k : Nat) {x62 : Sl} {x63 : Int} {x64 : Int} {lo : Nat} {H : AH} {κ : Bool → AH → Option ρ} : rees_Regular_3 (k + 1) x62 x63 x64 lo H κ =
  bif decide (x64 < x63) then
    rdB H x62 x64 fun v1 =>
    bif !v1 then
      κ false H
    else
    rees_Regular_3 k x62 x63 (W (x64 + 1)) lo H κ
  else
  κ true H := by kernel_rfl
theorem semigrouplaw17_awake_eq {ρ : Type} (k : Nat) {lo : Nat} {H : AH} {κ : Bool → AH → Option ρ} : semigrouplaw17_awake (k + 1) lo H κ =
  semigrouplaw17_brandt k  H.length H fun r1 H2 =>
  rees_Table k r1.1 r1.2.1 r1.2.2.1 r1.2.2.2.1 r1.2.2.2.2 H2.length H2 fun r3 H4 =>
  andB (decide (r3.2 = 0)) (fun _ κ' => κ' (decide ((r3.1.len : Int) = 5)) H4) H4 fun b5 H6 =>
  andB b5 (fun _ κ' => semigrouplaw17_brandt k  H6.length H6 fun r7 H8 =>
    rees_Regular k r7.1 r7.2.1 r7.2.2.1 r7.2.2.2.1 r7.2.2.2.2 H8.length H8 fun v9 H10 =>
    κ' v9 H10) H6 fun b11 H12 =>
  andB b11 (fun _ κ' => rdS H12 r3.1 1 fun v13 =>
    rdI H12 v13 1 fun v14 =>
    κ' (decide (v14 = 1)) H12) H12 fun b15 H16 =>
  andB b15 (fun _ κ' => rdS H16 r3.1 1 fun v17 =>
    rdI H16 v17 4 fun v18 =>
    κ' (decide (v18 = 0)) H16) H16 fun b19 H20 =>
  κ b19 H20 := by kernel_rfl
theorem green_right_eq {ρ : Type} (k : Nat) {x0 : Sl} {lo : Nat} {H : AH} {κ : Sl → AH → Option ρ} : green_right (k + 1) x0 lo H κ =
  mks H [(.sl ⟨none, 0⟩)] 24 (x0.len : Int) (x0.len : Int) fun s1 H2 =>
  green_right_1 k x0 s1 (x0.len : Int) 0 lo H2 κ := by kernel_rfl
theorem green_right_1_eq {ρ : Type} (k : Nat) {x0 : Sl} {x3 : Sl} {x10 : Int} {x11 : Int} {lo : Nat} {H : AH} {κ : Sl → AH → Option ρ} : green_right_1 (k + 1) x0 x3 x10 x11 lo H κ =
  bif decide (x11 < x10) then
    mks H [(.bool false)] 1 (x0.len : Int) (x0.len : Int) fun s1 H2 =>
    idx x3 x11 1 fun p3 =>
    stc lo H2 p3 (.sl s1) fun H4 =>
    rdS H4 x3 x11 fun v5 =>
    idx v5 x11 1 fun p6 =>
    stc lo H4 p6 (.bool true) fun H7 =>
    green_right_2 k x0 x3 x11 x10 x11 (x0.len : Int) 0 lo H7 κ
  else
  κ x3 H := by kernel_rfl
theorem green_right_2_eq {ρ : Type} (k : Nat) {x0 : Sl} {x3 : Sl} {x4 : Int} {x10 : Int} {x11 : Int} {x27 : Int} {x28 : Int} {lo : Nat} {H : AH} {κ : Sl → AH → Option ρ} : green_right_2 (k + 1) x0 x3 x4 x10 x11 x27 x28 lo H κ =
  bif decide (x28 < x27) then
    rdS H x3 x4 fun v1 =>
    rdS H x0 x4 fun v2 =>
    rdI H v2 x28 fun v3 =>
    idx v1 v3 1 fun p4 =>
    stc lo H p4 (.bool true) fun H5 =>
    green_right_2 k x0 x3 x4 x10 x11 x27 (W (x28 + 1)) lo H5 κ
  else
  green_right_1 k x0 x3 x10 (W (x11 + 1)) lo H κ := by kernel_rfl
theorem green_left_eq {ρ : Type} (k : Nat) {x0 : Sl} {lo : Nat} {H : AH} {κ : Sl → AH → Option ρ} : green_left (k + 1) x0 lo H κ =
  mks H [(.sl ⟨none, 0⟩)] 24 (x0.len : Int) (x0.len : Int) fun s1 H2 =>
  green_left_1 k x0 s1 (x0.len : Int) 0 lo H2 κ := by kernel_rfl
theorem green_left_1_eq {ρ : Type} (k : Nat) {x0 : Sl} {x3 : Sl} {x10 : Int} {x11 : Int} {lo : Nat} {H : AH} {κ : Sl → AH → Option ρ} : green_left_1 (k + 1) x0 x3 x10 x11 lo H κ =
  bif decide (x11 < x10) then
    mks H [(.bool false)] 1 (x0.len : Int) (x0.len : Int) fun s1 H2 =>
    idx x3 x11 1 fun p3 =>
    stc lo H2 p3 (.sl s1) fun H4 =>
    rdS H4 x3 x11 fun v5 =>
    idx v5 x11 1 fun p6 =>
    stc lo H4 p6 (.bool true) fun H7 =>
    green_left_2 k x0 x3 x11 x10 x11 (x0.len : Int) 0 lo H7 κ
  else
  κ x3 H := by kernel_rfl
theorem green_left_2_eq {ρ : Type} (k : Nat) {x0 : Sl} {x3 : Sl} {x4 : Int} {x10 : Int} {x11 : Int} {x27 : Int} {x28 : Int} {lo : Nat} {H : AH} {κ : Sl → AH → Option ρ} : green_left_2 (k + 1) x0 x3 x4 x10 x11 x27 x28 lo H κ =
  bif decide (x28 < x27) then
    rdS H x3 x4 fun v1 =>
    rdS H x0 x28 fun v2 =>
    rdI H v2 x4 fun v3 =>
    idx v1 v3 1 fun p4 =>
    stc lo H p4 (.bool true) fun H5 =>
    green_left_2 k x0 x3 x4 x10 x11 x27 (W (x28 + 1)) lo H5 κ
  else
  green_left_1 k x0 x3 x10 (W (x11 + 1)) lo H κ := by kernel_rfl
theorem green_two_eq {ρ : Type} (k : Nat) {x0 : Sl} {lo : Nat} {H : AH} {κ : Sl → AH → Option ρ} : green_two (k + 1) x0 lo H κ =
  green_right k x0 H.length H fun v1 H2 =>
  green_left k x0 H2.length H2 fun v3 H4 =>
  mks H4 [(.sl ⟨none, 0⟩)] 24 (x0.len : Int) (x0.len : Int) fun s5 H6 =>
  green_two_1 k x0 v1 v3 s5 (x0.len : Int) 0 lo H6 κ := by kernel_rfl
theorem green_two_1_eq {ρ : Type} (k : Nat) {x0 : Sl} {x3 : Sl} {x4 : Sl} {x5 : Sl} {x19 : Int} {x20 : Int} {lo : Nat} {H : AH} {κ : Sl → AH → Option ρ} : green_two_1 (k + 1) x0 x3 x4 x5 x19 x20 lo H κ =
  bif decide (x20 < x19) then
    mks H [(.bool false)] 1 (x0.len : Int) (x0.len : Int) fun s1 H2 =>
    idx x5 x20 1 fun p3 =>
    stc lo H2 p3 (.sl s1) fun H4 =>
    rdS H4 x4 x20 fun v5 =>
    green_two_2 k x0 x3 x4 x5 x20 x19 x20 v5 (v5.len : Int) 0 lo H4 κ
  else
  κ x5 H := by kernel_rfl
theorem green_two_2_eq {ρ : Type} (k : Nat) {x0 : Sl} {x3 : Sl} {x4 : Sl} {x5 : Sl} {x6 : Int} {x19 : Int} {x20 : Int} {x32 : Sl} {x33 : Int} {x34 : Int} {lo : Nat} {H : AH} {κ : Sl → AH → Option ρ} : green_two_2 (k + 1) x0 x3 x4 x5 x6 x19 x20 x32 x33 x34 lo H κ =
  bif decide (x34 < x33) then
    rdB H x32 x34 fun v1 =>
    bif !v1 then
      green_two_4 k x0 x3 x4 x5 x6 x19 x20 x32 x33 x34 lo H κ
    else
    rdS H x3 x34 fun v2 =>
    green_two_3 k x0 x3 x4 x5 x6 x19 x20 x32 x33 x34 v2 (v2.len : Int) 0 lo H κ
  else
  green_two_1 k x0 x3 x4 x5 x19 (W (x20 + 1)) lo H κ := by kernel_rfl
theorem green_two_3_eq {ρ : Type} (k : Nat) {x0 : Sl} {x3 : Sl} {x4 : Sl} {x5 : Sl} {x6 : Int} {x19 : Int} {x20 : Int} {x32 : Sl} {x33 : Int} {x34 : Int} {x44 : Sl} {x45 : Int} {x46 : Int} {lo : Nat} {H : AH} {κ : Sl → AH → Option ρ} : green_two_3 (k + 1) x0 x3 x4 x5 x6 x19 x20 x32 x33 x34 x44 x45 x46 lo H κ =
  bif decide (x46 < x45) then
    rdB H x44 x46 fun v1 =>
    rdS H x5 x6 fun v2 =>
    rdS H x5 x6 fun v3 =>
    rdB H v3 x46 fun v4 =>
    orB v4 (fun _ κ' => κ' v1 H) H fun b5 H6 =>
    idx v2 x46 1 fun p7 =>
    stc lo H6 p7 (.bool b5) fun H8 =>
    green_two_3 k x0 x3 x4 x5 x6 x19 x20 x32 x33 x34 x44 x45 (W (x46 + 1)) lo H8 κ
  else
  green_two_4 k x0 x3 x4 x5 x6 x19 x20 x32 x33 x34 lo H κ := by kernel_rfl
theorem green_two_4_eq {ρ : Type} (k : Nat) {x0 : Sl} {x3 : Sl} {x4 : Sl} {x5 : Sl} {x6 : Int} {x19 : Int} {x20 : Int} {x32 : Sl} {x33 : Int} {x34 : Int} {lo : Nat} {H : AH} {κ : Sl → AH → Option ρ} : green_two_4 (k + 1) x0 x3 x4 x5 x6 x19 x20 x32 x33 x34 lo H κ =
  green_two_2 k x0 x3 x4 x5 x6 x19 x20 x32 x33 (W (x34 + 1)) lo H κ := by kernel_rfl
theorem green_mutual_eq {ρ : Type} (k : Nat) {x0 : Sl} {lo : Nat} {H : AH} {κ : Sl → AH → Option ρ} : green_mutual (k + 1) x0 lo H κ =
  mks H [(.int .i64 0)] 8 (x0.len : Int) (x0.len : Int) fun s1 H2 =>
  green_mutual_1 k x0 s1 (s1.len : Int) 0 lo H2 κ := by kernel_rfl
theorem green_mutual_1_eq {ρ : Type} (k : Nat) {x0 : Sl} {x3 : Sl} {x12 : Int} {x13 : Int} {lo : Nat} {H : AH} {κ : Sl → AH → Option ρ} : green_mutual_1 (k + 1) x0 x3 x12 x13 lo H κ =
  bif decide (x13 < x12) then
    idx x3 x13 1 fun p1 =>
    stc lo H p1 (.int .i64 (-1)) fun H2 =>
    green_mutual_1 k x0 x3 x12 (W (x13 + 1)) lo H2 κ
  else
  green_mutual_2 k x0 x3 0 (x3.len : Int) 0 lo H κ := by kernel_rfl
theorem green_mutual_2_eq {ρ : Type} (k : Nat) {x0 : Sl} {x3 : Sl} {x5 : Int} {x21 : Int} {x22 : Int} {lo : Nat} {H : AH} {κ : Sl → AH → Option ρ} : green_mutual_2 (k + 1) x0 x3 x5 x21 x22 lo H κ =
  bif decide (x22 < x21) then
    rdI H x3 x22 fun v1 =>
    bif decide (v1 ≥ 0) then
      green_mutual_5 k x0 x3 x5 x21 x22 lo H κ
    else
    green_mutual_3 k x0 x3 x5 x22 x22 x21 x22 lo H κ
  else
  κ x3 H := by kernel_rfl
theorem green_mutual_3_eq {ρ : Type} (k : Nat) {x0 : Sl} {x3 : Sl} {x5 : Int} {x6 : Int} {x7 : Int} {x21 : Int} {x22 : Int} {lo : Nat} {H : AH} {κ : Sl → AH → Option ρ} : green_mutual_3 (k + 1) x0 x3 x5 x6 x7 x21 x22 lo H κ =
  bif decide (x7 < (x3.len : Int)) then
    rdS H x0 x6 fun v1 =>
    rdB H v1 x7 fun v2 =>
    andB v2 (fun _ κ' => rdS H x0 x7 fun v3 =>
      rdB H v3 x6 fun v4 =>
      κ' v4 H) H fun b5 H6 =>
    bif b5 then
      idx x3 x7 1 fun p7 =>
      stc lo H6 p7 (.int .i64 x5) fun H8 =>
      green_mutual_4 k x0 x3 x5 x6 x7 x21 x22 lo H8 κ
    else
    green_mutual_4 k x0 x3 x5 x6 x7 x21 x22 lo H6 κ
  else
  green_mutual_5 k x0 x3 (W (x5 + 1)) x21 x22 lo H κ := by kernel_rfl
theorem green_mutual_4_eq {ρ : Type} (k : Nat) {x0 : Sl} {x3 : Sl} {x5 : Int} {x6 : Int} {x7 : Int} {x21 : Int} {x22 : Int} {lo : Nat} {H : AH} {κ : Sl → AH → Option ρ} : green_mutual_4 (k + 1) x0 x3 x5 x6 x7 x21 x22 lo H κ =
  green_mutual_3 k x0 x3 x5 x6 (W (x7 + 1)) x21 x22 lo H κ := by kernel_rfl
theorem green_mutual_5_eq {ρ : Type} (k : Nat) {x0 : Sl} {x3 : Sl} {x5 : Int} {x21 : Int} {x22 : Int} {lo : Nat} {H : AH} {κ : Sl → AH → Option ρ} : green_mutual_5 (k + 1) x0 x3 x5 x21 x22 lo H κ =
  green_mutual_2 k x0 x3 x5 x21 (W (x22 + 1)) lo H κ := by kernel_rfl
theorem partition_Valid_eq {ρ : Type} (k : Nat) {x0 : Sl} {lo : Nat} {H : AH} {κ : Bool → AH → Option ρ} : partition_Valid (k + 1) x0 lo H κ =
  bif decide ((x0.len : Int) > 4096) then
    κ false H
  else
  partition_Valid_1 k 0 x0 (x0.len : Int) 0 lo H κ := by kernel_rfl
theorem partition_Valid_1_eq {ρ : Type} (k : Nat) {x3 : Int} {x9 : Sl} {x10 : Int} {x11 : Int} {lo : Nat} {H : AH} {κ : Bool → AH → Option ρ} : partition_Valid_1 (k + 1) x3 x9 x10 x11 lo H κ =
  bif decide (x11 < x10) then
    rdI H x9 x11 fun v1 =>
    orB (decide (v1 < 0)) (fun _ κ' => κ' (decide (v1 > x3)) H) H fun b2 H3 =>
    bif b2 then
      κ false H3
    else
    bif decide (v1 = x3) then
      partition_Valid_2 k (W (x3 + 1)) x9 x10 x11 lo H3 κ
    else
    partition_Valid_2 k x3 x9 x10 x11 lo H3 κ
  else
  κ true H := by kernel_rfl
theorem partition_Valid_2_eq {ρ : Type} (k : Nat) {x3 : Int} {x9 : Sl} {x10 : Int} {x11 : Int} {lo : Nat} {H : AH} {κ : Bool → AH → Option ρ} : partition_Valid_2 (k + 1) x3 x9 x10 x11 lo H κ =
  partition_Valid_1 k x3 x9 x10 (W (x11 + 1)) lo H κ := by kernel_rfl
theorem partition_both_eq {ρ : Type} (k : Nat) {x0 : Sl} {x1 : Sl} {lo : Nat} {H : AH} {κ : Bool → AH → Option ρ} : partition_both (k + 1) x0 x1 lo H κ =
  andB (decide ((x0.len : Int) = (x1.len : Int))) (fun _ κ' => partition_Valid k x0 H.length H fun v1 H2 =>
    κ' v1 H2) H fun b3 H4 =>
  andB b3 (fun _ κ' => partition_Valid k x1 H4.length H4 fun v5 H6 =>
    κ' v5 H6) H4 fun b7 H8 =>
  κ b7 H8 := by kernel_rfl
theorem partition_Canonical_eq {ρ : Type} (k : Nat) {x0 : Sl} {lo : Nat} {H : AH} {κ : Sl → AH → Option ρ} : partition_Canonical (k + 1) x0 lo H κ =
  bif decide ((x0.len : Int) > 4096) then
    κ ⟨none, 0⟩ H
  else
  mkm H fun m2 H1 =>
  mks H1 [(.int .i64 0)] 8 (x0.len : Int) (x0.len : Int) fun s3 H4 =>
  partition_Canonical_1 k (some m2) s3 x0 (x0.len : Int) 0 lo H4 κ := by kernel_rfl
theorem partition_Canonical_1_eq {ρ : Type} (k : Nat) {x3 : Option Nat} {x4 : Sl} {x16 : Sl} {x17 : Int} {x18 : Int} {lo : Nat} {H : AH} {κ : Sl → AH → Option ρ} : partition_Canonical_1 (k + 1) x3 x4 x16 x17 x18 lo H κ =
  bif decide (x18 < x17) then
    rdI H x16 x18 fun v1 =>
    mlook false H x3 (.int .i64 v1) fun r2 => asI .i64 (Option.getD r2 (.int .i64 0)) fun v3 =>
    bif !(Option.isSome r2) then
      mlen H x3 fun v4 =>
      mput false lo H x3 (.int .i64 v1) (.int .i64 v4) fun H5 =>
      partition_Canonical_2 k x3 x4 x18 v4 x16 x17 x18 lo H5 κ
    else
    partition_Canonical_2 k x3 x4 x18 v3 x16 x17 x18 lo H κ
  else
  κ x4 H := by kernel_rfl
theorem partition_Canonical_2_eq {ρ : Type} (k : Nat) {x3 : Option Nat} {x4 : Sl} {x5 : Int} {x7 : Int} {x16 : Sl} {x17 : Int} {x18 : Int} {lo : Nat} {H : AH} {κ : Sl → AH → Option ρ} : partition_Canonical_2 (k + 1) x3 x4 x5 x7 x16 x17 x18 lo H κ =
  idx x4 x5 1 fun p1 =>
  stc lo H p1 (.int .i64 x7) fun H2 =>
  partition_Canonical_1 k x3 x4 x16 x17 (W (x18 + 1)) lo H2 κ := by kernel_rfl
theorem partition_Meet_eq {ρ : Type} (k : Nat) {x0 : Sl} {x1 : Sl} {lo : Nat} {H : AH} {κ : Sl → AH → Option ρ} : partition_Meet (k + 1) x0 x1 lo H κ =
  partition_both k x0 x1 H.length H fun v1 H2 =>
  bif !v1 then
    κ ⟨none, 0⟩ H2
  else
  mks H2 [(.int .i64 0)] 8 (x0.len : Int) (x0.len : Int) fun s3 H4 =>
  partition_Meet_1 k x0 x1 s3 (x0.len : Int) 0 lo H4 κ := by kernel_rfl
theorem partition_Meet_1_eq {ρ : Type} (k : Nat) {x0 : Sl} {x1 : Sl} {x5 : Sl} {x15 : Int} {x16 : Int} {lo : Nat} {H : AH} {κ : Sl → AH → Option ρ} : partition_Meet_1 (k + 1) x0 x1 x5 x15 x16 lo H κ =
  bif decide (x16 < x15) then
    rdI H x0 x16 fun v1 =>
    rdI H x1 x16 fun v2 =>
    idx x5 x16 1 fun p3 =>
    stc lo H p3 (.int .i64 (W ((W (v1 * 4096)) + v2))) fun H4 =>
    partition_Meet_1 k x0 x1 x5 x15 (W (x16 + 1)) lo H4 κ
  else
  partition_Canonical k x5 H.length H fun v5 H6 =>
  κ v5 H6 := by kernel_rfl
theorem green_firsts_eq {ρ : Type} (k : Nat) {x0 : Sl} {lo : Nat} {H : AH} {κ : Sl → AH → Option ρ} : green_firsts (k + 1) x0 lo H κ =
  green_firsts_1 k ⟨none, 0⟩ x0 (x0.len : Int) 0 lo H κ := by kernel_rfl
theorem green_firsts_1_eq {ρ : Type} (k : Nat) {x3 : Sl} {x6 : Sl} {x7 : Int} {x8 : Int} {lo : Nat} {H : AH} {κ : Sl → AH → Option ρ} : green_firsts_1 (k + 1) x3 x6 x7 x8 lo H κ =
  bif decide (x8 < x7) then
    rdI H x6 x8 fun v1 =>
    bif decide (v1 = (x3.len : Int)) then
      mkb H [(.int .i64 x8)] 1 1 fun s2 H3 =>
      appS lo H3 x3 s2 1 8 fun s4 H5 =>
      green_firsts_2 k s4 x6 x7 x8 lo H5 κ
    else
    green_firsts_2 k x3 x6 x7 x8 lo H κ
  else
  κ x3 H := by kernel_rfl
theorem green_firsts_2_eq {ρ : Type} (k : Nat) {x3 : Sl} {x6 : Sl} {x7 : Int} {x8 : Int} {lo : Nat} {H : AH} {κ : Sl → AH → Option ρ} : green_firsts_2 (k + 1) x3 x6 x7 x8 lo H κ =
  green_firsts_1 k x3 x6 x7 (W (x8 + 1)) lo H κ := by kernel_rfl
theorem green_classes_eq {ρ : Type} (k : Nat) {x0 : Sl} {lo : Nat} {H : AH} {κ : (Sl × Sl × Sl × Sl × Sl) → AH → Option ρ} : green_classes (k + 1) x0 lo H κ =
  alc H [(.sl ⟨none, 0⟩), (.sl ⟨none, 0⟩), (.sl ⟨none, 0⟩), (.sl ⟨none, 0⟩), (.sl ⟨none, 0⟩)] fun p1 H2 =>
  green_two k x0 H2.length H2 fun v3 H4 =>
  green_right k x0 H4.length H4 fun v5 H6 =>
  green_mutual k v5 H6.length H6 fun v7 H8 =>
  green_left k x0 H8.length H8 fun v9 H10 =>
  green_mutual k v9 H10.length H10 fun v11 H12 =>
  green_mutual k v3 H12.length H12 fun v13 H14 =>
  alc H14 [(.sl ⟨none, 0⟩), (.sl ⟨none, 0⟩), (.sl ⟨none, 0⟩), (.sl ⟨none, 0⟩), (.sl ⟨none, 0⟩)] fun p15 H16 =>
  stn lo H16 p15 [(.sl v7), (.sl v11), (.sl v13), (.sl ⟨none, 0⟩), (.sl ⟨none, 0⟩)] fun H17 =>
  ldc H17 ⟨p15.b, p15.o + 0⟩ fun u18 => asS u18 fun v19 =>
  ldc H17 ⟨p15.b, p15.o + 1⟩ fun u20 => asS u20 fun v21 =>
  partition_Meet k v19 v21 H17.length H17 fun v22 H23 =>
  stc lo H23 ⟨p15.b, p15.o + 3⟩ (.sl v22) fun H24 =>
  ldc H24 ⟨p15.b, p15.o + 2⟩ fun u25 => asS u25 fun v26 =>
  green_firsts k v26 H24.length H24 fun v27 H28 =>
  mks H28 [(.sl ⟨none, 0⟩)] 24 (v27.len : Int) (v27.len : Int) fun s29 H30 =>
  stc lo H30 ⟨p15.b, p15.o + 4⟩ (.sl s29) fun H31 =>
  green_classes_1 k (some p1) v3 (some p15) v27 v27 (v27.len : Int) 0 lo H31 κ := by kernel_rfl
theorem green_classes_1_eq {ρ : Type} (k : Nat) {x2 : Option Pt} {x3 : Sl} {x4 : Option Pt} {x5 : Sl} {x34 : Sl} {x35 : Int} {x36 : Int} {lo : Nat} {H : AH} {κ : (Sl × Sl × Sl × Sl × Sl) → AH → Option ρ} : green_classes_1 (k + 1) x2 x3 x4 x5 x34 x35 x36 lo H κ =
  bif decide (x36 < x35) then
    rdI H x34 x36 fun v1 =>
    asP (.ptr x4) fun p2 => 
    ldc H ⟨p2.b, p2.o + 4⟩ fun u3 => asS u3 fun v4 =>
    mks H [(.bool false)] 1 (x5.len : Int) (x5.len : Int) fun s5 H6 =>
    idx v4 x36 1 fun p7 =>
    stc lo H6 p7 (.sl s5) fun H8 =>
    green_classes_2 k x2 x3 x4 x5 x36 v1 x34 x35 x36 x5 (x5.len : Int) 0 lo H8 κ
  else
  asP (.ptr x4) fun p9 => ldA_sssss H p9 fun v10 v11 v12 v13 v14 =>
  asP (.ptr x2) fun p15 => stn lo H p15 [(.sl v10), (.sl v11), (.sl v12), (.sl v13), (.sl v14)] fun H16 =>
  asP (.ptr x2) fun p17 => ldA_sssss H16 p17 fun v18 v19 v20 v21 v22 => κ (v18, v19, v20, v21, v22) H16 := by kernel_rfl
theorem green_classes_2_eq {ρ : Type} (k : Nat) {x2 : Option Pt} {x3 : Sl} {x4 : Option Pt} {x5 : Sl} {x6 : Int} {x7 : Int} {x34 : Sl} {x35 : Int} {x36 : Int} {x48 : Sl} {x49 : Int} {x50 : Int} {lo : Nat} {H : AH} {κ : (Sl × Sl × Sl × Sl × Sl) → AH → Option ρ} : green_classes_2 (k + 1) x2 x3 x4 x5 x6 x7 x34 x35 x36 x48 x49 x50 lo H κ =
  bif decide (x50 < x49) then
    rdI H x48 x50 fun v1 =>
    asP (.ptr x4) fun p2 => 
    ldc H ⟨p2.b, p2.o + 4⟩ fun u3 => asS u3 fun v4 =>
    rdS H v4 x6 fun v5 =>
    rdS H x3 v1 fun v6 =>
    rdB H v6 x7 fun v7 =>
    idx v5 x50 1 fun p8 =>
    stc lo H p8 (.bool v7) fun H9 =>
    green_classes_2 k x2 x3 x4 x5 x6 x7 x34 x35 x36 x48 x49 (W (x50 + 1)) lo H9 κ
  else
  green_classes_1 k x2 x3 x4 x5 x34 x35 (W (x36 + 1)) lo H κ := by kernel_rfl
theorem green_Classes_eq {ρ : Type} (k : Nat) {x0 : Sl} {lo : Nat} {H : AH} {κ : (Sl × Sl × Sl × Sl × Sl) → AH → Option ρ} : green_Classes (k + 1) x0 lo H κ =
  alc H [(.sl ⟨none, 0⟩), (.sl ⟨none, 0⟩), (.sl ⟨none, 0⟩), (.sl ⟨none, 0⟩), (.sl ⟨none, 0⟩)] fun p1 H2 =>
  mult_Validate k x0 H2.length H2 fun v3 H4 =>
  bif !decide (v3 = 0) then
    stn lo H4 p1 [(.sl ⟨none, 0⟩), (.sl ⟨none, 0⟩), (.sl ⟨none, 0⟩), (.sl ⟨none, 0⟩), (.sl ⟨none, 0⟩)] fun H5 =>
    ldA_sssss H5 p1 fun v6 v7 v8 v9 v10 => κ (v6, v7, v8, v9, v10) H5
  else
  green_classes k x0 H4.length H4 fun r11 H12 =>
  stn lo H12 p1 [(.sl r11.1), (.sl r11.2.1), (.sl r11.2.2.1), (.sl r11.2.2.2.1), (.sl r11.2.2.2.2)] fun H13 =>
  ldA_sssss H13 p1 fun v14 v15 v16 v17 v18 => κ (v14, v15, v16, v17, v18) H13 := by kernel_rfl
theorem green_Regular_eq {ρ : Type} (k : Nat) {x0 : Sl} {lo : Nat} {H : AH} {κ : Sl → AH → Option ρ} : green_Regular (k + 1) x0 lo H κ =
  mult_Validate k x0 H.length H fun v1 H2 =>
  bif !decide (v1 = 0) then
    κ ⟨none, 0⟩ H2
  else
  green_classes k x0 H2.length H2 fun r3 H4 =>
  alc H4 [(.sl ⟨none, 0⟩), (.sl ⟨none, 0⟩), (.sl ⟨none, 0⟩), (.sl ⟨none, 0⟩), (.sl ⟨none, 0⟩)] fun p5 H6 =>
  stn lo H6 p5 [(.sl r3.1), (.sl r3.2.1), (.sl r3.2.2.1), (.sl r3.2.2.2.1), (.sl r3.2.2.2.2)] fun H7 =>
  ldc H7 ⟨p5.b, p5.o + 4⟩ fun u8 => asS u8 fun v9 =>
  mks H7 [(.bool false)] 1 (v9.len : Int) (v9.len : Int) fun s10 H11 =>
  ldc H11 ⟨p5.b, p5.o + 2⟩ fun u12 => asS u12 fun v13 =>
  green_Regular_1 k x0 s10 v13 (v13.len : Int) 0 lo H11 κ := by kernel_rfl
theorem green_Regular_1_eq {ρ : Type} (k : Nat) {x0 : Sl} {x4 : Sl} {x17 : Sl} {x18 : Int} {x19 : Int} {lo : Nat} {H : AH} {κ : Sl → AH → Option ρ} : green_Regular_1 (k + 1) x0 x4 x17 x18 x19 lo H κ =
  bif decide (x19 < x18) then
    rdI H x17 x19 fun v1 =>
    rdB H x4 v1 fun v2 =>
    orB v2 (fun _ κ' => rdS H x0 x19 fun v3 =>
      rdI H v3 x19 fun v4 =>
      κ' (decide (v4 = x19)) H) H fun b5 H6 =>
    idx x4 v1 1 fun p7 =>
    stc lo H6 p7 (.bool b5) fun H8 =>
    green_Regular_1 k x0 x4 x17 x18 (W (x19 + 1)) lo H8 κ
  else
  κ x4 H := by kernel_rfl
theorem semigrouplaw17_ReesSimple_eq {ρ : Type} (k : Nat) {x0_0 : Sl} {x0_1 : Int} {x0_2 : Int} {x0_3 : Sl} {x0_4 : Bool} {lo : Nat} {H : AH} {κ : Bool → AH → Option ρ} : semigrouplaw17_ReesSimple (k + 1) x0_0 x0_1 x0_2 x0_3 x0_4 lo H κ =
  alc H [(.sl x0_0), (.int .i64 x0_1), (.int .i64 x0_2), (.sl x0_3), (.bool x0_4)] fun p1 H2 =>
  ldc H2 ⟨p1.b, p1.o + 0⟩ fun u3 => asS u3 fun v4 =>
  orB (decide ((v4.len : Int) > 6)) (fun _ κ' => ldA_siisb H2 p1 fun v5 v6 v7 v8 v9 =>
    semigroupref17_Validate k v5 v6 v7 v8 v9 H2.length H2 fun v10 H11 =>
    κ' (!decide (v10 = 0)) H11) H2 fun b12 H13 =>
  orB b12 (fun _ κ' => ldA_siisb H13 p1 fun v14 v15 v16 v17 v18 =>
    semigroupref17_Size k v14 v15 v16 v17 v18 H13.length H13 fun v19 H20 =>
    κ' (decide (v19 > 30)) H20) H13 fun b21 H22 =>
  bif b21 then
    semigrouplaw17_awake k  H22.length H22 fun v23 H24 =>
    κ v23 H24
  else
  ldA_siisb H22 p1 fun v25 v26 v27 v28 v29 =>
  rees_Table k v25 v26 v27 v28 v29 H22.length H22 fun r30 H31 =>
  bif !decide (r30.2 = 0) then
    κ false H31
  else
  green_Classes k r30.1 H31.length H31 fun r32 H33 =>
  green_Regular k r30.1 H33.length H33 fun v34 H35 =>
  alc H35 [(.sl ⟨none, 0⟩), (.sl ⟨none, 0⟩), (.sl ⟨none, 0⟩), (.sl ⟨none, 0⟩), (.sl ⟨none, 0⟩)] fun p36 H37 =>
  stn lo H37 p36 [(.sl r32.1), (.sl r32.2.1), (.sl r32.2.2.1), (.sl r32.2.2.2.1), (.sl r32.2.2.2.2)] fun H38 =>
  ldc H38 ⟨p1.b, p1.o + 4⟩ fun u39 => asB u39 fun v40 =>
  bif !v40 then
    ldc H38 ⟨p36.b, p36.o + 4⟩ fun u41 => asS u41 fun v42 =>
    andB (decide ((v42.len : Int) = 1)) (fun _ κ' => κ' (decide ((v34.len : Int) = 1)) H38) H38 fun b43 H44 =>
    andB b43 (fun _ κ' => rdB H44 v34 0 fun v45 =>
      κ' v45 H44) H44 fun b46 H47 =>
    andB b46 (fun _ κ' => ldA_siisb H47 p1 fun v48 v49 v50 v51 v52 =>
      rees_Regular k v48 v49 v50 v51 v52 H47.length H47 fun v53 H54 =>
      κ' v53 H54) H47 fun b55 H56 =>
    andB b55 (fun _ κ' => semigrouplaw17_awake k  H56.length H56 fun v57 H58 =>
      κ' v57 H58) H56 fun b59 H60 =>
    κ b59 H60
  else
  ldc H38 ⟨p36.b, p36.o + 4⟩ fun u61 => asS u61 fun v62 =>
  andB (decide ((v62.len : Int) = 2)) (fun _ κ' => κ' (decide ((v34.len : Int) = 2)) H38) H38 fun b63 H64 =>
  andB b63 (fun _ κ' => rdB H64 v34 0 fun v65 =>
    κ' v65 H64) H64 fun b66 H67 =>
  andB b66 (fun _ κ' => rdB H67 v34 1 fun v68 =>
    κ' v68 H67) H67 fun b69 H70 =>
  andB b69 (fun _ κ' => ldc H70 ⟨p36.b, p36.o + 2⟩ fun u71 => asS u71 fun v72 =>
    κ' (decide ((v72.len : Int) = (r30.1.len : Int))) H70) H70 fun b73 H74 =>
  andB b73 (fun _ κ' => ldc H74 ⟨p36.b, p36.o + 2⟩ fun u75 => asS u75 fun v76 =>
    rdI H74 v76 1 fun v77 =>
    ldc H74 ⟨p36.b, p36.o + 2⟩ fun u78 => asS u78 fun v79 =>
    rdI H74 v79 0 fun v80 =>
    κ' (!decide (v77 = v80)) H74) H74 fun b81 H82 =>
  ldA_siisb H82 p1 fun v83 v84 v85 v86 v87 =>
  rees_Regular k v83 v84 v85 v86 v87 H82.length H82 fun v88 H89 =>
  andB (b81 == v88) (fun _ κ' => semigrouplaw17_awake k  H89.length H89 fun v90 H91 =>
    κ' v90 H91) H89 fun b92 H93 =>
  κ b92 H93 := by kernel_rfl
end Go.Ab
