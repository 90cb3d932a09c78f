/- Each label's equation. Printed. -/
import Derived.Test.YtdoggefpmamoiaaRMorphRenamesIr
import Derived.Test.YtdoggefpmamoiaaAbA3
import Derived.KernelRfl
set_option linter.unusedVariables false
namespace Go.Ab
theorem noid_ok : noidG G = true := by kernel_rfl
theorem semigrouplaw20_awake_true {H : AH} : Ev (fun _ k κ => semigrouplaw20_awake k H.length H κ) (fun v _ => v = true) := ev_awake (k := 400) noid_ok (by kernel_rfl) H
theorem semigroupref14_Shape_eq {ρ : Type} (k : Nat) {x0 : Sl} {lo : Nat} {H : AH} {κ : Int → AH → Option ρ} : semigroupref14_Shape (k + 1) x0 lo H κ =
  bif decide ((x0.len : Int) > 400) then
    κ 3 H
  else
  bif decide ((x0.len : Int) = 0) then
    κ 4 H
  else
  semigroupref14_Shape_1 k x0 x0 (x0.len : Int) 0 lo H κ := by kernel_rfl
theorem semigroupref14_Shape_1_eq {ρ : Type} (k : Nat) {x0 : Sl} {x13 : Sl} {x14 : Int} {x15 : Int} {lo : Nat} {H : AH} {κ : Int → AH → Option ρ} : semigroupref14_Shape_1 (k + 1) x0 x13 x14 x15 lo H κ =
  bif decide (x15 < x14) then
    rdS H x13 x15 fun v1 =>
    bif !decide ((v1.len : Int) = (x0.len : Int)) then
      κ 4 H
    else
    semigroupref14_Shape_2 k x0 x13 x14 x15 v1 (v1.len : Int) 0 lo H κ
  else
  κ 0 H := by kernel_rfl
theorem semigroupref14_Shape_2_eq {ρ : Type} (k : Nat) {x0 : Sl} {x13 : Sl} {x14 : Int} {x15 : Int} {x24 : Sl} {x25 : Int} {x26 : Int} {lo : Nat} {H : AH} {κ : Int → AH → Option ρ} : semigroupref14_Shape_2 (k + 1) x0 x13 x14 x15 x24 x25 x26 lo H κ =
  bif decide (x26 < x25) then
    rdI H x24 x26 fun v1 =>
    orB (decide (v1 < 0)) (fun _ κ' => κ' (decide (v1 ≥ (x0.len : Int))) H) H fun b2 H3 =>
    bif b2 then
      κ 4 H3
    else
    semigroupref14_Shape_2 k x0 x13 x14 x15 x24 x25 (W (x26 + 1)) lo H3 κ
  else
  semigroupref14_Shape_1 k x0 x13 x14 (W (x15 + 1)) lo H κ := by kernel_rfl
theorem semigroupref14_Associative_eq {ρ : Type} (k : Nat) {x0 : Sl} {lo : Nat} {H : AH} {κ : (Int × Int × Int × Int) → AH → Option ρ} : semigroupref14_Associative (k + 1) x0 lo H κ =
  semigroupref14_Shape k x0 H.length H fun v1 H2 =>
  bif !decide (v1 = 0) then
    κ (0, 0, 0, v1) H2
  else
  semigroupref14_Associative_1 k x0 (x0.len : Int) 0 lo H2 κ := by kernel_rfl
theorem semigroupref14_Associative_1_eq {ρ : Type} (k : Nat) {x0 : Sl} {x16 : Int} {x17 : Int} {lo : Nat} {H : AH} {κ : (Int × Int × Int × Int) → AH → Option ρ} : semigroupref14_Associative_1 (k + 1) x0 x16 x17 lo H κ =
  bif decide (x17 < x16) then
    semigroupref14_Associative_2 k x0 x17 x16 x17 (x0.len : Int) 0 lo H κ
  else
  κ (0, 0, 0, 0) H := by kernel_rfl
theorem semigroupref14_Associative_2_eq {ρ : Type} (k : Nat) {x0 : Sl} {x7 : Int} {x16 : Int} {x17 : Int} {x21 : Int} {x22 : Int} {lo : Nat} {H : AH} {κ : (Int × Int × Int × Int) → AH → Option ρ} : semigroupref14_Associative_2 (k + 1) x0 x7 x16 x17 x21 x22 lo H κ =
  bif decide (x22 < x21) then
    semigroupref14_Associative_3 k x0 x7 x22 x16 x17 x21 x22 (x0.len : Int) 0 lo H κ
  else
  semigroupref14_Associative_1 k x0 x16 (W (x17 + 1)) lo H κ := by kernel_rfl
theorem semigroupref14_Associative_3_eq {ρ : Type} (k : Nat) {x0 : Sl} {x7 : Int} {x8 : Int} {x16 : Int} {x17 : Int} {x21 : Int} {x22 : Int} {x26 : Int} {x27 : Int} {lo : Nat} {H : AH} {κ : (Int × Int × Int × Int) → AH → Option ρ} : semigroupref14_Associative_3 (k + 1) x0 x7 x8 x16 x17 x21 x22 x26 x27 lo H κ =
  bif decide (x27 < x26) then
    rdS H x0 x7 fun v1 =>
    rdI H v1 x8 fun v2 =>
    rdS H x0 v2 fun v3 =>
    rdI H v3 x27 fun v4 =>
    rdS H x0 x7 fun v5 =>
    rdS H x0 x8 fun v6 =>
    rdI H v6 x27 fun v7 =>
    rdI H v5 v7 fun v8 =>
    bif !decide (v4 = v8) then
      κ (x7, x8, x27, 5) H
    else
    semigroupref14_Associative_3 k x0 x7 x8 x16 x17 x21 x22 x26 (W (x27 + 1)) lo H κ
  else
  semigroupref14_Associative_2 k x0 x7 x16 x17 x21 (W (x22 + 1)) lo H κ := by kernel_rfl
theorem semigroupref14_Validate_eq {ρ : Type} (k : Nat) {x0 : Sl} {lo : Nat} {H : AH} {κ : Int → AH → Option ρ} : semigroupref14_Validate (k + 1) x0 lo H κ =
  semigroupref14_Associative k x0 H.length H fun r1 H2 =>
  κ r1.2.2.2 H2 := by kernel_rfl
theorem semigroupref14_Valid_eq {ρ : Type} (k : Nat) {x0 : Sl} {lo : Nat} {H : AH} {κ : Bool → AH → Option ρ} : semigroupref14_Valid (k + 1) x0 lo H κ =
  semigroupref14_Validate k x0 H.length H fun v1 H2 =>
  κ (decide (v1 = 0)) H2 := by kernel_rfl
theorem semigrouplaw20_small_eq {ρ : Type} (k : Nat) {x0 : Sl} {x1 : Int} {lo : Nat} {H : AH} {κ : Bool → AH → Option ρ} : semigrouplaw20_small (k + 1) x0 x1 lo H κ =
  andB (decide ((x0.len : Int) ≤ x1)) (fun _ κ' => semigroupref14_Valid k x0 H.length H fun v1 H2 =>
    κ' v1 H2) H fun b3 H4 =>
  κ b3 H4 := by kernel_rfl
theorem semigrouplaw20_two_eq {ρ : Type} (k : Nat) {lo : Nat} {H : AH} {κ : Sl → AH → Option ρ} : semigrouplaw20_two (k + 1) lo H κ =
  mkb H [(.int .i64 0), (.int .i64 1)] 1 2 fun s1 H2 =>
  mkb H2 [(.int .i64 1), (.int .i64 0)] 1 2 fun s3 H4 =>
  mkb H4 [(.sl s1), (.sl s3)] 1 2 fun s5 H6 =>
  κ s5 H6 := by kernel_rfl
theorem mult_shape_eq {ρ : Type} (k : Nat) {x0 : Sl} {lo : Nat} {H : AH} {κ : Int → AH → Option ρ} : mult_shape (k + 1) x0 lo H κ =
  bif decide ((x0.len : Int) > 400) then
    κ 3 H
  else
  bif decide ((x0.len : Int) = 0) then
    κ 4 H
  else
  mult_shape_1 k x0 x0 (x0.len : Int) 0 lo H κ := by kernel_rfl
theorem mult_shape_1_eq {ρ : Type} (k : Nat) {x0 : Sl} {x15 : Sl} {x16 : Int} {x17 : Int} {lo : Nat} {H : AH} {κ : Int → AH → Option ρ} : mult_shape_1 (k + 1) x0 x15 x16 x17 lo H κ =
  bif decide (x17 < x16) then
    rdS H x15 x17 fun v1 =>
    bif !decide ((v1.len : Int) = (x0.len : Int)) then
      κ 4 H
    else
    mult_shape_2 k x0 x15 x16 x17 v1 (v1.len : Int) 0 lo H κ
  else
  κ 0 H := by kernel_rfl
theorem mult_shape_2_eq {ρ : Type} (k : Nat) {x0 : Sl} {x15 : Sl} {x16 : Int} {x17 : Int} {x26 : Sl} {x27 : Int} {x28 : Int} {lo : Nat} {H : AH} {κ : Int → AH → Option ρ} : mult_shape_2 (k + 1) x0 x15 x16 x17 x26 x27 x28 lo H κ =
  bif decide (x28 < x27) then
    rdI H x26 x28 fun v1 =>
    orB (decide (v1 < 0)) (fun _ κ' => κ' (decide (v1 ≥ (x0.len : Int))) H) H fun b2 H3 =>
    bif b2 then
      κ 4 H3
    else
    mult_shape_2 k x0 x15 x16 x17 x26 x27 (W (x28 + 1)) lo H3 κ
  else
  mult_shape_1 k x0 x15 x16 (W (x17 + 1)) lo H κ := by kernel_rfl
theorem mult_failing_eq {ρ : Type} (k : Nat) {x0 : Sl} {lo : Nat} {H : AH} {κ : (Int × Int × Int × Bool) → AH → Option ρ} : mult_failing (k + 1) x0 lo H κ =
  mult_failing_1 k x0 (x0.len : Int) 0 lo H κ := by kernel_rfl
theorem mult_failing_1_eq {ρ : Type} (k : Nat) {x0 : Sl} {x10 : Int} {x11 : Int} {lo : Nat} {H : AH} {κ : (Int × Int × Int × Bool) → AH → Option ρ} : mult_failing_1 (k + 1) x0 x10 x11 lo H κ =
  bif decide (x11 < x10) then
    mult_failing_2 k x0 x11 x10 x11 (x0.len : Int) 0 lo H κ
  else
  κ (0, 0, 0, false) H := by kernel_rfl
theorem mult_failing_2_eq {ρ : Type} (k : Nat) {x0 : Sl} {x6 : Int} {x10 : Int} {x11 : Int} {x15 : Int} {x16 : Int} {lo : Nat} {H : AH} {κ : (Int × Int × Int × Bool) → AH → Option ρ} : mult_failing_2 (k + 1) x0 x6 x10 x11 x15 x16 lo H κ =
  bif decide (x16 < x15) then
    mult_failing_3 k x0 x6 x16 x10 x11 x15 x16 (x0.len : Int) 0 lo H κ
  else
  mult_failing_1 k x0 x10 (W (x11 + 1)) lo H κ := by kernel_rfl
theorem mult_failing_3_eq {ρ : Type} (k : Nat) {x0 : Sl} {x6 : Int} {x7 : Int} {x10 : Int} {x11 : Int} {x15 : Int} {x16 : Int} {x20 : Int} {x21 : Int} {lo : Nat} {H : AH} {κ : (Int × Int × Int × Bool) → AH → Option ρ} : mult_failing_3 (k + 1) x0 x6 x7 x10 x11 x15 x16 x20 x21 lo H κ =
  bif decide (x21 < x20) then
    rdS H x0 x6 fun v1 =>
    rdI H v1 x7 fun v2 =>
    rdS H x0 v2 fun v3 =>
    rdI H v3 x21 fun v4 =>
    rdS H x0 x6 fun v5 =>
    rdS H x0 x7 fun v6 =>
    rdI H v6 x21 fun v7 =>
    rdI H v5 v7 fun v8 =>
    bif !decide (v4 = v8) then
      κ (x6, x7, x21, true) H
    else
    mult_failing_3 k x0 x6 x7 x10 x11 x15 x16 x20 (W (x21 + 1)) lo H κ
  else
  mult_failing_2 k x0 x6 x10 x11 x15 (W (x16 + 1)) lo H κ := by kernel_rfl
theorem mult_Validate_eq {ρ : Type} (k : Nat) {x0 : Sl} {lo : Nat} {H : AH} {κ : Int → AH → Option ρ} : mult_Validate (k + 1) x0 lo H κ =
  mult_shape k x0 H.length H fun v1 H2 =>
  bif !decide (v1 = 0) then
    κ v1 H2
  else
  mult_failing k x0 H2.length H2 fun r3 H4 =>
  bif r3.2.2.2 then
    κ 5 H4
  else
  κ 0 H4 := by kernel_rfl
theorem morph_check_eq {ρ : Type} (k : Nat) {x0 : Sl} {x1 : Sl} {lo : Nat} {H : AH} {κ : Int → AH → Option ρ} : morph_check (k + 1) x0 x1 lo H κ =
  mult_Validate k x0 H.length H fun v1 H2 =>
  bif !decide (v1 = 0) then
    κ v1 H2
  else
  mult_Validate k x1 H2.length H2 fun v3 H4 =>
  bif !decide (v3 = 0) then
    κ v3 H4
  else
  orB (decide ((x0.len : Int) > 8)) (fun _ κ' => κ' (decide ((x1.len : Int) > 8)) H4) H4 fun b5 H6 =>
  bif b5 then
    κ 3 H6
  else
  κ 0 H6 := by kernel_rfl
theorem semigroup_morph_search_set_eq {ρ : Type} (k : Nat) {x0 : Option Pt} {x1 : Sl} {x2 : Int} {x3 : Int} {lo : Nat} {H : AH} {κ : (Sl × Bool) → AH → Option ρ} : semigroup_morph_search_set (k + 1) x0 x1 x2 x3 lo H κ =
  mkb H [] 1 0 fun s1 H2 =>
  appS lo H2 s1 x1 1 8 fun s3 H4 =>
  mkb H4 [(.int .i64 x2), (.int .i64 x3)] 2 1 fun s5 H6 =>
  semigroup_morph_search_set_1 k x0 s3 s5 lo H6 κ := by kernel_rfl
theorem semigroup_morph_search_set_1_eq {ρ : Type} (k : Nat) {x0 : Option Pt} {x1 : Sl} {x10 : Sl} {lo : Nat} {H : AH} {κ : (Sl × Bool) → AH → Option ρ} : semigroup_morph_search_set_1 (k + 1) x0 x1 x10 lo H κ =
  bif decide ((x10.len : Int) > 0) then
    idx x10 (W ((x10.len : Int) - 1)) 2 fun p1 =>
    ldA_ii H p1 fun v2 v3 =>
    alc H [(.int .i64 0), (.int .i64 0)] fun p4 H5 =>
    stn lo H5 p4 [(.int .i64 v2), (.int .i64 v3)] fun H6 =>
    slc x10 0 (W ((x10.len : Int) - 1)) 2 fun s7 =>
    ldc H6 ⟨p4.b, p4.o + 0⟩ fun u8 => asI .i64 u8 fun v9 =>
    rdI H6 x1 v9 fun v10 =>
    bif decide (v10 ≥ 0) then
      ldc H6 ⟨p4.b, p4.o + 0⟩ fun u11 => asI .i64 u11 fun v12 =>
      rdI H6 x1 v12 fun v13 =>
      ldc H6 ⟨p4.b, p4.o + 1⟩ fun u14 => asI .i64 u14 fun v15 =>
      bif !decide (v13 = v15) then
        κ (⟨none, 0⟩, false) H6
      else
      semigroup_morph_search_set_1 k x0 x1 s7 lo H6 κ
    else
    semigroup_morph_search_set_2 k x0 x1 s7 (some p4) x1 (x1.len : Int) 0 lo H6 κ
  else
  κ (x1, true) H := by kernel_rfl
theorem semigroup_morph_search_set_2_eq {ρ : Type} (k : Nat) {x0 : Option Pt} {x1 : Sl} {x10 : Sl} {x11 : Option Pt} {x51 : Sl} {x52 : Int} {x53 : Int} {lo : Nat} {H : AH} {κ : (Sl × Bool) → AH → Option ρ} : semigroup_morph_search_set_2 (k + 1) x0 x1 x10 x11 x51 x52 x53 lo H κ =
  bif decide (x53 < x52) then
    rdI H x51 x53 fun v1 =>
    asP (.ptr x0) fun p2 => 
    ldc H ⟨p2.b, p2.o + 2⟩ fun u3 => asB u3 fun v4 =>
    andB v4 (fun _ κ' => asP (.ptr x11) fun p5 => ldc H ⟨p5.b, p5.o + 1⟩ fun u6 => asI .i64 u6 fun v7 =>
      κ' (decide (v1 = v7)) H) H fun b8 H9 =>
    bif b8 then
      κ (⟨none, 0⟩, false) H9
    else
    semigroup_morph_search_set_2 k x0 x1 x10 x11 x51 x52 (W (x53 + 1)) lo H9 κ
  else
  asP (.ptr x11) fun p10 => ldc H ⟨p10.b, p10.o + 0⟩ fun u11 => asI .i64 u11 fun v12 =>
  asP (.ptr x11) fun p13 => ldc H ⟨p13.b, p13.o + 1⟩ fun u14 => asI .i64 u14 fun v15 =>
  idx x1 v12 1 fun p16 =>
  stc lo H p16 (.int .i64 v15) fun H17 =>
  semigroup_morph_search_set_3 k x0 x1 x10 x11 x1 (x1.len : Int) 0 lo H17 κ := by kernel_rfl
theorem semigroup_morph_search_set_3_eq {ρ : Type} (k : Nat) {x0 : Option Pt} {x1 : Sl} {x10 : Sl} {x11 : Option Pt} {x74 : Sl} {x75 : Int} {x76 : Int} {lo : Nat} {H : AH} {κ : (Sl × Bool) → AH → Option ρ} : semigroup_morph_search_set_3 (k + 1) x0 x1 x10 x11 x74 x75 x76 lo H κ =
  bif decide (x76 < x75) then
    rdI H x74 x76 fun v1 =>
    bif decide (v1 ≥ 0) then
      asP (.ptr x0) fun p2 => 
      ldc H ⟨p2.b, p2.o + 0⟩ fun u3 => asS u3 fun v4 =>
      asP (.ptr x11) fun p5 => ldc H ⟨p5.b, p5.o + 0⟩ fun u6 => asI .i64 u6 fun v7 =>
      rdS H v4 v7 fun v8 =>
      rdI H v8 x76 fun v9 =>
      asP (.ptr x0) fun p10 => 
      ldc H ⟨p10.b, p10.o + 1⟩ fun u11 => asS u11 fun v12 =>
      asP (.ptr x11) fun p13 => ldc H ⟨p13.b, p13.o + 1⟩ fun u14 => asI .i64 u14 fun v15 =>
      rdS H v12 v15 fun v16 =>
      rdI H v16 v1 fun v17 =>
      asP (.ptr x0) fun p18 => 
      ldc H ⟨p18.b, p18.o + 0⟩ fun u19 => asS u19 fun v20 =>
      rdS H v20 x76 fun v21 =>
      asP (.ptr x11) fun p22 => ldc H ⟨p22.b, p22.o + 0⟩ fun u23 => asI .i64 u23 fun v24 =>
      rdI H v21 v24 fun v25 =>
      asP (.ptr x0) fun p26 => 
      ldc H ⟨p26.b, p26.o + 1⟩ fun u27 => asS u27 fun v28 =>
      rdS H v28 v1 fun v29 =>
      asP (.ptr x11) fun p30 => ldc H ⟨p30.b, p30.o + 1⟩ fun u31 => asI .i64 u31 fun v32 =>
      rdI H v29 v32 fun v33 =>
      mkb H [(.int .i64 v9), (.int .i64 v17), (.int .i64 v25), (.int .i64 v33)] 2 2 fun s34 H35 =>
      appS lo H35 x10 s34 2 16 fun s36 H37 =>
      semigroup_morph_search_set_4 k x0 x1 s36 x11 x74 x75 x76 lo H37 κ
    else
    semigroup_morph_search_set_4 k x0 x1 x10 x11 x74 x75 x76 lo H κ
  else
  semigroup_morph_search_set_1 k x0 x1 x10 lo H κ := by kernel_rfl
theorem semigroup_morph_search_set_4_eq {ρ : Type} (k : Nat) {x0 : Option Pt} {x1 : Sl} {x10 : Sl} {x11 : Option Pt} {x74 : Sl} {x75 : Int} {x76 : Int} {lo : Nat} {H : AH} {κ : (Sl × Bool) → AH → Option ρ} : semigroup_morph_search_set_4 (k + 1) x0 x1 x10 x11 x74 x75 x76 lo H κ =
  semigroup_morph_search_set_3 k x0 x1 x10 x11 x74 x75 (W (x76 + 1)) lo H κ := by kernel_rfl
theorem semigroup_morph_search_extend_eq {ρ : Type} (k : Nat) {x0 : Option Pt} {x1 : Sl} {lo : Nat} {H : AH} {κ : Unit → AH → Option ρ} : semigroup_morph_search_extend (k + 1) x0 x1 lo H κ =
  semigroup_morph_search_extend_1 k x0 x1 0 lo H κ := by kernel_rfl
theorem semigroup_morph_search_extend_1_eq {ρ : Type} (k : Nat) {x0 : Option Pt} {x1 : Sl} {x4 : Int} {lo : Nat} {H : AH} {κ : Unit → AH → Option ρ} : semigroup_morph_search_extend_1 (k + 1) x0 x1 x4 lo H κ =
  andB (decide (x4 < (x1.len : Int))) (fun _ κ' => rdI H x1 x4 fun v1 =>
    κ' (decide (v1 ≥ 0)) H) H fun b2 H3 =>
  bif b2 then
    semigroup_morph_search_extend_1 k x0 x1 (W (x4 + 1)) lo H3 κ
  else
  bif decide (x4 = (x1.len : Int)) then
    asP (.ptr x0) fun p4 => 
    ldc H3 ⟨p4.b, p4.o + 4⟩ fun u5 => asS u5 fun v6 =>
    mkb H3 [(.sl x1)] 1 1 fun s7 H8 =>
    appS lo H8 v6 s7 1 24 fun s9 H10 =>
    asP (.ptr x0) fun p11 => 
    stc lo H10 ⟨p11.b, p11.o + 4⟩ (.sl s9) fun H12 =>
    κ () H12
  else
  asP (.ptr x0) fun p13 => 
  ldc H3 ⟨p13.b, p13.o + 1⟩ fun u14 => asS u14 fun v15 =>
  semigroup_morph_search_extend_2 k x0 x1 x4 (v15.len : Int) 0 lo H3 κ := by kernel_rfl
theorem semigroup_morph_search_extend_2_eq {ρ : Type} (k : Nat) {x0 : Option Pt} {x1 : Sl} {x4 : Int} {x39 : Int} {x40 : Int} {lo : Nat} {H : AH} {κ : Unit → AH → Option ρ} : semigroup_morph_search_extend_2 (k + 1) x0 x1 x4 x39 x40 lo H κ =
  bif decide (x40 < x39) then
    asP (.ptr x0) fun p1 => 
    ldc H ⟨p1.b, p1.o + 4⟩ fun u2 => asS u2 fun v3 =>
    asP (.ptr x0) fun p4 => 
    ldc H ⟨p4.b, p4.o + 3⟩ fun u5 => asI .i64 u5 fun v6 =>
    bif decide ((v3.len : Int) > v6) then
      κ () H
    else
    semigroup_morph_search_set k x0 x1 x4 x40 lo H fun r7 H8 =>
    bif r7.2 then
      semigroup_morph_search_extend k x0 r7.1 lo H8 fun _ H10 =>
      semigroup_morph_search_extend_3 k x0 x1 x4 x39 x40 lo H10 κ
    else
    semigroup_morph_search_extend_3 k x0 x1 x4 x39 x40 lo H8 κ
  else
  κ () H := by kernel_rfl
theorem semigroup_morph_search_extend_3_eq {ρ : Type} (k : Nat) {x0 : Option Pt} {x1 : Sl} {x4 : Int} {x39 : Int} {x40 : Int} {lo : Nat} {H : AH} {κ : Unit → AH → Option ρ} : semigroup_morph_search_extend_3 (k + 1) x0 x1 x4 x39 x40 lo H κ =
  semigroup_morph_search_extend_2 k x0 x1 x4 x39 (W (x40 + 1)) lo H κ := by kernel_rfl
theorem morph_find_eq {ρ : Type} (k : Nat) {x0 : Sl} {x1 : Sl} {x2 : Bool} {x3 : Int} {lo : Nat} {H : AH} {κ : Sl → AH → Option ρ} : morph_find (k + 1) x0 x1 x2 x3 lo H κ =
  alc H [(.sl x0), (.sl x1), (.bool x2), (.int .i64 x3), (.sl ⟨none, 0⟩)] fun p1 H2 =>
  mks H2 [(.int .i64 0)] 8 (x0.len : Int) (x0.len : Int) fun s3 H4 =>
  morph_find_1 k (some p1) s3 (s3.len : Int) 0 lo H4 κ := by kernel_rfl
theorem morph_find_1_eq {ρ : Type} (k : Nat) {x9 : Option Pt} {x10 : Sl} {x22 : Int} {x23 : Int} {lo : Nat} {H : AH} {κ : Sl → AH → Option ρ} : morph_find_1 (k + 1) x9 x10 x22 x23 lo H κ =
  bif decide (x23 < x22) then
    idx x10 x23 1 fun p1 =>
    stc lo H p1 (.int .i64 (-1)) fun H2 =>
    morph_find_1 k x9 x10 x22 (W (x23 + 1)) lo H2 κ
  else
  semigroup_morph_search_extend k x9 x10 lo H fun _ H4 =>
  asP (.ptr x9) fun p5 => 
  ldc H4 ⟨p5.b, p5.o + 4⟩ fun u6 => asS u6 fun v7 =>
  κ v7 H4 := by kernel_rfl
theorem morph_Homs_eq {ρ : Type} (k : Nat) {x0 : Sl} {x1 : Sl} {lo : Nat} {H : AH} {κ : (Sl × Int) → AH → Option ρ} : morph_Homs (k + 1) x0 x1 lo H κ =
  morph_check k x0 x1 H.length H fun v1 H2 =>
  bif !decide (v1 = 0) then
    κ (⟨none, 0⟩, v1) H2
  else
  morph_find k x0 x1 false 2000 H2.length H2 fun v3 H4 =>
  bif decide ((v3.len : Int) > 2000) then
    κ (⟨none, 0⟩, 3) H4
  else
  κ (v3, 0) H4 := by kernel_rfl
theorem semigroupref03_Same_eq {ρ : Type} (k : Nat) {x0 : Sl} {x1 : Sl} {lo : Nat} {H : AH} {κ : Bool → AH → Option ρ} : semigroupref03_Same (k + 1) x0 x1 lo H κ =
  bif !decide ((x0.len : Int) = (x1.len : Int)) then
    κ false H
  else
  semigroupref03_Same_1 k x0 x1 (x0.len : Int) 0 lo H κ := by kernel_rfl
theorem semigroupref03_Same_1_eq {ρ : Type} (k : Nat) {x0 : Sl} {x1 : Sl} {x12 : Int} {x13 : Int} {lo : Nat} {H : AH} {κ : Bool → AH → Option ρ} : semigroupref03_Same_1 (k + 1) x0 x1 x12 x13 lo H κ =
  bif decide (x13 < x12) then
    rdI H x0 x13 fun v1 =>
    rdI H x1 x13 fun v2 =>
    bif !decide (v1 = v2) then
      κ false H
    else
    semigroupref03_Same_1 k x0 x1 x12 (W (x13 + 1)) lo H κ
  else
  κ true H := by kernel_rfl
theorem semigroupref03_SameRows_eq {ρ : Type} (k : Nat) {x0 : Sl} {x1 : Sl} {lo : Nat} {H : AH} {κ : Bool → AH → Option ρ} : semigroupref03_SameRows (k + 1) x0 x1 lo H κ =
  bif !decide ((x0.len : Int) = (x1.len : Int)) then
    κ false H
  else
  semigroupref03_SameRows_1 k x0 x1 (x0.len : Int) 0 lo H κ := by kernel_rfl
theorem semigroupref03_SameRows_1_eq {ρ : Type} (k : Nat) {x0 : Sl} {x1 : Sl} {x12 : Int} {x13 : Int} {lo : Nat} {H : AH} {κ : Bool → AH → Option ρ} : semigroupref03_SameRows_1 (k + 1) x0 x1 x12 x13 lo H κ =
  bif decide (x13 < x12) then
    rdS H x0 x13 fun v1 =>
    rdS H x1 x13 fun v2 =>
    semigroupref03_Same k v1 v2 H.length H fun v3 H4 =>
    bif !v3 then
      κ false H4
    else
    semigroupref03_SameRows_1 k x0 x1 x12 (W (x13 + 1)) lo H4 κ
  else
  κ true H := by kernel_rfl
theorem semigrouplaw20_awake_eq {ρ : Type} (k : Nat) {lo : Nat} {H : AH} {κ : Bool → AH → Option ρ} : semigrouplaw20_awake (k + 1) lo H κ =
  semigrouplaw20_two k  H.length H fun v1 H2 =>
  semigrouplaw20_two k  H2.length H2 fun v3 H4 =>
  morph_Homs k v1 v3 H4.length H4 fun r5 H6 =>
  andB (decide (r5.2 = 0)) (fun _ κ' => mkb H6 [(.int .i64 0), (.int .i64 0)] 1 2 fun s7 H8 =>
    mkb H8 [(.int .i64 0), (.int .i64 1)] 1 2 fun s9 H10 =>
    mkb H10 [(.sl s7), (.sl s9)] 1 2 fun s11 H12 =>
    semigroupref03_SameRows k r5.1 s11 H12.length H12 fun v13 H14 =>
    κ' v13 H14) H6 fun b15 H16 =>
  κ b15 H16 := by kernel_rfl
theorem semigroupref03_Discrete_eq {ρ : Type} (k : Nat) {x0 : Int} {lo : Nat} {H : AH} {κ : Sl → AH → Option ρ} : semigroupref03_Discrete (k + 1) x0 lo H κ =
  mks H [(.int .i64 0)] 8 x0 x0 fun s1 H2 =>
  semigroupref03_Discrete_1 k s1 (s1.len : Int) 0 lo H2 κ := by kernel_rfl
theorem semigroupref03_Discrete_1_eq {ρ : Type} (k : Nat) {x3 : Sl} {x8 : Int} {x9 : Int} {lo : Nat} {H : AH} {κ : Sl → AH → Option ρ} : semigroupref03_Discrete_1 (k + 1) x3 x8 x9 lo H κ =
  bif decide (x9 < x8) then
    idx x3 x9 1 fun p1 =>
    stc lo H p1 (.int .i64 x9) fun H2 =>
    semigroupref03_Discrete_1 k x3 x8 (W (x9 + 1)) lo H2 κ
  else
  κ x3 H := by kernel_rfl
theorem semigroupref03_Copy_eq {ρ : Type} (k : Nat) {x0 : Sl} {lo : Nat} {H : AH} {κ : Sl → AH → Option ρ} : semigroupref03_Copy (k + 1) x0 lo H κ =
  semigroupref03_Copy_1 k ⟨none, 0⟩ x0 (x0.len : Int) 0 lo H κ := by kernel_rfl
theorem semigroupref03_Copy_1_eq {ρ : Type} (k : Nat) {x3 : Sl} {x6 : Sl} {x7 : Int} {x8 : Int} {lo : Nat} {H : AH} {κ : Sl → AH → Option ρ} : semigroupref03_Copy_1 (k + 1) x3 x6 x7 x8 lo H κ =
  bif decide (x8 < x7) then
    rdS H x6 x8 fun v1 =>
    mkb H [] 1 0 fun s2 H3 =>
    appS lo H3 s2 v1 1 8 fun s4 H5 =>
    mkb H5 [(.sl s4)] 1 1 fun s6 H7 =>
    appS lo H7 x3 s6 1 24 fun s8 H9 =>
    semigroupref03_Copy_1 k s8 x6 x7 (W (x8 + 1)) lo H9 κ
  else
  κ x3 H := by kernel_rfl
theorem morph_Isomorphism_eq {ρ : Type} (k : Nat) {x0 : Sl} {x1 : Sl} {lo : Nat} {H : AH} {κ : (Sl × Bool × Int) → AH → Option ρ} : morph_Isomorphism (k + 1) x0 x1 lo H κ =
  morph_check k x0 x1 H.length H fun v1 H2 =>
  bif !decide (v1 = 0) then
    κ (⟨none, 0⟩, false, v1) H2
  else
  bif !decide ((x0.len : Int) = (x1.len : Int)) then
    κ (⟨none, 0⟩, false, 0) H2
  else
  morph_find k x0 x1 true 0 H2.length H2 fun v3 H4 =>
  bif decide ((v3.len : Int) = 0) then
    κ (⟨none, 0⟩, false, 0) H4
  else
  rdS H4 v3 0 fun v5 =>
  κ (v5, true, 0) H4 := by kernel_rfl
theorem morph_isHom_eq {ρ : Type} (k : Nat) {x0 : Sl} {x1 : Sl} {x2 : Sl} {lo : Nat} {H : AH} {κ : Bool → AH → Option ρ} : morph_isHom (k + 1) x0 x1 x2 lo H κ =
  bif !decide ((x2.len : Int) = (x0.len : Int)) then
    κ false H
  else
  morph_isHom_1 k x0 x1 x2 x2 (x2.len : Int) 0 lo H κ := by kernel_rfl
theorem morph_isHom_1_eq {ρ : Type} (k : Nat) {x0 : Sl} {x1 : Sl} {x2 : Sl} {x16 : Sl} {x17 : Int} {x18 : Int} {lo : Nat} {H : AH} {κ : Bool → AH → Option ρ} : morph_isHom_1 (k + 1) x0 x1 x2 x16 x17 x18 lo H κ =
  bif decide (x18 < x17) then
    rdI H x16 x18 fun v1 =>
    orB (decide (v1 < 0)) (fun _ κ' => κ' (decide (v1 ≥ (x1.len : Int))) H) H fun b2 H3 =>
    bif b2 then
      κ false H3
    else
    morph_isHom_1 k x0 x1 x2 x16 x17 (W (x18 + 1)) lo H3 κ
  else
  morph_isHom_2 k x0 x1 x2 (x0.len : Int) 0 lo H κ := by kernel_rfl
theorem morph_isHom_2_eq {ρ : Type} (k : Nat) {x0 : Sl} {x1 : Sl} {x2 : Sl} {x32 : Int} {x33 : Int} {lo : Nat} {H : AH} {κ : Bool → AH → Option ρ} : morph_isHom_2 (k + 1) x0 x1 x2 x32 x33 lo H κ =
  bif decide (x33 < x32) then
    morph_isHom_3 k x0 x1 x2 x33 x32 x33 (x0.len : Int) 0 lo H κ
  else
  κ true H := by kernel_rfl
theorem morph_isHom_3_eq {ρ : Type} (k : Nat) {x0 : Sl} {x1 : Sl} {x2 : Sl} {x9 : Int} {x32 : Int} {x33 : Int} {x37 : Int} {x38 : Int} {lo : Nat} {H : AH} {κ : Bool → AH → Option ρ} : morph_isHom_3 (k + 1) x0 x1 x2 x9 x32 x33 x37 x38 lo H κ =
  bif decide (x38 < x37) then
    rdS H x0 x9 fun v1 =>
    rdI H v1 x38 fun v2 =>
    rdI H x2 v2 fun v3 =>
    rdI H x2 x9 fun v4 =>
    rdS H x1 v4 fun v5 =>
    rdI H x2 x38 fun v6 =>
    rdI H v5 v6 fun v7 =>
    bif !decide (v3 = v7) then
      κ false H
    else
    morph_isHom_3 k x0 x1 x2 x9 x32 x33 x37 (W (x38 + 1)) lo H κ
  else
  morph_isHom_2 k x0 x1 x2 x32 (W (x33 + 1)) lo H κ := by kernel_rfl
theorem morph_IsHom_eq {ρ : Type} (k : Nat) {x0 : Sl} {x1 : Sl} {x2 : Sl} {lo : Nat} {H : AH} {κ : Bool → AH → Option ρ} : morph_IsHom (k + 1) x0 x1 x2 lo H κ =
  mult_Validate k x0 H.length H fun v1 H2 =>
  andB (decide (v1 = 0)) (fun _ κ' => mult_Validate k x1 H2.length H2 fun v3 H4 =>
    κ' (decide (v3 = 0)) H4) H2 fun b5 H6 =>
  andB b5 (fun _ κ' => morph_isHom k x0 x1 x2 H6.length H6 fun v7 H8 =>
    κ' v7 H8) H6 fun b9 H10 =>
  κ b9 H10 := by kernel_rfl
theorem morph_Image_eq {ρ : Type} (k : Nat) {x0 : Sl} {x1 : Sl} {x2 : Sl} {lo : Nat} {H : AH} {κ : Sl → AH → Option ρ} : morph_Image (k + 1) x0 x1 x2 lo H κ =
  morph_IsHom k x0 x1 x2 H.length H fun v1 H2 =>
  bif !v1 then
    κ ⟨none, 0⟩ H2
  else
  mks H2 [(.bool false)] 1 (x1.len : Int) (x1.len : Int) fun s3 H4 =>
  morph_Image_1 k s3 x2 (x2.len : Int) 0 lo H4 κ := by kernel_rfl
theorem morph_Image_1_eq {ρ : Type} (k : Nat) {x7 : Sl} {x21 : Sl} {x22 : Int} {x23 : Int} {lo : Nat} {H : AH} {κ : Sl → AH → Option ρ} : morph_Image_1 (k + 1) x7 x21 x22 x23 lo H κ =
  bif decide (x23 < x22) then
    rdI H x21 x23 fun v1 =>
    idx x7 v1 1 fun p2 =>
    stc lo H p2 (.bool true) fun H3 =>
    morph_Image_1 k x7 x21 x22 (W (x23 + 1)) lo H3 κ
  else
  morph_Image_2 k ⟨none, 0⟩ x7 (x7.len : Int) 0 lo H κ := by kernel_rfl
theorem morph_Image_2_eq {ρ : Type} (k : Nat) {x10 : Sl} {x31 : Sl} {x32 : Int} {x33 : Int} {lo : Nat} {H : AH} {κ : Sl → AH → Option ρ} : morph_Image_2 (k + 1) x10 x31 x32 x33 lo H κ =
  bif decide (x33 < x32) then
    rdB H x31 x33 fun v1 =>
    bif v1 then
      mkb H [(.int .i64 x33)] 1 1 fun s2 H3 =>
      appS lo H3 x10 s2 1 8 fun s4 H5 =>
      morph_Image_3 k s4 x31 x32 x33 lo H5 κ
    else
    morph_Image_3 k x10 x31 x32 x33 lo H κ
  else
  κ x10 H := by kernel_rfl
theorem morph_Image_3_eq {ρ : Type} (k : Nat) {x10 : Sl} {x31 : Sl} {x32 : Int} {x33 : Int} {lo : Nat} {H : AH} {κ : Sl → AH → Option ρ} : morph_Image_3 (k + 1) x10 x31 x32 x33 lo H κ =
  morph_Image_2 k x10 x31 x32 (W (x33 + 1)) lo H κ := by kernel_rfl
theorem morph_Automorphisms_eq {ρ : Type} (k : Nat) {x0 : Sl} {lo : Nat} {H : AH} {κ : (Sl × Int) → AH → Option ρ} : morph_Automorphisms (k + 1) x0 lo H κ =
  morph_check k x0 x0 H.length H fun v1 H2 =>
  bif !decide (v1 = 0) then
    κ (⟨none, 0⟩, v1) H2
  else
  morph_find k x0 x0 true 2000 H2.length H2 fun v3 H4 =>
  bif decide ((v3.len : Int) > 2000) then
    κ (⟨none, 0⟩, 3) H4
  else
  κ (v3, 0) H4 := by kernel_rfl
theorem semigrouplaw20_MorphRenames_eq {ρ : Type} (k : Nat) {x0 : Sl} {x1 : Sl} {x2 : Int} {x3 : Int} {lo : Nat} {H : AH} {κ : Bool → AH → Option ρ} : semigrouplaw20_MorphRenames (k + 1) x0 x1 x2 x3 lo H κ =
  semigrouplaw20_small k x0 6 H.length H fun v1 H2 =>
  bif !v1 then
    semigrouplaw20_awake k  H2.length H2 fun v3 H4 =>
    κ v3 H4
  else
  semigroupref03_Discrete k (x0.len : Int) H2.length H2 fun v5 H6 =>
  semigrouplaw20_MorphRenames_1 k x0 x2 x3 (x0.len : Int) v5 x1 (x1.len : Int) 0 lo H6 κ := by kernel_rfl
theorem semigrouplaw20_MorphRenames_1_eq {ρ : Type} (k : Nat) {x0 : Sl} {x2 : Int} {x3 : Int} {x9 : Int} {x10 : Sl} {x39 : Sl} {x40 : Int} {x41 : Int} {lo : Nat} {H : AH} {κ : Bool → AH → Option ρ} : semigrouplaw20_MorphRenames_1 (k + 1) x0 x2 x3 x9 x10 x39 x40 x41 lo H κ =
  bif decide (x41 < x40) then
    rdI H x39 x41 fun v1 =>
    bif decide (x41 < x9) then
      bif decide (x9 = 0) then none else
      bif decide (x9 = 0) then none else
      rdI H x10 (Int.tmod (W ((Int.tmod v1 x9) + x9)) x9) fun v2 =>
      rdI H x10 x41 fun v3 =>
      idx x10 x41 1 fun p4 =>
      stc lo H p4 (.int .i64 v2) fun H5 =>
      idx x10 (Int.tmod (W ((Int.tmod v1 x9) + x9)) x9) 1 fun p6 =>
      stc lo H5 p6 (.int .i64 v3) fun H7 =>
      semigrouplaw20_MorphRenames_2 k x0 x2 x3 x9 x10 x39 x40 x41 lo H7 κ
    else
    semigrouplaw20_MorphRenames_2 k x0 x2 x3 x9 x10 x39 x40 x41 lo H κ
  else
  semigroupref03_Copy k x0 H.length H fun v8 H9 =>
  semigrouplaw20_MorphRenames_3 k x0 x2 x3 x9 x10 v8 (x0.len : Int) 0 lo H9 κ := by kernel_rfl
theorem semigrouplaw20_MorphRenames_2_eq {ρ : Type} (k : Nat) {x0 : Sl} {x2 : Int} {x3 : Int} {x9 : Int} {x10 : Sl} {x39 : Sl} {x40 : Int} {x41 : Int} {lo : Nat} {H : AH} {κ : Bool → AH → Option ρ} : semigrouplaw20_MorphRenames_2 (k + 1) x0 x2 x3 x9 x10 x39 x40 x41 lo H κ =
  semigrouplaw20_MorphRenames_1 k x0 x2 x3 x9 x10 x39 x40 (W (x41 + 1)) lo H κ := by kernel_rfl
theorem semigrouplaw20_MorphRenames_3_eq {ρ : Type} (k : Nat) {x0 : Sl} {x2 : Int} {x3 : Int} {x9 : Int} {x10 : Sl} {x14 : Sl} {x74 : Int} {x75 : Int} {lo : Nat} {H : AH} {κ : Bool → AH → Option ρ} : semigrouplaw20_MorphRenames_3 (k + 1) x0 x2 x3 x9 x10 x14 x74 x75 lo H κ =
  bif decide (x75 < x74) then
    semigrouplaw20_MorphRenames_4 k x0 x2 x3 x9 x10 x14 x75 x74 x75 (x0.len : Int) 0 lo H κ
  else
  morph_Isomorphism k x0 x14 H.length H fun r1 H2 =>
  orB (!decide (r1.2.2 = 0)) (fun _ κ' => κ' (!r1.2.1) H2) H2 fun b3 H4 =>
  orB b3 (fun _ κ' => morph_IsHom k x0 x14 r1.1 H4.length H4 fun v5 H6 =>
    κ' (!v5) H6) H4 fun b7 H8 =>
  orB b7 (fun _ κ' => morph_Image k x0 x14 r1.1 H8.length H8 fun v9 H10 =>
    κ' (!decide ((v9.len : Int) = x9)) H10) H8 fun b11 H12 =>
  bif b11 then
    κ false H12
  else
  morph_Automorphisms k x0 H12.length H12 fun r13 H14 =>
  orB (!decide (r13.2 = 0)) (fun _ κ' => κ' (decide ((r13.1.len : Int) < 1)) H14) H14 fun b15 H16 =>
  orB b15 (fun _ κ' => rdS H16 r13.1 0 fun v17 =>
    κ' (!decide ((v17.len : Int) = x9)) H16) H16 fun b18 H19 =>
  bif b18 then
    κ false H19
  else
  bif decide ((r13.1.len : Int) = 0) then none else
  bif decide ((r13.1.len : Int) = 0) then none else
  rdS H19 r13.1 (Int.tmod (W ((Int.tmod x2 (r13.1.len : Int)) + (r13.1.len : Int))) (r13.1.len : Int)) fun v20 =>
  bif decide ((r13.1.len : Int) = 0) then none else
  bif decide ((r13.1.len : Int) = 0) then none else
  rdS H19 r13.1 (Int.tmod (W ((Int.tmod x3 (r13.1.len : Int)) + (r13.1.len : Int))) (r13.1.len : Int)) fun v21 =>
  semigrouplaw20_MorphRenames_5 k r13.1 v21 ⟨none, 0⟩ v20 (v20.len : Int) 0 lo H19 κ := by kernel_rfl
theorem semigrouplaw20_MorphRenames_4_eq {ρ : Type} (k : Nat) {x0 : Sl} {x2 : Int} {x3 : Int} {x9 : Int} {x10 : Sl} {x14 : Sl} {x15 : Int} {x74 : Int} {x75 : Int} {x79 : Int} {x80 : Int} {lo : Nat} {H : AH} {κ : Bool → AH → Option ρ} : semigrouplaw20_MorphRenames_4 (k + 1) x0 x2 x3 x9 x10 x14 x15 x74 x75 x79 x80 lo H κ =
  bif decide (x80 < x79) then
    rdI H x10 x15 fun v1 =>
    rdS H x14 v1 fun v2 =>
    rdI H x10 x80 fun v3 =>
    rdS H x0 x15 fun v4 =>
    rdI H v4 x80 fun v5 =>
    rdI H x10 v5 fun v6 =>
    idx v2 v3 1 fun p7 =>
    stc lo H p7 (.int .i64 v6) fun H8 =>
    semigrouplaw20_MorphRenames_4 k x0 x2 x3 x9 x10 x14 x15 x74 x75 x79 (W (x80 + 1)) lo H8 κ
  else
  semigrouplaw20_MorphRenames_3 k x0 x2 x3 x9 x10 x14 x74 (W (x75 + 1)) lo H κ := by kernel_rfl
theorem semigrouplaw20_MorphRenames_5_eq {ρ : Type} (k : Nat) {x20 : Sl} {x24 : Sl} {x25 : Sl} {x177 : Sl} {x178 : Int} {x179 : Int} {lo : Nat} {H : AH} {κ : Bool → AH → Option ρ} : semigrouplaw20_MorphRenames_5 (k + 1) x20 x24 x25 x177 x178 x179 lo H κ =
  bif decide (x179 < x178) then
    rdI H x177 x179 fun v1 =>
    orB (decide (v1 < 0)) (fun _ κ' => κ' (decide (v1 ≥ (x24.len : Int))) H) H fun b2 H3 =>
    bif b2 then
      κ false H3
    else
    rdI H3 x24 v1 fun v4 =>
    mkb H3 [(.int .i64 v4)] 1 1 fun s5 H6 =>
    appS lo H6 x25 s5 1 8 fun s7 H8 =>
    semigrouplaw20_MorphRenames_5 k x20 x24 s7 x177 x178 (W (x179 + 1)) lo H8 κ
  else
  semigrouplaw20_MorphRenames_6 k x25 false x20 (x20.len : Int) 0 lo H κ := by kernel_rfl
theorem semigrouplaw20_MorphRenames_6_eq {ρ : Type} (k : Nat) {x25 : Sl} {x28 : Bool} {x199 : Sl} {x200 : Int} {x201 : Int} {lo : Nat} {H : AH} {κ : Bool → AH → Option ρ} : semigrouplaw20_MorphRenames_6 (k + 1) x25 x28 x199 x200 x201 lo H κ =
  bif decide (x201 < x200) then
    rdS H x199 x201 fun v1 =>
    orB x28 (fun _ κ' => semigroupref03_Same k v1 x25 H.length H fun v2 H3 =>
      κ' v2 H3) H fun b4 H5 =>
    semigrouplaw20_MorphRenames_6 k x25 b4 x199 x200 (W (x201 + 1)) lo H5 κ
  else
  andB x28 (fun _ κ' => semigrouplaw20_awake k  H.length H fun v6 H7 =>
    κ' v6 H7) H fun b8 H9 =>
  κ b8 H9 := by kernel_rfl
end Go.Ab
