/- Each label's equation. Printed. -/
import Derived.Test.YtdoggefpmamoiaaRMorphFactorsIr
import Derived.Test.YtdoggefpmamoiaaAbA3
import Derived.KernelRfl
set_option linter.unusedVariables false
namespace Go.Ab
theorem noid_ok : noidG G = true := by kernel_rfl
theorem semigrouplaw20_awake_true {H : AH} : Ev (fun _ k κ => semigrouplaw20_awake k H.length H κ) (fun v _ => v = true) := ev_awake (k := 400) noid_ok (by kernel_rfl) H
theorem semigroupref14_Shape_eq {ρ : Type} (k : Nat) {x0 : Sl} {lo : Nat} {H : AH} {κ : Int → AH → Option ρ} : semigroupref14_Shape (k + 1) x0 lo H κ =
  bif decide ((x0.len : Int) > 400) then
    κ 3 H
  else
  bif decide ((x0.len : Int) = 0) then
    κ 4 H
  else
  semigroupref14_Shape_1 k x0 x0 (x0.len : Int) 0 lo H κ := by kernel_rfl
theorem semigroupref14_Shape_1_eq {ρ : Type} (k : Nat) {x0 : Sl} {x13 : Sl} {x14 : Int} {x15 : Int} {lo : Nat} {H : AH} {κ : Int → AH → Option ρ} : semigroupref14_Shape_1 (k + 1) x0 x13 x14 x15 lo H κ =
  bif decide (x15 < x14) then
    rdS H x13 x15 fun v1 =>
    bif !decide ((v1.len : Int) = (x0.len : Int)) then
      κ 4 H
    else
    semigroupref14_Shape_2 k x0 x13 x14 x15 v1 (v1.len : Int) 0 lo H κ
  else
  κ 0 H := by kernel_rfl
theorem semigroupref14_Shape_2_eq {ρ : Type} (k : Nat) {x0 : Sl} {x13 : Sl} {x14 : Int} {x15 : Int} {x24 : Sl} {x25 : Int} {x26 : Int} {lo : Nat} {H : AH} {κ : Int → AH → Option ρ} : semigroupref14_Shape_2 (k + 1) x0 x13 x14 x15 x24 x25 x26 lo H κ =
  bif decide (x26 < x25) then
    rdI H x24 x26 fun v1 =>
    orB (decide (v1 < 0)) (fun _ κ' => κ' (decide (v1 ≥ (x0.len : Int))) H) H fun b2 H3 =>
    bif b2 then
      κ 4 H3
    else
    semigroupref14_Shape_2 k x0 x13 x14 x15 x24 x25 (W (x26 + 1)) lo H3 κ
  else
  semigroupref14_Shape_1 k x0 x13 x14 (W (x15 + 1)) lo H κ := by kernel_rfl
theorem semigrouplaw20_large_eq {ρ : Type} (k : Nat) {x0 : Sl} {x1 : Int} {lo : Nat} {H : AH} {κ : Bool → AH → Option ρ} : semigrouplaw20_large (k + 1) x0 x1 lo H κ =
  andB (decide ((x0.len : Int) > x1)) (fun _ κ' => semigroupref14_Shape k x0 H.length H fun v1 H2 =>
    κ' (decide (v1 = 0)) H2) H fun b3 H4 =>
  κ b3 H4 := by kernel_rfl
theorem semigrouplaw20_two_eq {ρ : Type} (k : Nat) {lo : Nat} {H : AH} {κ : Sl → AH → Option ρ} : semigrouplaw20_two (k + 1) lo H κ =
  mkb H [(.int .i64 0), (.int .i64 1)] 1 2 fun s1 H2 =>
  mkb H2 [(.int .i64 1), (.int .i64 0)] 1 2 fun s3 H4 =>
  mkb H4 [(.sl s1), (.sl s3)] 1 2 fun s5 H6 =>
  κ s5 H6 := by kernel_rfl
theorem mult_shape_eq {ρ : Type} (k : Nat) {x0 : Sl} {lo : Nat} {H : AH} {κ : Int → AH → Option ρ} : mult_shape (k + 1) x0 lo H κ =
  bif decide ((x0.len : Int) > 400) then
    κ 3 H
  else
  bif decide ((x0.len : Int) = 0) then
    κ 4 H
  else
  mult_shape_1 k x0 x0 (x0.len : Int) 0 lo H κ := by kernel_rfl
theorem mult_shape_1_eq {ρ : Type} (k : Nat) {x0 : Sl} {x15 : Sl} {x16 : Int} {x17 : Int} {lo : Nat} {H : AH} {κ : Int → AH → Option ρ} : mult_shape_1 (k + 1) x0 x15 x16 x17 lo H κ =
  bif decide (x17 < x16) then
    rdS H x15 x17 fun v1 =>
    bif !decide ((v1.len : Int) = (x0.len : Int)) then
      κ 4 H
    else
    mult_shape_2 k x0 x15 x16 x17 v1 (v1.len : Int) 0 lo H κ
  else
  κ 0 H := by kernel_rfl
theorem mult_shape_2_eq {ρ : Type} (k : Nat) {x0 : Sl} {x15 : Sl} {x16 : Int} {x17 : Int} {x26 : Sl} {x27 : Int} {x28 : Int} {lo : Nat} {H : AH} {κ : Int → AH → Option ρ} : mult_shape_2 (k + 1) x0 x15 x16 x17 x26 x27 x28 lo H κ =
  bif decide (x28 < x27) then
    rdI H x26 x28 fun v1 =>
    orB (decide (v1 < 0)) (fun _ κ' => κ' (decide (v1 ≥ (x0.len : Int))) H) H fun b2 H3 =>
    bif b2 then
      κ 4 H3
    else
    mult_shape_2 k x0 x15 x16 x17 x26 x27 (W (x28 + 1)) lo H3 κ
  else
  mult_shape_1 k x0 x15 x16 (W (x17 + 1)) lo H κ := by kernel_rfl
theorem mult_failing_eq {ρ : Type} (k : Nat) {x0 : Sl} {lo : Nat} {H : AH} {κ : (Int × Int × Int × Bool) → AH → Option ρ} : mult_failing (k + 1) x0 lo H κ =
  mult_failing_1 k x0 (x0.len : Int) 0 lo H κ := by kernel_rfl
theorem mult_failing_1_eq {ρ : Type} (k : Nat) {x0 : Sl} {x10 : Int} {x11 : Int} {lo : Nat} {H : AH} {κ : (Int × Int × Int × Bool) → AH → Option ρ} : mult_failing_1 (k + 1) x0 x10 x11 lo H κ =
  bif decide (x11 < x10) then
    mult_failing_2 k x0 x11 x10 x11 (x0.len : Int) 0 lo H κ
  else
  κ (0, 0, 0, false) H := by kernel_rfl
theorem mult_failing_2_eq {ρ : Type} (k : Nat) {x0 : Sl} {x6 : Int} {x10 : Int} {x11 : Int} {x15 : Int} {x16 : Int} {lo : Nat} {H : AH} {κ : (Int × Int × Int × Bool) → AH → Option ρ} : mult_failing_2 (k + 1) x0 x6 x10 x11 x15 x16 lo H κ =
  bif decide (x16 < x15) then
    mult_failing_3 k x0 x6 x16 x10 x11 x15 x16 (x0.len : Int) 0 lo H κ
  else
  mult_failing_1 k x0 x10 (W (x11 + 1)) lo H κ := by kernel_rfl
theorem mult_failing_3_eq {ρ : Type} (k : Nat) {x0 : Sl} {x6 : Int} {x7 : Int} {x10 : Int} {x11 : Int} {x15 : Int} {x16 : Int} {x20 : Int} {x21 : Int} {lo : Nat} {H : AH} {κ : (Int × Int × Int × Bool) → AH → Option ρ} : mult_failing_3 (k + 1) x0 x6 x7 x10 x11 x15 x16 x20 x21 lo H κ =
  bif decide (x21 < x20) then
    rdS H x0 x6 fun v1 =>
    rdI H v1 x7 fun v2 =>
    rdS H x0 v2 fun v3 =>
    rdI H v3 x21 fun v4 =>
    rdS H x0 x6 fun v5 =>
    rdS H x0 x7 fun v6 =>
    rdI H v6 x21 fun v7 =>
    rdI H v5 v7 fun v8 =>
    bif !decide (v4 = v8) then
      κ (x6, x7, x21, true) H
    else
    mult_failing_3 k x0 x6 x7 x10 x11 x15 x16 x20 (W (x21 + 1)) lo H κ
  else
  mult_failing_2 k x0 x6 x10 x11 x15 (W (x16 + 1)) lo H κ := by kernel_rfl
theorem mult_Validate_eq {ρ : Type} (k : Nat) {x0 : Sl} {lo : Nat} {H : AH} {κ : Int → AH → Option ρ} : mult_Validate (k + 1) x0 lo H κ =
  mult_shape k x0 H.length H fun v1 H2 =>
  bif !decide (v1 = 0) then
    κ v1 H2
  else
  mult_failing k x0 H2.length H2 fun r3 H4 =>
  bif r3.2.2.2 then
    κ 5 H4
  else
  κ 0 H4 := by kernel_rfl
theorem morph_check_eq {ρ : Type} (k : Nat) {x0 : Sl} {x1 : Sl} {lo : Nat} {H : AH} {κ : Int → AH → Option ρ} : morph_check (k + 1) x0 x1 lo H κ =
  mult_Validate k x0 H.length H fun v1 H2 =>
  bif !decide (v1 = 0) then
    κ v1 H2
  else
  mult_Validate k x1 H2.length H2 fun v3 H4 =>
  bif !decide (v3 = 0) then
    κ v3 H4
  else
  orB (decide ((x0.len : Int) > 8)) (fun _ κ' => κ' (decide ((x1.len : Int) > 8)) H4) H4 fun b5 H6 =>
  bif b5 then
    κ 3 H6
  else
  κ 0 H6 := by kernel_rfl
theorem semigroup_morph_search_set_eq {ρ : Type} (k : Nat) {x0 : Option Pt} {x1 : Sl} {x2 : Int} {x3 : Int} {lo : Nat} {H : AH} {κ : (Sl × Bool) → AH → Option ρ} : semigroup_morph_search_set (k + 1) x0 x1 x2 x3 lo H κ =
  mkb H [] 1 0 fun s1 H2 =>
  appS lo H2 s1 x1 1 8 fun s3 H4 =>
  mkb H4 [(.int .i64 x2), (.int .i64 x3)] 2 1 fun s5 H6 =>
  semigroup_morph_search_set_1 k x0 s3 s5 lo H6 κ := by kernel_rfl
theorem semigroup_morph_search_set_1_eq {ρ : Type} (k : Nat) {x0 : Option Pt} {x1 : Sl} {x10 : Sl} {lo : Nat} {H : AH} {κ : (Sl × Bool) → AH → Option ρ} : semigroup_morph_search_set_1 (k + 1) x0 x1 x10 lo H κ =
  bif decide ((x10.len : Int) > 0) then
    idx x10 (W ((x10.len : Int) - 1)) 2 fun p1 =>
    ldA_ii H p1 fun v2 v3 =>
    alc H [(.int .i64 0), (.int .i64 0)] fun p4 H5 =>
    stn lo H5 p4 [(.int .i64 v2), (.int .i64 v3)] fun H6 =>
    slc x10 0 (W ((x10.len : Int) - 1)) 2 fun s7 =>
    ldc H6 ⟨p4.b, p4.o + 0⟩ fun u8 => asI .i64 u8 fun v9 =>
    rdI H6 x1 v9 fun v10 =>
    bif decide (v10 ≥ 0) then
      ldc H6 ⟨p4.b, p4.o + 0⟩ fun u11 => asI .i64 u11 fun v12 =>
      rdI H6 x1 v12 fun v13 =>
      ldc H6 ⟨p4.b, p4.o + 1⟩ fun u14 => asI .i64 u14 fun v15 =>
      bif !decide (v13 = v15) then
        κ (⟨none, 0⟩, false) H6
      else
      semigroup_morph_search_set_1 k x0 x1 s7 lo H6 κ
    else
    semigroup_morph_search_set_2 k x0 x1 s7 (some p4) x1 (x1.len : Int) 0 lo H6 κ
  else
  κ (x1, true) H := by kernel_rfl
theorem semigroup_morph_search_set_2_eq {ρ : Type} (k : Nat) {x0 : Option Pt} {x1 : Sl} {x10 : Sl} {x11 : Option Pt} {x51 : Sl} {x52 : Int} {x53 : Int} {lo : Nat} {H : AH} {κ : (Sl × Bool) → AH → Option ρ} : semigroup_morph_search_set_2 (k + 1) x0 x1 x10 x11 x51 x52 x53 lo H κ =
  bif decide (x53 < x52) then
    rdI H x51 x53 fun v1 =>
    asP (.ptr x0) fun p2 => 
    ldc H ⟨p2.b, p2.o + 2⟩ fun u3 => asB u3 fun v4 =>
    andB v4 (fun _ κ' => asP (.ptr x11) fun p5 => ldc H ⟨p5.b, p5.o + 1⟩ fun u6 => asI .i64 u6 fun v7 =>
      κ' (decide (v1 = v7)) H) H fun b8 H9 =>
    bif b8 then
      κ (⟨none, 0⟩, false) H9
    else
    semigroup_morph_search_set_2 k x0 x1 x10 x11 x51 x52 (W (x53 + 1)) lo H9 κ
  else
  asP (.ptr x11) fun p10 => ldc H ⟨p10.b, p10.o + 0⟩ fun u11 => asI .i64 u11 fun v12 =>
  asP (.ptr x11) fun p13 => ldc H ⟨p13.b, p13.o + 1⟩ fun u14 => asI .i64 u14 fun v15 =>
  idx x1 v12 1 fun p16 =>
  stc lo H p16 (.int .i64 v15) fun H17 =>
  semigroup_morph_search_set_3 k x0 x1 x10 x11 x1 (x1.len : Int) 0 lo H17 κ := by kernel_rfl
theorem semigroup_morph_search_set_3_eq {ρ : Type} (k : Nat) {x0 : Option Pt} {x1 : Sl} {x10 : Sl} {x11 : Option Pt} {x74 : Sl} {x75 : Int} {x76 : Int} {lo : Nat} {H : AH} {κ : (Sl × Bool) → AH → Option ρ} : semigroup_morph_search_set_3 (k + 1) x0 x1 x10 x11 x74 x75 x76 lo H κ =
  bif decide (x76 < x75) then
    rdI H x74 x76 fun v1 =>
    bif decide (v1 ≥ 0) then
      asP (.ptr x0) fun p2 => 
      ldc H ⟨p2.b, p2.o + 0⟩ fun u3 => asS u3 fun v4 =>
      asP (.ptr x11) fun p5 => ldc H ⟨p5.b, p5.o + 0⟩ fun u6 => asI .i64 u6 fun v7 =>
      rdS H v4 v7 fun v8 =>
      rdI H v8 x76 fun v9 =>
      asP (.ptr x0) fun p10 => 
      ldc H ⟨p10.b, p10.o + 1⟩ fun u11 => asS u11 fun v12 =>
      asP (.ptr x11) fun p13 => ldc H ⟨p13.b, p13.o + 1⟩ fun u14 => asI .i64 u14 fun v15 =>
      rdS H v12 v15 fun v16 =>
      rdI H v16 v1 fun v17 =>
      asP (.ptr x0) fun p18 => 
      ldc H ⟨p18.b, p18.o + 0⟩ fun u19 => asS u19 fun v20 =>
      rdS H v20 x76 fun v21 =>
      asP (.ptr x11) fun p22 => ldc H ⟨p22.b, p22.o + 0⟩ fun u23 => asI .i64 u23 fun v24 =>
      rdI H v21 v24 fun v25 =>
      asP (.ptr x0) fun p26 => 
      ldc H ⟨p26.b, p26.o + 1⟩ fun u27 => asS u27 fun v28 =>
      rdS H v28 v1 fun v29 =>
      asP (.ptr x11) fun p30 => ldc H ⟨p30.b, p30.o + 1⟩ fun u31 => asI .i64 u31 fun v32 =>
      rdI H v29 v32 fun v33 =>
      mkb H [(.int .i64 v9), (.int .i64 v17), (.int .i64 v25), (.int .i64 v33)] 2 2 fun s34 H35 =>
      appS lo H35 x10 s34 2 16 fun s36 H37 =>
      semigroup_morph_search_set_4 k x0 x1 s36 x11 x74 x75 x76 lo H37 κ
    else
    semigroup_morph_search_set_4 k x0 x1 x10 x11 x74 x75 x76 lo H κ
  else
  semigroup_morph_search_set_1 k x0 x1 x10 lo H κ := by kernel_rfl
theorem semigroup_morph_search_set_4_eq {ρ : Type} (k : Nat) {x0 : Option Pt} {x1 : Sl} {x10 : Sl} {x11 : Option Pt} {x74 : Sl} {x75 : Int} {x76 : Int} {lo : Nat} {H : AH} {κ : (Sl × Bool) → AH → Option ρ} : semigroup_morph_search_set_4 (k + 1) x0 x1 x10 x11 x74 x75 x76 lo H κ =
  semigroup_morph_search_set_3 k x0 x1 x10 x11 x74 x75 (W (x76 + 1)) lo H κ := by kernel_rfl
theorem semigroup_morph_search_extend_eq {ρ : Type} (k : Nat) {x0 : Option Pt} {x1 : Sl} {lo : Nat} {H : AH} {κ : Unit → AH → Option ρ} : semigroup_morph_search_extend (k + 1) x0 x1 lo H κ =
  semigroup_morph_search_extend_1 k x0 x1 0 lo H κ := by kernel_rfl
theorem semigroup_morph_search_extend_1_eq {ρ : Type} (k : Nat) {x0 : Option Pt} {x1 : Sl} {x4 : Int} {lo : Nat} {H : AH} {κ : Unit → AH → Option ρ} : semigroup_morph_search_extend_1 (k + 1) x0 x1 x4 lo H κ =
  andB (decide (x4 < (x1.len : Int))) (fun _ κ' => rdI H x1 x4 fun v1 =>
    κ' (decide (v1 ≥ 0)) H) H fun b2 H3 =>
  bif b2 then
    semigroup_morph_search_extend_1 k x0 x1 (W (x4 + 1)) lo H3 κ
  else
  bif decide (x4 = (x1.len : Int)) then
    asP (.ptr x0) fun p4 => 
    ldc H3 ⟨p4.b, p4.o + 4⟩ fun u5 => asS u5 fun v6 =>
    mkb H3 [(.sl x1)] 1 1 fun s7 H8 =>
    appS lo H8 v6 s7 1 24 fun s9 H10 =>
    asP (.ptr x0) fun p11 => 
    stc lo H10 ⟨p11.b, p11.o + 4⟩ (.sl s9) fun H12 =>
    κ () H12
  else
  asP (.ptr x0) fun p13 => 
  ldc H3 ⟨p13.b, p13.o + 1⟩ fun u14 => asS u14 fun v15 =>
  semigroup_morph_search_extend_2 k x0 x1 x4 (v15.len : Int) 0 lo H3 κ := by kernel_rfl
theorem semigroup_morph_search_extend_2_eq {ρ : Type} (k : Nat) {x0 : Option Pt} {x1 : Sl} {x4 : Int} {x39 : Int} {x40 : Int} {lo : Nat} {H : AH} {κ : Unit → AH → Option ρ} : semigroup_morph_search_extend_2 (k + 1) x0 x1 x4 x39 x40 lo H κ =
  bif decide (x40 < x39) then
    asP (.ptr x0) fun p1 => 
    ldc H ⟨p1.b, p1.o + 4⟩ fun u2 => asS u2 fun v3 =>
    asP (.ptr x0) fun p4 => 
    ldc H ⟨p4.b, p4.o + 3⟩ fun u5 => asI .i64 u5 fun v6 =>
    bif decide ((v3.len : Int) > v6) then
      κ () H
    else
    semigroup_morph_search_set k x0 x1 x4 x40 lo H fun r7 H8 =>
    bif r7.2 then
      semigroup_morph_search_extend k x0 r7.1 lo H8 fun _ H10 =>
      semigroup_morph_search_extend_3 k x0 x1 x4 x39 x40 lo H10 κ
    else
    semigroup_morph_search_extend_3 k x0 x1 x4 x39 x40 lo H8 κ
  else
  κ () H := by kernel_rfl
theorem semigroup_morph_search_extend_3_eq {ρ : Type} (k : Nat) {x0 : Option Pt} {x1 : Sl} {x4 : Int} {x39 : Int} {x40 : Int} {lo : Nat} {H : AH} {κ : Unit → AH → Option ρ} : semigroup_morph_search_extend_3 (k + 1) x0 x1 x4 x39 x40 lo H κ =
  semigroup_morph_search_extend_2 k x0 x1 x4 x39 (W (x40 + 1)) lo H κ := by kernel_rfl
theorem morph_find_eq {ρ : Type} (k : Nat) {x0 : Sl} {x1 : Sl} {x2 : Bool} {x3 : Int} {lo : Nat} {H : AH} {κ : Sl → AH → Option ρ} : morph_find (k + 1) x0 x1 x2 x3 lo H κ =
  alc H [(.sl x0), (.sl x1), (.bool x2), (.int .i64 x3), (.sl ⟨none, 0⟩)] fun p1 H2 =>
  mks H2 [(.int .i64 0)] 8 (x0.len : Int) (x0.len : Int) fun s3 H4 =>
  morph_find_1 k (some p1) s3 (s3.len : Int) 0 lo H4 κ := by kernel_rfl
theorem morph_find_1_eq {ρ : Type} (k : Nat) {x9 : Option Pt} {x10 : Sl} {x22 : Int} {x23 : Int} {lo : Nat} {H : AH} {κ : Sl → AH → Option ρ} : morph_find_1 (k + 1) x9 x10 x22 x23 lo H κ =
  bif decide (x23 < x22) then
    idx x10 x23 1 fun p1 =>
    stc lo H p1 (.int .i64 (-1)) fun H2 =>
    morph_find_1 k x9 x10 x22 (W (x23 + 1)) lo H2 κ
  else
  semigroup_morph_search_extend k x9 x10 lo H fun _ H4 =>
  asP (.ptr x9) fun p5 => 
  ldc H4 ⟨p5.b, p5.o + 4⟩ fun u6 => asS u6 fun v7 =>
  κ v7 H4 := by kernel_rfl
theorem morph_Homs_eq {ρ : Type} (k : Nat) {x0 : Sl} {x1 : Sl} {lo : Nat} {H : AH} {κ : (Sl × Int) → AH → Option ρ} : morph_Homs (k + 1) x0 x1 lo H κ =
  morph_check k x0 x1 H.length H fun v1 H2 =>
  bif !decide (v1 = 0) then
    κ (⟨none, 0⟩, v1) H2
  else
  morph_find k x0 x1 false 2000 H2.length H2 fun v3 H4 =>
  bif decide ((v3.len : Int) > 2000) then
    κ (⟨none, 0⟩, 3) H4
  else
  κ (v3, 0) H4 := by kernel_rfl
theorem semigroupref03_Same_eq {ρ : Type} (k : Nat) {x0 : Sl} {x1 : Sl} {lo : Nat} {H : AH} {κ : Bool → AH → Option ρ} : semigroupref03_Same (k + 1) x0 x1 lo H κ =
  bif !decide ((x0.len : Int) = (x1.len : Int)) then
    κ false H
  else
  semigroupref03_Same_1 k x0 x1 (x0.len : Int) 0 lo H κ := by kernel_rfl
theorem semigroupref03_Same_1_eq {ρ : Type} (k : Nat) {x0 : Sl} {x1 : Sl} {x12 : Int} {x13 : Int} {lo : Nat} {H : AH} {κ : Bool → AH → Option ρ} : semigroupref03_Same_1 (k + 1) x0 x1 x12 x13 lo H κ =
  bif decide (x13 < x12) then
    rdI H x0 x13 fun v1 =>
    rdI H x1 x13 fun v2 =>
    bif !decide (v1 = v2) then
      κ false H
    else
    semigroupref03_Same_1 k x0 x1 x12 (W (x13 + 1)) lo H κ
  else
  κ true H := by kernel_rfl
theorem semigroupref03_SameRows_eq {ρ : Type} (k : Nat) {x0 : Sl} {x1 : Sl} {lo : Nat} {H : AH} {κ : Bool → AH → Option ρ} : semigroupref03_SameRows (k + 1) x0 x1 lo H κ =
  bif !decide ((x0.len : Int) = (x1.len : Int)) then
    κ false H
  else
  semigroupref03_SameRows_1 k x0 x1 (x0.len : Int) 0 lo H κ := by kernel_rfl
theorem semigroupref03_SameRows_1_eq {ρ : Type} (k : Nat) {x0 : Sl} {x1 : Sl} {x12 : Int} {x13 : Int} {lo : Nat} {H : AH} {κ : Bool → AH → Option ρ} : semigroupref03_SameRows_1 (k + 1) x0 x1 x12 x13 lo H κ =
  bif decide (x13 < x12) then
    rdS H x0 x13 fun v1 =>
    rdS H x1 x13 fun v2 =>
    semigroupref03_Same k v1 v2 H.length H fun v3 H4 =>
    bif !v3 then
      κ false H4
    else
    semigroupref03_SameRows_1 k x0 x1 x12 (W (x13 + 1)) lo H4 κ
  else
  κ true H := by kernel_rfl
theorem semigrouplaw20_awake_eq {ρ : Type} (k : Nat) {lo : Nat} {H : AH} {κ : Bool → AH → Option ρ} : semigrouplaw20_awake (k + 1) lo H κ =
  semigrouplaw20_two k  H.length H fun v1 H2 =>
  semigrouplaw20_two k  H2.length H2 fun v3 H4 =>
  morph_Homs k v1 v3 H4.length H4 fun r5 H6 =>
  andB (decide (r5.2 = 0)) (fun _ κ' => mkb H6 [(.int .i64 0), (.int .i64 0)] 1 2 fun s7 H8 =>
    mkb H8 [(.int .i64 0), (.int .i64 1)] 1 2 fun s9 H10 =>
    mkb H10 [(.sl s7), (.sl s9)] 1 2 fun s11 H12 =>
    semigroupref03_SameRows k r5.1 s11 H12.length H12 fun v13 H14 =>
    κ' v13 H14) H6 fun b15 H16 =>
  κ b15 H16 := by kernel_rfl
theorem morph_isHom_eq {ρ : Type} (k : Nat) {x0 : Sl} {x1 : Sl} {x2 : Sl} {lo : Nat} {H : AH} {κ : Bool → AH → Option ρ} : morph_isHom (k + 1) x0 x1 x2 lo H κ =
  bif !decide ((x2.len : Int) = (x0.len : Int)) then
    κ false H
  else
  morph_isHom_1 k x0 x1 x2 x2 (x2.len : Int) 0 lo H κ := by kernel_rfl
theorem morph_isHom_1_eq {ρ : Type} (k : Nat) {x0 : Sl} {x1 : Sl} {x2 : Sl} {x16 : Sl} {x17 : Int} {x18 : Int} {lo : Nat} {H : AH} {κ : Bool → AH → Option ρ} : morph_isHom_1 (k + 1) x0 x1 x2 x16 x17 x18 lo H κ =
  bif decide (x18 < x17) then
    rdI H x16 x18 fun v1 =>
    orB (decide (v1 < 0)) (fun _ κ' => κ' (decide (v1 ≥ (x1.len : Int))) H) H fun b2 H3 =>
    bif b2 then
      κ false H3
    else
    morph_isHom_1 k x0 x1 x2 x16 x17 (W (x18 + 1)) lo H3 κ
  else
  morph_isHom_2 k x0 x1 x2 (x0.len : Int) 0 lo H κ := by kernel_rfl
theorem morph_isHom_2_eq {ρ : Type} (k : Nat) {x0 : Sl} {x1 : Sl} {x2 : Sl} {x32 : Int} {x33 : Int} {lo : Nat} {H : AH} {κ : Bool → AH → Option ρ} : morph_isHom_2 (k + 1) x0 x1 x2 x32 x33 lo H κ =
  bif decide (x33 < x32) then
    morph_isHom_3 k x0 x1 x2 x33 x32 x33 (x0.len : Int) 0 lo H κ
  else
  κ true H := by kernel_rfl
theorem morph_isHom_3_eq {ρ : Type} (k : Nat) {x0 : Sl} {x1 : Sl} {x2 : Sl} {x9 : Int} {x32 : Int} {x33 : Int} {x37 : Int} {x38 : Int} {lo : Nat} {H : AH} {κ : Bool → AH → Option ρ} : morph_isHom_3 (k + 1) x0 x1 x2 x9 x32 x33 x37 x38 lo H κ =
  bif decide (x38 < x37) then
    rdS H x0 x9 fun v1 =>
    rdI H v1 x38 fun v2 =>
    rdI H x2 v2 fun v3 =>
    rdI H x2 x9 fun v4 =>
    rdS H x1 v4 fun v5 =>
    rdI H x2 x38 fun v6 =>
    rdI H v5 v6 fun v7 =>
    bif !decide (v3 = v7) then
      κ false H
    else
    morph_isHom_3 k x0 x1 x2 x9 x32 x33 x37 (W (x38 + 1)) lo H κ
  else
  morph_isHom_2 k x0 x1 x2 x32 (W (x33 + 1)) lo H κ := by kernel_rfl
theorem partition_Canonical_eq {ρ : Type} (k : Nat) {x0 : Sl} {lo : Nat} {H : AH} {κ : Sl → AH → Option ρ} : partition_Canonical (k + 1) x0 lo H κ =
  bif decide ((x0.len : Int) > 4096) then
    κ ⟨none, 0⟩ H
  else
  mkm H fun m2 H1 =>
  mks H1 [(.int .i64 0)] 8 (x0.len : Int) (x0.len : Int) fun s3 H4 =>
  partition_Canonical_1 k (some m2) s3 x0 (x0.len : Int) 0 lo H4 κ := by kernel_rfl
theorem partition_Canonical_1_eq {ρ : Type} (k : Nat) {x3 : Option Nat} {x4 : Sl} {x16 : Sl} {x17 : Int} {x18 : Int} {lo : Nat} {H : AH} {κ : Sl → AH → Option ρ} : partition_Canonical_1 (k + 1) x3 x4 x16 x17 x18 lo H κ =
  bif decide (x18 < x17) then
    rdI H x16 x18 fun v1 =>
    mlook false H x3 (.int .i64 v1) fun r2 => asI .i64 (Option.getD r2 (.int .i64 0)) fun v3 =>
    bif !(Option.isSome r2) then
      mlen H x3 fun v4 =>
      mput false lo H x3 (.int .i64 v1) (.int .i64 v4) fun H5 =>
      partition_Canonical_2 k x3 x4 x18 v4 x16 x17 x18 lo H5 κ
    else
    partition_Canonical_2 k x3 x4 x18 v3 x16 x17 x18 lo H κ
  else
  κ x4 H := by kernel_rfl
theorem partition_Canonical_2_eq {ρ : Type} (k : Nat) {x3 : Option Nat} {x4 : Sl} {x5 : Int} {x7 : Int} {x16 : Sl} {x17 : Int} {x18 : Int} {lo : Nat} {H : AH} {κ : Sl → AH → Option ρ} : partition_Canonical_2 (k + 1) x3 x4 x5 x7 x16 x17 x18 lo H κ =
  idx x4 x5 1 fun p1 =>
  stc lo H p1 (.int .i64 x7) fun H2 =>
  partition_Canonical_1 k x3 x4 x16 x17 (W (x18 + 1)) lo H2 κ := by kernel_rfl
theorem partition_Valid_eq {ρ : Type} (k : Nat) {x0 : Sl} {lo : Nat} {H : AH} {κ : Bool → AH → Option ρ} : partition_Valid (k + 1) x0 lo H κ =
  bif decide ((x0.len : Int) > 4096) then
    κ false H
  else
  partition_Valid_1 k 0 x0 (x0.len : Int) 0 lo H κ := by kernel_rfl
theorem partition_Valid_1_eq {ρ : Type} (k : Nat) {x3 : Int} {x9 : Sl} {x10 : Int} {x11 : Int} {lo : Nat} {H : AH} {κ : Bool → AH → Option ρ} : partition_Valid_1 (k + 1) x3 x9 x10 x11 lo H κ =
  bif decide (x11 < x10) then
    rdI H x9 x11 fun v1 =>
    orB (decide (v1 < 0)) (fun _ κ' => κ' (decide (v1 > x3)) H) H fun b2 H3 =>
    bif b2 then
      κ false H3
    else
    bif decide (v1 = x3) then
      partition_Valid_2 k (W (x3 + 1)) x9 x10 x11 lo H3 κ
    else
    partition_Valid_2 k x3 x9 x10 x11 lo H3 κ
  else
  κ true H := by kernel_rfl
theorem partition_Valid_2_eq {ρ : Type} (k : Nat) {x3 : Int} {x9 : Sl} {x10 : Int} {x11 : Int} {lo : Nat} {H : AH} {κ : Bool → AH → Option ρ} : partition_Valid_2 (k + 1) x3 x9 x10 x11 lo H κ =
  partition_Valid_1 k x3 x9 x10 (W (x11 + 1)) lo H κ := by kernel_rfl
theorem congr_firsts_eq {ρ : Type} (k : Nat) {x0 : Sl} {lo : Nat} {H : AH} {κ : Sl → AH → Option ρ} : congr_firsts (k + 1) x0 lo H κ =
  congr_firsts_1 k ⟨none, 0⟩ x0 (x0.len : Int) 0 lo H κ := by kernel_rfl
theorem congr_firsts_1_eq {ρ : Type} (k : Nat) {x3 : Sl} {x6 : Sl} {x7 : Int} {x8 : Int} {lo : Nat} {H : AH} {κ : Sl → AH → Option ρ} : congr_firsts_1 (k + 1) x3 x6 x7 x8 lo H κ =
  bif decide (x8 < x7) then
    rdI H x6 x8 fun v1 =>
    bif decide (v1 = (x3.len : Int)) then
      mkb H [(.int .i64 x8)] 1 1 fun s2 H3 =>
      appS lo H3 x3 s2 1 8 fun s4 H5 =>
      congr_firsts_2 k s4 x6 x7 x8 lo H5 κ
    else
    congr_firsts_2 k x3 x6 x7 x8 lo H κ
  else
  κ x3 H := by kernel_rfl
theorem congr_firsts_2_eq {ρ : Type} (k : Nat) {x3 : Sl} {x6 : Sl} {x7 : Int} {x8 : Int} {lo : Nat} {H : AH} {κ : Sl → AH → Option ρ} : congr_firsts_2 (k + 1) x3 x6 x7 x8 lo H κ =
  congr_firsts_1 k x3 x6 x7 (W (x8 + 1)) lo H κ := by kernel_rfl
theorem congr_is_eq {ρ : Type} (k : Nat) {x0 : Sl} {x1 : Sl} {x2 : Int} {lo : Nat} {H : AH} {κ : Bool → AH → Option ρ} : congr_is (k + 1) x0 x1 x2 lo H κ =
  orB (!decide ((x1.len : Int) = (x0.len : Int))) (fun _ κ' => partition_Valid k x1 H.length H fun v1 H2 =>
    κ' (!v1) H2) H fun b3 H4 =>
  bif b3 then
    κ false H4
  else
  congr_firsts k x1 H4.length H4 fun v5 H6 =>
  congr_is_1 k x0 x1 x2 v5 x1 (x1.len : Int) 0 lo H6 κ := by kernel_rfl
theorem congr_is_1_eq {ρ : Type} (k : Nat) {x0 : Sl} {x1 : Sl} {x2 : Int} {x7 : Sl} {x24 : Sl} {x25 : Int} {x26 : Int} {lo : Nat} {H : AH} {κ : Bool → AH → Option ρ} : congr_is_1 (k + 1) x0 x1 x2 x7 x24 x25 x26 lo H κ =
  bif decide (x26 < x25) then
    rdI H x24 x26 fun v1 =>
    rdI H x7 v1 fun v2 =>
    congr_is_2 k x0 x1 x2 x7 x26 v2 x24 x25 x26 (x0.len : Int) 0 lo H κ
  else
  κ true H := by kernel_rfl
theorem congr_is_2_eq {ρ : Type} (k : Nat) {x0 : Sl} {x1 : Sl} {x2 : Int} {x7 : Sl} {x8 : Int} {x10 : Int} {x24 : Sl} {x25 : Int} {x26 : Int} {x36 : Int} {x37 : Int} {lo : Nat} {H : AH} {κ : Bool → AH → Option ρ} : congr_is_2 (k + 1) x0 x1 x2 x7 x8 x10 x24 x25 x26 x36 x37 lo H κ =
  bif decide (x37 < x36) then
    andB (!decide (x2 = 2)) (fun _ κ' => rdS H x0 x37 fun v1 =>
      rdI H v1 x8 fun v2 =>
      rdI H x1 v2 fun v3 =>
      rdS H x0 x37 fun v4 =>
      rdI H v4 x10 fun v5 =>
      rdI H x1 v5 fun v6 =>
      κ' (!decide (v3 = v6)) H) H fun b7 H8 =>
    orB b7 (fun _ κ' => andB (!decide (x2 = 1)) (fun _ κ' => rdS H8 x0 x8 fun v9 =>
        rdI H8 v9 x37 fun v10 =>
        rdI H8 x1 v10 fun v11 =>
        rdS H8 x0 x10 fun v12 =>
        rdI H8 v12 x37 fun v13 =>
        rdI H8 x1 v13 fun v14 =>
        κ' (!decide (v11 = v14)) H8) H8 fun b15 H16 =>
      κ' b15 H16) H8 fun b17 H18 =>
    bif b17 then
      κ false H18
    else
    congr_is_2 k x0 x1 x2 x7 x8 x10 x24 x25 x26 x36 (W (x37 + 1)) lo H18 κ
  else
  congr_is_1 k x0 x1 x2 x7 x24 x25 (W (x26 + 1)) lo H κ := by kernel_rfl
theorem congr_Quotient_eq {ρ : Type} (k : Nat) {x0 : Sl} {x1 : Sl} {lo : Nat} {H : AH} {κ : (Sl × Int) → AH → Option ρ} : congr_Quotient (k + 1) x0 x1 lo H κ =
  mult_Validate k x0 H.length H fun v1 H2 =>
  bif !decide (v1 = 0) then
    κ (⟨none, 0⟩, v1) H2
  else
  congr_is k x0 x1 0 H2.length H2 fun v3 H4 =>
  bif !v3 then
    κ (⟨none, 0⟩, 1) H4
  else
  congr_firsts k x1 H4.length H4 fun v5 H6 =>
  mks H6 [(.sl ⟨none, 0⟩)] 24 (v5.len : Int) (v5.len : Int) fun s7 H8 =>
  congr_Quotient_1 k x0 x1 v5 s7 v5 (v5.len : Int) 0 lo H8 κ := by kernel_rfl
theorem congr_Quotient_1_eq {ρ : Type} (k : Nat) {x0 : Sl} {x1 : Sl} {x7 : Sl} {x8 : Sl} {x27 : Sl} {x28 : Int} {x29 : Int} {lo : Nat} {H : AH} {κ : (Sl × Int) → AH → Option ρ} : congr_Quotient_1 (k + 1) x0 x1 x7 x8 x27 x28 x29 lo H κ =
  bif decide (x29 < x28) then
    rdI H x27 x29 fun v1 =>
    mks H [(.int .i64 0)] 8 (x7.len : Int) (x7.len : Int) fun s2 H3 =>
    idx x8 x29 1 fun p4 =>
    stc lo H3 p4 (.sl s2) fun H5 =>
    congr_Quotient_2 k x0 x1 x7 x8 x29 v1 x27 x28 x29 x7 (x7.len : Int) 0 lo H5 κ
  else
  κ (x8, 0) H := by kernel_rfl
theorem congr_Quotient_2_eq {ρ : Type} (k : Nat) {x0 : Sl} {x1 : Sl} {x7 : Sl} {x8 : Sl} {x9 : Int} {x10 : Int} {x27 : Sl} {x28 : Int} {x29 : Int} {x40 : Sl} {x41 : Int} {x42 : Int} {lo : Nat} {H : AH} {κ : (Sl × Int) → AH → Option ρ} : congr_Quotient_2 (k + 1) x0 x1 x7 x8 x9 x10 x27 x28 x29 x40 x41 x42 lo H κ =
  bif decide (x42 < x41) then
    rdI H x40 x42 fun v1 =>
    rdS H x8 x9 fun v2 =>
    rdS H x0 x10 fun v3 =>
    rdI H v3 v1 fun v4 =>
    rdI H x1 v4 fun v5 =>
    idx v2 x42 1 fun p6 =>
    stc lo H p6 (.int .i64 v5) fun H7 =>
    congr_Quotient_2 k x0 x1 x7 x8 x9 x10 x27 x28 x29 x40 x41 (W (x42 + 1)) lo H7 κ
  else
  congr_Quotient_1 k x0 x1 x7 x8 x27 x28 (W (x29 + 1)) lo H κ := by kernel_rfl
theorem morph_Factor_eq {ρ : Type} (k : Nat) {x0 : Sl} {x1 : Sl} {x2 : Sl} {lo : Nat} {H : AH} {κ : (Sl × Sl × Sl × Int) → AH → Option ρ} : morph_Factor (k + 1) x0 x1 x2 lo H κ =
  mult_Validate k x0 H.length H fun v1 H2 =>
  bif !decide (v1 = 0) then
    κ (⟨none, 0⟩, ⟨none, 0⟩, ⟨none, 0⟩, v1) H2
  else
  mult_Validate k x1 H2.length H2 fun v3 H4 =>
  bif !decide (v3 = 0) then
    κ (⟨none, 0⟩, ⟨none, 0⟩, ⟨none, 0⟩, v3) H4
  else
  morph_isHom k x0 x1 x2 H4.length H4 fun v5 H6 =>
  bif !v5 then
    κ (⟨none, 0⟩, ⟨none, 0⟩, ⟨none, 0⟩, 1) H6
  else
  partition_Canonical k x2 H6.length H6 fun v7 H8 =>
  congr_Quotient k x0 v7 H8.length H8 fun r9 H10 =>
  bif !decide (r9.2 = 0) then
    κ (⟨none, 0⟩, ⟨none, 0⟩, ⟨none, 0⟩, r9.2) H10
  else
  mks H10 [(.int .i64 0)] 8 (r9.1.len : Int) (r9.1.len : Int) fun s11 H12 =>
  morph_Factor_1 k x2 v7 r9.1 s11 v7 (v7.len : Int) 0 lo H12 κ := by kernel_rfl
theorem morph_Factor_1_eq {ρ : Type} (k : Nat) {x2 : Sl} {x12 : Sl} {x13 : Sl} {x15 : Sl} {x47 : Sl} {x48 : Int} {x49 : Int} {lo : Nat} {H : AH} {κ : (Sl × Sl × Sl × Int) → AH → Option ρ} : morph_Factor_1 (k + 1) x2 x12 x13 x15 x47 x48 x49 lo H κ =
  bif decide (x49 < x48) then
    rdI H x47 x49 fun v1 =>
    rdI H x2 x49 fun v2 =>
    idx x15 v1 1 fun p3 =>
    stc lo H p3 (.int .i64 v2) fun H4 =>
    morph_Factor_1 k x2 x12 x13 x15 x47 x48 (W (x49 + 1)) lo H4 κ
  else
  κ (x13, x12, x15, 0) H := by kernel_rfl
theorem semigroupref14_Associative_eq {ρ : Type} (k : Nat) {x0 : Sl} {lo : Nat} {H : AH} {κ : (Int × Int × Int × Int) → AH → Option ρ} : semigroupref14_Associative (k + 1) x0 lo H κ =
  semigroupref14_Shape k x0 H.length H fun v1 H2 =>
  bif !decide (v1 = 0) then
    κ (0, 0, 0, v1) H2
  else
  semigroupref14_Associative_1 k x0 (x0.len : Int) 0 lo H2 κ := by kernel_rfl
theorem semigroupref14_Associative_1_eq {ρ : Type} (k : Nat) {x0 : Sl} {x16 : Int} {x17 : Int} {lo : Nat} {H : AH} {κ : (Int × Int × Int × Int) → AH → Option ρ} : semigroupref14_Associative_1 (k + 1) x0 x16 x17 lo H κ =
  bif decide (x17 < x16) then
    semigroupref14_Associative_2 k x0 x17 x16 x17 (x0.len : Int) 0 lo H κ
  else
  κ (0, 0, 0, 0) H := by kernel_rfl
theorem semigroupref14_Associative_2_eq {ρ : Type} (k : Nat) {x0 : Sl} {x7 : Int} {x16 : Int} {x17 : Int} {x21 : Int} {x22 : Int} {lo : Nat} {H : AH} {κ : (Int × Int × Int × Int) → AH → Option ρ} : semigroupref14_Associative_2 (k + 1) x0 x7 x16 x17 x21 x22 lo H κ =
  bif decide (x22 < x21) then
    semigroupref14_Associative_3 k x0 x7 x22 x16 x17 x21 x22 (x0.len : Int) 0 lo H κ
  else
  semigroupref14_Associative_1 k x0 x16 (W (x17 + 1)) lo H κ := by kernel_rfl
theorem semigroupref14_Associative_3_eq {ρ : Type} (k : Nat) {x0 : Sl} {x7 : Int} {x8 : Int} {x16 : Int} {x17 : Int} {x21 : Int} {x22 : Int} {x26 : Int} {x27 : Int} {lo : Nat} {H : AH} {κ : (Int × Int × Int × Int) → AH → Option ρ} : semigroupref14_Associative_3 (k + 1) x0 x7 x8 x16 x17 x21 x22 x26 x27 lo H κ =
  bif decide (x27 < x26) then
    rdS H x0 x7 fun v1 =>
    rdI H v1 x8 fun v2 =>
    rdS H x0 v2 fun v3 =>
    rdI H v3 x27 fun v4 =>
    rdS H x0 x7 fun v5 =>
    rdS H x0 x8 fun v6 =>
    rdI H v6 x27 fun v7 =>
    rdI H v5 v7 fun v8 =>
    bif !decide (v4 = v8) then
      κ (x7, x8, x27, 5) H
    else
    semigroupref14_Associative_3 k x0 x7 x8 x16 x17 x21 x22 x26 (W (x27 + 1)) lo H κ
  else
  semigroupref14_Associative_2 k x0 x7 x16 x17 x21 (W (x22 + 1)) lo H κ := by kernel_rfl
theorem semigroupref14_Validate_eq {ρ : Type} (k : Nat) {x0 : Sl} {lo : Nat} {H : AH} {κ : Int → AH → Option ρ} : semigroupref14_Validate (k + 1) x0 lo H κ =
  semigroupref14_Associative k x0 H.length H fun r1 H2 =>
  κ r1.2.2.2 H2 := by kernel_rfl
theorem semigroupref14_Valid_eq {ρ : Type} (k : Nat) {x0 : Sl} {lo : Nat} {H : AH} {κ : Bool → AH → Option ρ} : semigroupref14_Valid (k + 1) x0 lo H κ =
  semigroupref14_Validate k x0 H.length H fun v1 H2 =>
  κ (decide (v1 = 0)) H2 := by kernel_rfl
theorem semigroupref14_In_eq {ρ : Type} (k : Nat) {x0 : Sl} {x1 : Sl} {lo : Nat} {H : AH} {κ : Bool → AH → Option ρ} : semigroupref14_In (k + 1) x0 x1 lo H κ =
  semigroupref14_In_1 k x0 x1 (x1.len : Int) 0 lo H κ := by kernel_rfl
theorem semigroupref14_In_1_eq {ρ : Type} (k : Nat) {x0 : Sl} {x7 : Sl} {x8 : Int} {x9 : Int} {lo : Nat} {H : AH} {κ : Bool → AH → Option ρ} : semigroupref14_In_1 (k + 1) x0 x7 x8 x9 lo H κ =
  bif decide (x9 < x8) then
    rdI H x7 x9 fun v1 =>
    orB (decide (v1 < 0)) (fun _ κ' => κ' (decide (v1 ≥ (x0.len : Int))) H) H fun b2 H3 =>
    bif b2 then
      κ false H3
    else
    semigroupref14_In_1 k x0 x7 x8 (W (x9 + 1)) lo H3 κ
  else
  κ true H := by kernel_rfl
theorem semigroupref20_IsHom_eq {ρ : Type} (k : Nat) {x0 : Sl} {x1 : Sl} {x2 : Sl} {lo : Nat} {H : AH} {κ : Bool → AH → Option ρ} : semigroupref20_IsHom (k + 1) x0 x1 x2 lo H κ =
  semigroupref14_Valid k x0 H.length H fun v1 H2 =>
  orB (!v1) (fun _ κ' => semigroupref14_Valid k x1 H2.length H2 fun v3 H4 =>
    κ' (!v3) H4) H2 fun b5 H6 =>
  orB b5 (fun _ κ' => κ' (!decide ((x2.len : Int) = (x0.len : Int))) H6) H6 fun b7 H8 =>
  orB b7 (fun _ κ' => semigroupref14_In k x1 x2 H8.length H8 fun v9 H10 =>
    κ' (!v9) H10) H8 fun b11 H12 =>
  bif b11 then
    κ false H12
  else
  semigroupref20_IsHom_1 k x0 x1 x2 (x0.len : Int) 0 lo H12 κ := by kernel_rfl
theorem semigroupref20_IsHom_1_eq {ρ : Type} (k : Nat) {x0 : Sl} {x1 : Sl} {x2 : Sl} {x31 : Int} {x32 : Int} {lo : Nat} {H : AH} {κ : Bool → AH → Option ρ} : semigroupref20_IsHom_1 (k + 1) x0 x1 x2 x31 x32 lo H κ =
  bif decide (x32 < x31) then
    semigroupref20_IsHom_2 k x0 x1 x2 x32 x31 x32 (x0.len : Int) 0 lo H κ
  else
  κ true H := by kernel_rfl
theorem semigroupref20_IsHom_2_eq {ρ : Type} (k : Nat) {x0 : Sl} {x1 : Sl} {x2 : Sl} {x7 : Int} {x31 : Int} {x32 : Int} {x36 : Int} {x37 : Int} {lo : Nat} {H : AH} {κ : Bool → AH → Option ρ} : semigroupref20_IsHom_2 (k + 1) x0 x1 x2 x7 x31 x32 x36 x37 lo H κ =
  bif decide (x37 < x36) then
    rdS H x0 x7 fun v1 =>
    rdI H v1 x37 fun v2 =>
    rdI H x2 v2 fun v3 =>
    rdI H x2 x7 fun v4 =>
    rdS H x1 v4 fun v5 =>
    rdI H x2 x37 fun v6 =>
    rdI H v5 v6 fun v7 =>
    bif !decide (v3 = v7) then
      κ false H
    else
    semigroupref20_IsHom_2 k x0 x1 x2 x7 x31 x32 x36 (W (x37 + 1)) lo H κ
  else
  semigroupref20_IsHom_1 k x0 x1 x2 x31 (W (x32 + 1)) lo H κ := by kernel_rfl
theorem morph_IsHom_eq {ρ : Type} (k : Nat) {x0 : Sl} {x1 : Sl} {x2 : Sl} {lo : Nat} {H : AH} {κ : Bool → AH → Option ρ} : morph_IsHom (k + 1) x0 x1 x2 lo H κ =
  mult_Validate k x0 H.length H fun v1 H2 =>
  andB (decide (v1 = 0)) (fun _ κ' => mult_Validate k x1 H2.length H2 fun v3 H4 =>
    κ' (decide (v3 = 0)) H4) H2 fun b5 H6 =>
  andB b5 (fun _ κ' => morph_isHom k x0 x1 x2 H6.length H6 fun v7 H8 =>
    κ' v7 H8) H6 fun b9 H10 =>
  κ b9 H10 := by kernel_rfl
theorem morph_Kernel_eq {ρ : Type} (k : Nat) {x0 : Sl} {x1 : Sl} {x2 : Sl} {lo : Nat} {H : AH} {κ : Sl → AH → Option ρ} : morph_Kernel (k + 1) x0 x1 x2 lo H κ =
  morph_IsHom k x0 x1 x2 H.length H fun v1 H2 =>
  bif !v1 then
    κ ⟨none, 0⟩ H2
  else
  partition_Canonical k x2 H2.length H2 fun v3 H4 =>
  κ v3 H4 := by kernel_rfl
theorem congr_IsCongruence_eq {ρ : Type} (k : Nat) {x0 : Sl} {x1 : Sl} {x2 : Int} {lo : Nat} {H : AH} {κ : Bool → AH → Option ρ} : congr_IsCongruence (k + 1) x0 x1 x2 lo H κ =
  mult_Validate k x0 H.length H fun v1 H2 =>
  andB (decide (v1 = 0)) (fun _ κ' => κ' (decide (x2 ≥ 0)) H2) H2 fun b3 H4 =>
  andB b3 (fun _ κ' => κ' (decide (x2 ≤ 2)) H4) H4 fun b5 H6 =>
  andB b5 (fun _ κ' => congr_is k x0 x1 x2 H6.length H6 fun v7 H8 =>
    κ' v7 H8) H6 fun b9 H10 =>
  κ b9 H10 := by kernel_rfl
theorem morph_Image_eq {ρ : Type} (k : Nat) {x0 : Sl} {x1 : Sl} {x2 : Sl} {lo : Nat} {H : AH} {κ : Sl → AH → Option ρ} : morph_Image (k + 1) x0 x1 x2 lo H κ =
  morph_IsHom k x0 x1 x2 H.length H fun v1 H2 =>
  bif !v1 then
    κ ⟨none, 0⟩ H2
  else
  mks H2 [(.bool false)] 1 (x1.len : Int) (x1.len : Int) fun s3 H4 =>
  morph_Image_1 k s3 x2 (x2.len : Int) 0 lo H4 κ := by kernel_rfl
theorem morph_Image_1_eq {ρ : Type} (k : Nat) {x7 : Sl} {x21 : Sl} {x22 : Int} {x23 : Int} {lo : Nat} {H : AH} {κ : Sl → AH → Option ρ} : morph_Image_1 (k + 1) x7 x21 x22 x23 lo H κ =
  bif decide (x23 < x22) then
    rdI H x21 x23 fun v1 =>
    idx x7 v1 1 fun p2 =>
    stc lo H p2 (.bool true) fun H3 =>
    morph_Image_1 k x7 x21 x22 (W (x23 + 1)) lo H3 κ
  else
  morph_Image_2 k ⟨none, 0⟩ x7 (x7.len : Int) 0 lo H κ := by kernel_rfl
theorem morph_Image_2_eq {ρ : Type} (k : Nat) {x10 : Sl} {x31 : Sl} {x32 : Int} {x33 : Int} {lo : Nat} {H : AH} {κ : Sl → AH → Option ρ} : morph_Image_2 (k + 1) x10 x31 x32 x33 lo H κ =
  bif decide (x33 < x32) then
    rdB H x31 x33 fun v1 =>
    bif v1 then
      mkb H [(.int .i64 x33)] 1 1 fun s2 H3 =>
      appS lo H3 x10 s2 1 8 fun s4 H5 =>
      morph_Image_3 k s4 x31 x32 x33 lo H5 κ
    else
    morph_Image_3 k x10 x31 x32 x33 lo H κ
  else
  κ x10 H := by kernel_rfl
theorem morph_Image_3_eq {ρ : Type} (k : Nat) {x10 : Sl} {x31 : Sl} {x32 : Int} {x33 : Int} {lo : Nat} {H : AH} {κ : Sl → AH → Option ρ} : morph_Image_3 (k + 1) x10 x31 x32 x33 lo H κ =
  morph_Image_2 k x10 x31 x32 (W (x33 + 1)) lo H κ := by kernel_rfl
theorem semigrouplaw20_MorphFactors_eq {ρ : Type} (k : Nat) {x0 : Sl} {x1 : Sl} {x2 : Sl} {lo : Nat} {H : AH} {κ : Bool → AH → Option ρ} : semigrouplaw20_MorphFactors (k + 1) x0 x1 x2 lo H κ =
  semigrouplaw20_large k x0 14 H.length H fun v1 H2 =>
  orB v1 (fun _ κ' => semigrouplaw20_large k x1 14 H2.length H2 fun v3 H4 =>
    κ' v3 H4) H2 fun b5 H6 =>
  bif b5 then
    semigrouplaw20_awake k  H6.length H6 fun v7 H8 =>
    κ v7 H8
  else
  morph_Factor k x0 x1 x2 H6.length H6 fun r9 H10 =>
  semigroupref14_Validate k x0 H10.length H10 fun v11 H12 =>
  bif decide (v11 = 0) then
    semigroupref14_Validate k x1 H12.length H12 fun v13 H14 =>
    semigrouplaw20_MorphFactors_1 k x0 x1 x2 r9.1 r9.2.1 r9.2.2.1 r9.2.2.2 v13 lo H14 κ
  else
  semigrouplaw20_MorphFactors_1 k x0 x1 x2 r9.1 r9.2.1 r9.2.2.1 r9.2.2.2 v11 lo H12 κ := by kernel_rfl
theorem semigrouplaw20_MorphFactors_1_eq {ρ : Type} (k : Nat) {x0 : Sl} {x1 : Sl} {x2 : Sl} {x7 : Sl} {x8 : Sl} {x9 : Sl} {x10 : Int} {x11 : Int} {lo : Nat} {H : AH} {κ : Bool → AH → Option ρ} : semigrouplaw20_MorphFactors_1 (k + 1) x0 x1 x2 x7 x8 x9 x10 x11 lo H κ =
  andB (decide (x11 = 0)) (fun _ κ' => semigroupref20_IsHom k x0 x1 x2 H.length H fun v1 H2 =>
    κ' (!v1) H2) H fun b3 H4 =>
  bif b3 then
    semigrouplaw20_MorphFactors_2 k x0 x1 x2 x7 x8 x9 x10 1 lo H4 κ
  else
  semigrouplaw20_MorphFactors_2 k x0 x1 x2 x7 x8 x9 x10 x11 lo H4 κ := by kernel_rfl
theorem semigrouplaw20_MorphFactors_2_eq {ρ : Type} (k : Nat) {x0 : Sl} {x1 : Sl} {x2 : Sl} {x7 : Sl} {x8 : Sl} {x9 : Sl} {x10 : Int} {x11 : Int} {lo : Nat} {H : AH} {κ : Bool → AH → Option ρ} : semigrouplaw20_MorphFactors_2 (k + 1) x0 x1 x2 x7 x8 x9 x10 x11 lo H κ =
  bif !decide (x11 = 0) then
    andB (decide (x10 = x11)) (fun _ κ' => κ' (decide ((x7.len : Int) = 0)) H) H fun b1 H2 =>
    andB b1 (fun _ κ' => κ' (decide ((x8.len : Int) = 0)) H2) H2 fun b3 H4 =>
    andB b3 (fun _ κ' => κ' (decide ((x9.len : Int) = 0)) H4) H4 fun b5 H6 =>
    andB b5 (fun _ κ' => semigrouplaw20_awake k  H6.length H6 fun v7 H8 =>
      κ' v7 H8) H6 fun b9 H10 =>
    κ b9 H10
  else
  morph_Kernel k x0 x1 x2 H.length H fun v11 H12 =>
  congr_Quotient k x0 v11 H12.length H12 fun r13 H14 =>
  orB (!decide (x10 = 0)) (fun _ κ' => κ' (!decide (r13.2 = 0)) H14) H14 fun b15 H16 =>
  orB b15 (fun _ κ' => congr_IsCongruence k x0 v11 0 H16.length H16 fun v17 H18 =>
    κ' (!v17) H18) H16 fun b19 H20 =>
  orB b19 (fun _ κ' => semigroupref03_SameRows k x7 r13.1 H20.length H20 fun v21 H22 =>
    κ' (!v21) H22) H20 fun b23 H24 =>
  orB b23 (fun _ κ' => semigroupref03_Same k x8 v11 H24.length H24 fun v25 H26 =>
    κ' (!v25) H26) H24 fun b27 H28 =>
  orB b27 (fun _ κ' => morph_IsHom k x0 x7 x8 H28.length H28 fun v29 H30 =>
    κ' (!v29) H30) H28 fun b31 H32 =>
  orB b31 (fun _ κ' => morph_IsHom k x7 x1 x9 H32.length H32 fun v33 H34 =>
    κ' (!v33) H34) H32 fun b35 H36 =>
  orB b35 (fun _ κ' => morph_Image k x7 x1 x9 H36.length H36 fun v37 H38 =>
    κ' (!decide ((v37.len : Int) = (x7.len : Int))) H38) H36 fun b39 H40 =>
  bif b39 then
    κ false H40
  else
  semigrouplaw20_MorphFactors_3 k x2 x8 x9 (x0.len : Int) 0 lo H40 κ := by kernel_rfl
theorem semigrouplaw20_MorphFactors_3_eq {ρ : Type} (k : Nat) {x2 : Sl} {x8 : Sl} {x9 : Sl} {x129 : Int} {x130 : Int} {lo : Nat} {H : AH} {κ : Bool → AH → Option ρ} : semigrouplaw20_MorphFactors_3 (k + 1) x2 x8 x9 x129 x130 lo H κ =
  bif decide (x130 < x129) then
    rdI H x8 x130 fun v1 =>
    rdI H x9 v1 fun v2 =>
    rdI H x2 x130 fun v3 =>
    bif !decide (v2 = v3) then
      κ false H
    else
    semigrouplaw20_MorphFactors_3 k x2 x8 x9 x129 (W (x130 + 1)) lo H κ
  else
  semigrouplaw20_awake k  H.length H fun v4 H5 =>
  κ v4 H5 := by kernel_rfl
end Go.Ab
