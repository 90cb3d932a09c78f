/- Each function's pieces agree with the given program. Printed. No condition. -/
import Derived.Test.YtnoickhdbinciaaProg
import Derived.Test.YtnoickhdbinciaaRReesChecksIr
import Derived.Test.YtnoickhdbinciaaAbA2
import Derived.KernelRfl
namespace Go.Ab
def fids : List Nat := [43, 13, 44, 49, 50, 20, 79, 65, 51, 59, 47, 21, 53, 48, 17, 23, 14, 68, 69, 66, 67, 89, 80, 81, 70, 71, 54, 29, 55, 36, 82, 72, 91, 92, 93, 84, 90, 83, 85, 86, 74, 73, 75, 56, 58, 63, 64, 45, 15, 46, 16, 57, 27, 28, 37, 9]
noncomputable def Cx0 : Ctx := ⟨Go.Proofs.Try.prog, fids, 0, 0⟩
theorem chk_semigroupref14_Shape : chkFn Cx0 43 semigroupref14_Shape_fn = true := by kernel_rfl
theorem chk_semigrouplaw17_large : chkFn Cx0 13 semigrouplaw17_large_fn = true := by kernel_rfl
theorem chk_semigrouplaw17_brandt : chkFn Cx0 44 semigrouplaw17_brandt_fn = true := by kernel_rfl
theorem chk_mult_shape : chkFn Cx0 49 mult_shape_fn = true := by kernel_rfl
theorem chk_mult_failing : chkFn Cx0 50 mult_failing_fn = true := by kernel_rfl
theorem chk_mult_Validate : chkFn Cx0 20 mult_Validate_fn = true := by kernel_rfl
theorem chk_group_inverses : chkFn Cx0 79 group_inverses_fn = true := by kernel_rfl
theorem chk_group_of : chkFn Cx0 65 group_of_fn = true := by kernel_rfl
theorem chk_group_IsGroup : chkFn Cx0 51 group_IsGroup_fn = true := by kernel_rfl
theorem chk_rees_zero : chkFn Cx0 59 rees_zero_fn = true := by kernel_rfl
theorem chk_rees_size : chkFn Cx0 47 rees_size_fn = true := by kernel_rfl
theorem chk_rees_Validate : chkFn Cx0 21 rees_Validate_fn = true := by kernel_rfl
theorem chk_rees_number : chkFn Cx0 53 rees_number_fn = true := by kernel_rfl
theorem chk_rees_mul : chkFn Cx0 48 rees_mul_fn = true := by kernel_rfl
theorem chk_rees_Table : chkFn Cx0 17 rees_Table_fn = true := by kernel_rfl
theorem chk_rees_Regular : chkFn Cx0 23 rees_Regular_fn = true := by kernel_rfl
theorem chk_semigrouplaw17_awake : chkFn Cx0 14 semigrouplaw17_awake_fn = true := by kernel_rfl
theorem chk_green_right : chkFn Cx0 68 green_right_fn = true := by kernel_rfl
theorem chk_green_left : chkFn Cx0 69 green_left_fn = true := by kernel_rfl
theorem chk_green_two : chkFn Cx0 66 green_two_fn = true := by kernel_rfl
theorem chk_green_mutual : chkFn Cx0 67 green_mutual_fn = true := by kernel_rfl
theorem chk_partition_Valid : chkFn Cx0 89 partition_Valid_fn = true := by kernel_rfl
theorem chk_partition_both : chkFn Cx0 80 partition_both_fn = true := by kernel_rfl
theorem chk_partition_Canonical : chkFn Cx0 81 partition_Canonical_fn = true := by kernel_rfl
theorem chk_partition_Meet : chkFn Cx0 70 partition_Meet_fn = true := by kernel_rfl
theorem chk_green_firsts : chkFn Cx0 71 green_firsts_fn = true := by kernel_rfl
theorem chk_green_classes : chkFn Cx0 54 green_classes_fn = true := by kernel_rfl
theorem chk_green_Classes : chkFn Cx0 29 green_Classes_fn = true := by kernel_rfl
theorem chk_rees_class : chkFn Cx0 55 rees_class_fn = true := by kernel_rfl
theorem chk_rees_Check : chkFn Cx0 36 rees_Check_fn = true := by kernel_rfl
theorem chk_semigroupref14_Associative : chkFn Cx0 82 semigroupref14_Associative_fn = true := by kernel_rfl
theorem chk_semigroupref14_Validate : chkFn Cx0 72 semigroupref14_Validate_fn = true := by kernel_rfl
theorem chk_semigroupref15_Right : chkFn Cx0 91 semigroupref15_Right_fn = true := by kernel_rfl
theorem chk_semigroupref15_Left : chkFn Cx0 92 semigroupref15_Left_fn = true := by kernel_rfl
theorem chk_semigroupref15_Both : chkFn Cx0 93 semigroupref15_Both_fn = true := by kernel_rfl
theorem chk_semigroupref15_ideals : chkFn Cx0 84 semigroupref15_ideals_fn = true := by kernel_rfl
theorem chk_semigroupref03_Canonical : chkFn Cx0 90 semigroupref03_Canonical_fn = true := by kernel_rfl
theorem chk_semigroupref15_mutual : chkFn Cx0 83 semigroupref15_mutual_fn = true := by kernel_rfl
theorem chk_semigroupref03_Meet : chkFn Cx0 85 semigroupref03_Meet_fn = true := by kernel_rfl
theorem chk_semigroupref03_Count : chkFn Cx0 86 semigroupref03_Count_fn = true := by kernel_rfl
theorem chk_semigroupref03_Classes : chkFn Cx0 74 semigroupref03_Classes_fn = true := by kernel_rfl
theorem chk_semigroupref15_Classes : chkFn Cx0 73 semigroupref15_Classes_fn = true := by kernel_rfl
theorem chk_semigroupref15_Minimal : chkFn Cx0 75 semigroupref15_Minimal_fn = true := by kernel_rfl
theorem chk_semigroupref17_class : chkFn Cx0 56 semigroupref17_class_fn = true := by kernel_rfl
theorem chk_semigroupref14_Valid : chkFn Cx0 58 semigroupref14_Valid_fn = true := by kernel_rfl
theorem chk_semigroupref14_Identity : chkFn Cx0 63 semigroupref14_Identity_fn = true := by kernel_rfl
theorem chk_semigroupref16_Inverse : chkFn Cx0 64 semigroupref16_Inverse_fn = true := by kernel_rfl
theorem chk_semigroupref16_IsGroup : chkFn Cx0 45 semigroupref16_IsGroup_fn = true := by kernel_rfl
theorem chk_semigroupref17_Validate : chkFn Cx0 15 semigroupref17_Validate_fn = true := by kernel_rfl
theorem chk_semigroupref17_base : chkFn Cx0 46 semigroupref17_base_fn = true := by kernel_rfl
theorem chk_semigroupref17_Size : chkFn Cx0 16 semigroupref17_Size_fn = true := by kernel_rfl
theorem chk_semigroupref03_Set : chkFn Cx0 57 semigroupref03_Set_fn = true := by kernel_rfl
theorem chk_semigroupref17_Number : chkFn Cx0 27 semigroupref17_Number_fn = true := by kernel_rfl
theorem chk_semigroupref17_Mul : chkFn Cx0 28 semigroupref17_Mul_fn = true := by kernel_rfl
theorem chk_semigroupref17_Check : chkFn Cx0 37 semigroupref17_Check_fn = true := by kernel_rfl
theorem chk_semigrouplaw17_ReesChecks : chkFn Cx0 9 semigrouplaw17_ReesChecks_fn = true := by kernel_rfl
theorem hG : chkG Cx0 fids G = true := chkG_cons' chk_semigroupref14_Shape (chkG_cons' chk_semigrouplaw17_large (chkG_cons' chk_semigrouplaw17_brandt (chkG_cons' chk_mult_shape (chkG_cons' chk_mult_failing (chkG_cons' chk_mult_Validate (chkG_cons' chk_group_inverses (chkG_cons' chk_group_of (chkG_cons' chk_group_IsGroup (chkG_cons' chk_rees_zero (chkG_cons' chk_rees_size (chkG_cons' chk_rees_Validate (chkG_cons' chk_rees_number (chkG_cons' chk_rees_mul (chkG_cons' chk_rees_Table (chkG_cons' chk_rees_Regular (chkG_cons' chk_semigrouplaw17_awake (chkG_cons' chk_green_right (chkG_cons' chk_green_left (chkG_cons' chk_green_two (chkG_cons' chk_green_mutual (chkG_cons' chk_partition_Valid (chkG_cons' chk_partition_both (chkG_cons' chk_partition_Canonical (chkG_cons' chk_partition_Meet (chkG_cons' chk_green_firsts (chkG_cons' chk_green_classes (chkG_cons' chk_green_Classes (chkG_cons' chk_rees_class (chkG_cons' chk_rees_Check (chkG_cons' chk_semigroupref14_Associative (chkG_cons' chk_semigroupref14_Validate (chkG_cons' chk_semigroupref15_Right (chkG_cons' chk_semigroupref15_Left (chkG_cons' chk_semigroupref15_Both (chkG_cons' chk_semigroupref15_ideals (chkG_cons' chk_semigroupref03_Canonical (chkG_cons' chk_semigroupref15_mutual (chkG_cons' chk_semigroupref03_Meet (chkG_cons' chk_semigroupref03_Count (chkG_cons' chk_semigroupref03_Classes (chkG_cons' chk_semigroupref15_Classes (chkG_cons' chk_semigroupref15_Minimal (chkG_cons' chk_semigroupref17_class (chkG_cons' chk_semigroupref14_Valid (chkG_cons' chk_semigroupref14_Identity (chkG_cons' chk_semigroupref16_Inverse (chkG_cons' chk_semigroupref16_IsGroup (chkG_cons' chk_semigroupref17_Validate (chkG_cons' chk_semigroupref17_base (chkG_cons' chk_semigroupref17_Size (chkG_cons' chk_semigroupref03_Set (chkG_cons' chk_semigroupref17_Number (chkG_cons' chk_semigroupref17_Mul (chkG_cons' chk_semigroupref17_Check (chkG_cons' chk_semigrouplaw17_ReesChecks (chkG_nil'))))))))))))))))))))))))))))))))))))))))))))))))))))))))
end Go.Ab
