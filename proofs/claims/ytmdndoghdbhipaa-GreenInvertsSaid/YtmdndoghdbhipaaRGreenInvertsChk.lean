/- Each function's pieces agree with the given program. Printed. No condition. -/
import Derived.Test.YtmdndoghdbhipaaProg
import Derived.Test.YtmdndoghdbhipaaRGreenInvertsIr
import Derived.Test.YtmdndoghdbhipaaAbAR
import Derived.KernelRfl
namespace Go.Ab
def fids : List Nat := [43, 57, 39, 16, 19, 20, 44, 61, 62, 45, 54, 55, 56, 63, 70, 68, 69, 64, 65, 46, 15, 22, 24, 14, 33, 34, 37, 10]
noncomputable def Cx0 : Ctx := ⟨Go.Proofs.Try.prog, fids, 0, 0⟩
theorem chk_semigroupref14_Shape : chkFn Cx0 43 semigroupref14_Shape_fn = true := by kernel_rfl
theorem chk_semigroupref14_Associative : chkFn Cx0 57 semigroupref14_Associative_fn = true := by kernel_rfl
theorem chk_semigroupref14_Validate : chkFn Cx0 39 semigroupref14_Validate_fn = true := by kernel_rfl
theorem chk_semigroupref14_Valid : chkFn Cx0 16 semigroupref14_Valid_fn = true := by kernel_rfl
theorem chk_semigrouplaw15_small : chkFn Cx0 19 semigrouplaw15_small_fn = true := by kernel_rfl
theorem chk_semigroupref14_In : chkFn Cx0 20 semigroupref14_In_fn = true := by kernel_rfl
theorem chk_semigrouplaw15_flip : chkFn Cx0 44 semigrouplaw15_flip_fn = true := by kernel_rfl
theorem chk_mult_shape : chkFn Cx0 61 mult_shape_fn = true := by kernel_rfl
theorem chk_mult_failing : chkFn Cx0 62 mult_failing_fn = true := by kernel_rfl
theorem chk_mult_Validate : chkFn Cx0 45 mult_Validate_fn = true := by kernel_rfl
theorem chk_green_right : chkFn Cx0 54 green_right_fn = true := by kernel_rfl
theorem chk_green_left : chkFn Cx0 55 green_left_fn = true := by kernel_rfl
theorem chk_green_two : chkFn Cx0 56 green_two_fn = true := by kernel_rfl
theorem chk_green_mutual : chkFn Cx0 63 green_mutual_fn = true := by kernel_rfl
theorem chk_partition_Valid : chkFn Cx0 70 partition_Valid_fn = true := by kernel_rfl
theorem chk_partition_both : chkFn Cx0 68 partition_both_fn = true := by kernel_rfl
theorem chk_partition_Canonical : chkFn Cx0 69 partition_Canonical_fn = true := by kernel_rfl
theorem chk_partition_Meet : chkFn Cx0 64 partition_Meet_fn = true := by kernel_rfl
theorem chk_green_firsts : chkFn Cx0 65 green_firsts_fn = true := by kernel_rfl
theorem chk_green_classes : chkFn Cx0 46 green_classes_fn = true := by kernel_rfl
theorem chk_green_Classes : chkFn Cx0 15 green_Classes_fn = true := by kernel_rfl
theorem chk_semigroupref03_Same : chkFn Cx0 22 semigroupref03_Same_fn = true := by kernel_rfl
theorem chk_green_Heights : chkFn Cx0 24 green_Heights_fn = true := by kernel_rfl
theorem chk_semigrouplaw15_awake : chkFn Cx0 14 semigrouplaw15_awake_fn = true := by kernel_rfl
theorem chk_green_Regular : chkFn Cx0 33 green_Regular_fn = true := by kernel_rfl
theorem chk_green_Inverses : chkFn Cx0 34 green_Inverses_fn = true := by kernel_rfl
theorem chk_mult_Idempotents : chkFn Cx0 37 mult_Idempotents_fn = true := by kernel_rfl
theorem chk_semigrouplaw15_GreenInverts : chkFn Cx0 10 semigrouplaw15_GreenInverts_fn = true := by kernel_rfl
theorem hG : chkG Cx0 fids G = true := chkG_cons' chk_semigroupref14_Shape (chkG_cons' chk_semigroupref14_Associative (chkG_cons' chk_semigroupref14_Validate (chkG_cons' chk_semigroupref14_Valid (chkG_cons' chk_semigrouplaw15_small (chkG_cons' chk_semigroupref14_In (chkG_cons' chk_semigrouplaw15_flip (chkG_cons' chk_mult_shape (chkG_cons' chk_mult_failing (chkG_cons' chk_mult_Validate (chkG_cons' chk_green_right (chkG_cons' chk_green_left (chkG_cons' chk_green_two (chkG_cons' chk_green_mutual (chkG_cons' chk_partition_Valid (chkG_cons' chk_partition_both (chkG_cons' chk_partition_Canonical (chkG_cons' chk_partition_Meet (chkG_cons' chk_green_firsts (chkG_cons' chk_green_classes (chkG_cons' chk_green_Classes (chkG_cons' chk_semigroupref03_Same (chkG_cons' chk_green_Heights (chkG_cons' chk_semigrouplaw15_awake (chkG_cons' chk_green_Regular (chkG_cons' chk_green_Inverses (chkG_cons' chk_mult_Idempotents (chkG_cons' chk_semigrouplaw15_GreenInverts (chkG_nil'))))))))))))))))))))))))))))
end Go.Ab
