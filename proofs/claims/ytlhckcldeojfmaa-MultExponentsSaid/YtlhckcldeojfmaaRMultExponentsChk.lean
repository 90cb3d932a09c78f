/- Each function's pieces agree with the given program. Printed. No condition. -/
import Derived.Test.YtlhckcldeojfmaaProg
import Derived.Test.YtlhckcldeojfmaaRMultExponentsIr
import Derived.Test.YtlhckcldeojfmaaAbAR
import Derived.KernelRfl
namespace Go.Ab
def fids : List Nat := [23, 18, 65, 24, 36, 32, 62, 63, 19, 64, 20, 67, 66, 30, 21, 16, 29, 31, 6]
noncomputable def Cx0 : Ctx := ⟨Go.Proofs.Try.prog, fids, 0, 0⟩
theorem chk_semigroupref14_Shape : chkFn Cx0 23 semigroupref14_Shape_fn = true := by kernel_rfl
theorem chk_semigroupref14_Associative : chkFn Cx0 18 semigroupref14_Associative_fn = true := by kernel_rfl
theorem chk_semigroupref14_Validate : chkFn Cx0 65 semigroupref14_Validate_fn = true := by kernel_rfl
theorem chk_semigroupref14_Valid : chkFn Cx0 24 semigroupref14_Valid_fn = true := by kernel_rfl
theorem chk_semigrouplaw14_small : chkFn Cx0 36 semigrouplaw14_small_fn = true := by kernel_rfl
theorem chk_semigroupref14_In : chkFn Cx0 32 semigroupref14_In_fn = true := by kernel_rfl
theorem chk_mult_shape : chkFn Cx0 62 mult_shape_fn = true := by kernel_rfl
theorem chk_mult_failing : chkFn Cx0 63 mult_failing_fn = true := by kernel_rfl
theorem chk_mult_Validate : chkFn Cx0 19 mult_Validate_fn = true := by kernel_rfl
theorem chk_mult_identity : chkFn Cx0 64 mult_identity_fn = true := by kernel_rfl
theorem chk_mult_Identity : chkFn Cx0 20 mult_Identity_fn = true := by kernel_rfl
theorem chk_mult_indexPeriod : chkFn Cx0 67 mult_indexPeriod_fn = true := by kernel_rfl
theorem chk_mult_power : chkFn Cx0 66 mult_power_fn = true := by kernel_rfl
theorem chk_mult_Omega : chkFn Cx0 30 mult_Omega_fn = true := by kernel_rfl
theorem chk_mult_Zero : chkFn Cx0 21 mult_Zero_fn = true := by kernel_rfl
theorem chk_semigrouplaw14_awake : chkFn Cx0 16 semigrouplaw14_awake_fn = true := by kernel_rfl
theorem chk_mult_Power : chkFn Cx0 29 mult_Power_fn = true := by kernel_rfl
theorem chk_mult_IndexPeriod : chkFn Cx0 31 mult_IndexPeriod_fn = true := by kernel_rfl
theorem chk_semigrouplaw14_MultExponents : chkFn Cx0 6 semigrouplaw14_MultExponents_fn = true := by kernel_rfl
theorem hG : chkG Cx0 fids G = true := chkG_cons' chk_semigroupref14_Shape (chkG_cons' chk_semigroupref14_Associative (chkG_cons' chk_semigroupref14_Validate (chkG_cons' chk_semigroupref14_Valid (chkG_cons' chk_semigrouplaw14_small (chkG_cons' chk_semigroupref14_In (chkG_cons' chk_mult_shape (chkG_cons' chk_mult_failing (chkG_cons' chk_mult_Validate (chkG_cons' chk_mult_identity (chkG_cons' chk_mult_Identity (chkG_cons' chk_mult_indexPeriod (chkG_cons' chk_mult_power (chkG_cons' chk_mult_Omega (chkG_cons' chk_mult_Zero (chkG_cons' chk_semigrouplaw14_awake (chkG_cons' chk_mult_Power (chkG_cons' chk_mult_IndexPeriod (chkG_cons' chk_semigrouplaw14_MultExponents (chkG_nil')))))))))))))))))))
end Go.Ab
