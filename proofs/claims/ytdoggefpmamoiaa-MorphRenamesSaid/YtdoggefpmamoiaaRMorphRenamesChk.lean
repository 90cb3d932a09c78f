/- Each function's pieces agree with the given program. Printed. No condition. -/
import Derived.Test.YtdoggefpmamoiaaProg
import Derived.Test.YtdoggefpmamoiaaRMorphRenamesIr
import Derived.Test.YtdoggefpmamoiaaAbA2
import Derived.KernelRfl
namespace Go.Ab
def fids : List Nat := [41, 51, 34, 42, 20, 39, 56, 57, 43, 37, 60, 54, 38, 12, 18, 14, 13, 29, 30, 17, 44, 21, 22, 19, 8]
noncomputable def Cx0 : Ctx := ⟨Go.Proofs.Try.prog, fids, 0, 0⟩
theorem chk_semigroupref14_Shape : chkFn Cx0 41 semigroupref14_Shape_fn = true := by kernel_rfl
theorem chk_semigroupref14_Associative : chkFn Cx0 51 semigroupref14_Associative_fn = true := by kernel_rfl
theorem chk_semigroupref14_Validate : chkFn Cx0 34 semigroupref14_Validate_fn = true := by kernel_rfl
theorem chk_semigroupref14_Valid : chkFn Cx0 42 semigroupref14_Valid_fn = true := by kernel_rfl
theorem chk_semigrouplaw20_small : chkFn Cx0 20 semigrouplaw20_small_fn = true := by kernel_rfl
theorem chk_semigrouplaw20_two : chkFn Cx0 39 semigrouplaw20_two_fn = true := by kernel_rfl
theorem chk_mult_shape : chkFn Cx0 56 mult_shape_fn = true := by kernel_rfl
theorem chk_mult_failing : chkFn Cx0 57 mult_failing_fn = true := by kernel_rfl
theorem chk_mult_Validate : chkFn Cx0 43 mult_Validate_fn = true := by kernel_rfl
theorem chk_morph_check : chkFn Cx0 37 morph_check_fn = true := by kernel_rfl
theorem chk_semigroup_morph_search_set : chkFn Cx0 60 semigroup_morph_search_set_fn = true := by kernel_rfl
theorem chk_semigroup_morph_search_extend : chkFn Cx0 54 semigroup_morph_search_extend_fn = true := by kernel_rfl
theorem chk_morph_find : chkFn Cx0 38 morph_find_fn = true := by kernel_rfl
theorem chk_morph_Homs : chkFn Cx0 12 morph_Homs_fn = true := by kernel_rfl
theorem chk_semigroupref03_Same : chkFn Cx0 18 semigroupref03_Same_fn = true := by kernel_rfl
theorem chk_semigroupref03_SameRows : chkFn Cx0 14 semigroupref03_SameRows_fn = true := by kernel_rfl
theorem chk_semigrouplaw20_awake : chkFn Cx0 13 semigrouplaw20_awake_fn = true := by kernel_rfl
theorem chk_semigroupref03_Discrete : chkFn Cx0 29 semigroupref03_Discrete_fn = true := by kernel_rfl
theorem chk_semigroupref03_Copy : chkFn Cx0 30 semigroupref03_Copy_fn = true := by kernel_rfl
theorem chk_morph_Isomorphism : chkFn Cx0 17 morph_Isomorphism_fn = true := by kernel_rfl
theorem chk_morph_isHom : chkFn Cx0 44 morph_isHom_fn = true := by kernel_rfl
theorem chk_morph_IsHom : chkFn Cx0 21 morph_IsHom_fn = true := by kernel_rfl
theorem chk_morph_Image : chkFn Cx0 22 morph_Image_fn = true := by kernel_rfl
theorem chk_morph_Automorphisms : chkFn Cx0 19 morph_Automorphisms_fn = true := by kernel_rfl
theorem chk_semigrouplaw20_MorphRenames : chkFn Cx0 8 semigrouplaw20_MorphRenames_fn = true := by kernel_rfl
theorem hG : chkG Cx0 fids G = true := chkG_cons' chk_semigroupref14_Shape (chkG_cons' chk_semigroupref14_Associative (chkG_cons' chk_semigroupref14_Validate (chkG_cons' chk_semigroupref14_Valid (chkG_cons' chk_semigrouplaw20_small (chkG_cons' chk_semigrouplaw20_two (chkG_cons' chk_mult_shape (chkG_cons' chk_mult_failing (chkG_cons' chk_mult_Validate (chkG_cons' chk_morph_check (chkG_cons' chk_semigroup_morph_search_set (chkG_cons' chk_semigroup_morph_search_extend (chkG_cons' chk_morph_find (chkG_cons' chk_morph_Homs (chkG_cons' chk_semigroupref03_Same (chkG_cons' chk_semigroupref03_SameRows (chkG_cons' chk_semigrouplaw20_awake (chkG_cons' chk_semigroupref03_Discrete (chkG_cons' chk_semigroupref03_Copy (chkG_cons' chk_morph_Isomorphism (chkG_cons' chk_morph_isHom (chkG_cons' chk_morph_IsHom (chkG_cons' chk_morph_Image (chkG_cons' chk_morph_Automorphisms (chkG_cons' chk_semigrouplaw20_MorphRenames (chkG_nil')))))))))))))))))))))))))
end Go.Ab
