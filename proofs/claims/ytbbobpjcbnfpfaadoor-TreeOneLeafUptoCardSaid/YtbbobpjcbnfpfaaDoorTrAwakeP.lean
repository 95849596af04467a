/- Three leaves in plain words. No condition. -/
import Derived.Test.YtbbobpjcbnfpfaaDoorTrCheck
import Derived.Test.YtbbobpjcbnfpfaaDoorTrLogP
namespace Go.Proofs.YtbbobpjcbnfpfaaDoor
open Go.RowKit
theorem half3 : half 3 = 2 := by decide +kernel
theorem half2 : half 2 = 1 := by decide +kernel
theorem sides31 : sides 3 1 = [false, true] := by
  have s1 : sides (2 - 1) (1 - 1) = [] := by rw [sides, if_pos (by omega)]
  rw [sides, half3, if_neg (by omega), if_pos (by omega), sides, half2, if_neg (by omega), if_neg (by omega), s1]
  rfl
theorem root2 (hf : Bs → Bs) (a b : Bs) : rootH hf [a, b] = nodeH hf (leafH hf a) (leafH hf b) := by
  have h1 : ∀ x : Bs, rootH hf [x] = leafH hf x := fun x => by rw [rootH.eq_def]; rfl
  rw [rootH.eq_def, if_neg (by simp), show half [a, b].length = 1 from half2]
  simp only [List.take_succ_cons, List.take_zero, List.drop_succ_cons, List.drop_zero, h1]
theorem root3 (hf : Bs → Bs) (a b c : Bs) : rootH hf [a, b, c] = nodeH hf (nodeH hf (leafH hf a) (leafH hf b)) (leafH hf c) := by
  have h1 : ∀ x : Bs, rootH hf [x] = leafH hf x := fun x => by rw [rootH.eq_def]; rfl
  have h2 : rootH hf [a, b] = nodeH hf (leafH hf a) (leafH hf b) := by
    rw [rootH.eq_def, if_neg (by simp), show half [a, b].length = 1 from half2]
    simp only [List.take_succ_cons, List.take_zero, List.drop_succ_cons, List.drop_zero, h1]
  rw [rootH.eq_def, if_neg (by simp), show half [a, b, c].length = 2 from half3]
  simp only [List.take_succ_cons, List.take_zero, List.drop_succ_cons, List.drop_zero, h1, h2]
theorem path31 (hf : Bs → Bs) (a b c : Bs) : pathH hf [a, b, c] 1 = [leafH hf a, leafH hf c] := by
  have h1 : ∀ x : Bs, rootH hf [x] = leafH hf x := fun x => by rw [rootH.eq_def]; rfl
  rw [pathH.eq_def, if_neg (by simp), show half [a, b, c].length = 2 from half3, if_pos (by omega)]
  simp only [List.take_succ_cons, List.take_zero, List.drop_succ_cons, List.drop_zero, h1]
  rw [pathH.eq_def, if_neg (by simp), show half [a, b].length = 1 from half2, if_neg (by omega)]
  simp only [List.take_succ_cons, List.take_zero, List.drop_succ_cons, List.drop_zero, h1]
  rw [pathH.eq_def, if_pos (by simp)]
  rfl
theorem unlike_x : fin (1 :: (fin (1 :: (fin [0, 97] 0 0 ++ fin [0, 120] 0 0)) 0 0 ++ fin [0, 99] 0 0)) 0 0 ≠ fin (1 :: (fin (1 :: (fin [0, 97] 0 0 ++ fin [0, 98] 0 0)) 0 0 ++ fin [0, 99] 0 0)) 0 0 := by decide +kernel
/-- A path of three leaves is taken, another leaf is not. -/
theorem check_b (hf : Bs → Bs) : checkE hf (rootH hf [[97], [98], [99]]) 3 1 [98] (pathH hf [[97], [98], [99]] 1) = 0 := by
  unfold checkE
  rw [if_neg (by omega), if_neg (by omega), path31, root3]
  rw [if_pos]
  rw [shownH_eq, show (3 : Int).toNat = 3 from rfl, show (1 : Int).toNat = 1 from rfl, sides31]
  rfl
theorem check_x (hf : Bs → Bs) (hl : ∀ d, hf d = fin d 0 0) : checkE hf (rootH hf [[97], [98], [99]]) 3 1 [120] (pathH hf [[97], [98], [99]] 1) = 43 := by
  unfold checkE
  rw [if_neg (by omega), if_neg (by omega), path31, root3]
  rw [if_neg]
  rw [shownH_eq, show (3 : Int).toNat = 3 from rfl, show (1 : Int).toNat = 1 from rfl, sides31]
  intro h
  have h2 := Option.some.inj ((if_pos rfl).symm.trans h)
  simp only [List.zip_cons_cons, List.zip_nil_right, climb, Bool.false_eq_true, if_false, if_true, nodeH, leafH, hl] at h2
  exact unlike_x h2
end Go.Proofs.YtbbobpjcbnfpfaaDoor
