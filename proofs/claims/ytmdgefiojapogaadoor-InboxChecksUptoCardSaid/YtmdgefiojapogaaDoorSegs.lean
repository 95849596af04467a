/- A region that draws its order and holds several calls: from call to call its operations only read, and each call waits for all ahead of it. Conditions: as the checks say, which the kernel decides. -/
import Derived.Test.YtmdgefiojapogaaDoorMem
import Derived.StillTailTactics
namespace Go.Proofs.YtmdgefiojapogaaDoor
open Go.RowKit
section
variable {P : Program} {ops : Array Oper} {md : Region.Mode} {w : World}
/-- Whoever stands behind n waits for one that stands there ahead of him. -/
def behindB (md : Region.Mode) (ops : Array Oper) (n : Nat) : Bool :=
  (List.range ops.size).all fun t => decide (t ≤ n) || (List.range t).any fun j => decide (n ≤ j) && Region.waitsFor md ops t j
theorem listed_of {j i : Nat} {listed : Array Bool} (hj : j ∈ Region.ready md ops listed) (hw : Region.waitsFor md ops j i = true) : listed.getD i false = true := by
  obtain ⟨o, ho, e, he, hb, rfl⟩ := Region.waitsFor_spec hw
  obtain ⟨_, o', ho', hall⟩ := mem_ready.1 hj
  rw [ho] at ho'
  cases ho'
  exact hall e he hb
/-- While one of the head is left, none of the others may come up. -/
theorem none_early {n : Nat} {listed : Array Bool} (hs : Region.sinkB md ops n = true) (hb : behindB md ops n = true) (inv : HeadInv md ops n listed) : ∀ (k i : Nat), n ≤ i + k → i < n → listed.getD i true = false → ∀ j ∈ Region.ready md ops listed, j < n := by
  intro k
  induction k with
  | zero => intro i h1 h2; omega
  | succ k ih =>
    intro i h1 hi hun j hj
    refine Nat.lt_of_not_le fun hjn => ?_
    obtain ⟨_, oj, hoj, _⟩ := mem_ready.1 hj
    have hjs : j < ops.size := (Array.getElem?_eq_some_iff.1 hoj).1
    rcases Nat.lt_or_ge n j with hlt | hge
    · have h2 := List.all_eq_true.1 hb j (List.mem_range.2 hjs)
      rw [decide_eq_false (by omega), Bool.false_or] at h2
      obtain ⟨u, hu, hu2⟩ := List.any_eq_true.1 h2
      rw [Bool.and_eq_true, decide_eq_true_eq] at hu2
      have h3 := listed_of hj hu2.2
      rw [getD_both (inv.tail u hu2.1 (by have := List.mem_range.1 hu; omega))] at h3
      cases h3
    · obtain rfl : j = n := by omega
      obtain ⟨u, hu, hu2⟩ := List.any_eq_true.1 (List.all_eq_true.1 hs i (List.mem_range.2 hi))
      rw [Bool.and_eq_true, decide_eq_true_eq] at hu2
      have hun2 : u ≤ j := by have := List.mem_range.1 hu; omega
      by_cases hju : u = j
      · subst hju
        have h3 := listed_of hj hu2.2
        rw [getD_both hun] at h3
        cases h3
      · by_cases hl : listed.getD u true = false
        · exact absurd hj (fun hj => absurd (ih u (by omega) (by omega) hl j hj) (by omega))
        · obtain ⟨o, ho, e, he, hb', rfl⟩ := Region.waitsFor_spec hu2.2
          have hlu : listed.getD u false = true := by
            have hsz : u < listed.size := by rw [inv.size]; omega
            simp [hsz] at hl ⊢
            exact hl
          have h3 := inv.closed u o ho hlu e he hb'
          rw [getD_both hun] at h3
          cases h3
/-- One that may come up may come first. -/
theorem comes_first {n i : Nat} {oi : Oper} {v : Value} {L : Array Bool → Act → Prop} (hi : ops[i]? = some oi) (hsel : ∀ (j : Nat) (o : Oper) cs b, ops[j]? = some o → o.op ≠ .select cs b)
    (hs : Region.sinkB md ops n = true) (hb : behindB md ops n = true) (hin : i < n) (hdone : ∀ listed a, L listed a → ∀ j ∈ Region.ready md ops listed, n ≤ j) (f : Nat) :
    ∀ (listed : Array Bool) (a : Act), HeadInv md ops n listed → i ∈ Region.ready md ops listed →
      (∀ j oj, ops[j]? = some oj → j ≠ i → listed.getD j true = false → (∀ e ∈ oj.after, Region.binds md e = true → e.on ≠ i) → oi.apart ops oj = true) →
      YieldsAt P ops w oi v a → wpAnyL P md ops w n L f (listed.setIfInBounds i true) (a.put oi.dst v) → wpAnyL P md ops w n L (f + 1) listed a := by
  induction f with
  | zero =>
    intro listed a inv hr _ hy H
    refine ⟨List.ne_nil_of_mem hr, fun j hj => ⟨none_early hs hb inv n i (by omega) hin (mem_ready.1 hr).1 j hj, ?_⟩⟩
    by_cases hji : j = i
    · rw [hji]; exact hy.stOp hi H
    · have h1 := hdone _ _ H j (ready_mono hj hji)
      have h2 := none_early hs hb inv n i (by omega) hin (mem_ready.1 hr).1 j hj
      omega
  | succ f ih =>
    intro listed a inv hr hap hy H
    have hlow := none_early hs hb inv n i (by omega) hin (mem_ready.1 hr).1
    refine ⟨List.ne_nil_of_mem hr, fun j hj => ⟨hlow j hj, ?_⟩⟩
    by_cases hji : j = i
    · rw [hji]; exact hy.stOp hi H
    · obtain ⟨hjl, oj, hoj, hall⟩ := mem_ready.1 hj
      have hno : ∀ e ∈ oj.after, Region.binds md e = true → e.on ≠ i := fun e he hbe hon => by
        have h1 := hall e he hbe
        rw [hon, getD_both (mem_ready.1 hr).1] at h1
        cases h1
      refine stOp_mono (fun a' h3 => ih _ a' (inv.set hj (hlow j hj)) (ready_mono hr (Ne.symm hji)) (fun k ok hk hki hkl hkn => hap k ok hk hki ?_ hkn) h3.1 ?_) (stOp_put hoj (hap j oj hoj hji hjl hno) (fun cs b => hsel i oi cs b hi) (fun cs b => hsel j oj cs b hoj) hy (H.2 j (ready_mono hj hji)).2)
      · by_cases hjk : j = k
        · rw [← hjk]; exact hjl
        · rw [getD_set_ne true hjk] at hkl; exact hkl
      · rw [Array.setIfInBounds_comm _ _ hji]
        exact h3.2
/-- The head's operations, each taken as it is written; then the check goes on. -/
def upTo (md : Region.Mode) (ops : Array Oper) (C : Array Bool → Bool) : Nat → Nat → Array Bool → Bool
  | 0, _, listed => C listed
  | f + 1, k, listed => (Region.ready md ops listed).contains k && Region.free md ops listed k && upTo md ops C f (k + 1) (listed.setIfInBounds k true)
theorem head_lex {n : Nat} {Lq : Act → Prop} {C : Array Bool → Bool} (hsel : Region.noSelect ops = true) (hs : Region.sinkB md ops n = true) (hb : behindB md ops n = true) (hC : ∀ listed, C listed = true → ∀ j ∈ Region.ready md ops listed, n ≤ j) :
    ∀ (l : List Oper) (k : Nat) (listed : Array Bool) (a : Act), (∀ j, j < l.length → l[j]? = ops[k + j]?) → k + l.length = n → HeadInv md ops n listed →
    upTo md ops C l.length k listed = true → wpStill P ops w Lq l a → wpAnyL P md ops w n (fun l' a' => C l' = true ∧ HeadInv md ops n l' ∧ Lq a') l.length listed a
  | [], _, _, _, _, _, inv, h1, h2 => ⟨h1, inv, h2⟩
  | o :: l, k, listed, a, hl, hk, inv, h1, h2 => by
    have h0 : ops[k]? = some o := by simpa using (hl 0 (by simp)).symm
    simp only [List.length_cons, upTo, Bool.and_eq_true] at h1
    obtain ⟨⟨hr, hf⟩, h1⟩ := h1
    have hkn : k < n := by rw [← hk, List.length_cons]; omega
    have hr' : k ∈ Region.ready md ops listed := by simpa using hr
    obtain ⟨v, hy, hK⟩ := yieldsAt_of_stOp h0 (show stOp P ops w k (wpStill P ops w Lq l) a from by unfold stOp; simp only [h0]; exact h2)
    exact comes_first h0 (Region.noSelect_spec hsel) hs hb hkn (fun l' a' hL => hC l' hL.1) l.length listed a inv hr' (Region.free_spec h0 hf) hy
      (head_lex hsel hs hb hC l (k + 1) _ _ (fun j hj => by have := hl (j + 1) (by rw [List.length_cons]; omega); simpa [Nat.add_assoc, Nat.add_comm 1 j] using this) (by rw [List.length_cons] at hk; omega) (inv.set hr' hkn) h1 hK)
/-- The calls stand at ns: what is checked from k on. -/
def segsB (md : Region.Mode) (ops : Array Oper) : List Nat → Nat → Array Bool → Bool
  | [], k, listed => decide (k ≤ ops.size) && Region.lexFrom md ops (ops.size - k) k listed
  | n :: ns, k, listed => decide (k ≤ n) && decide (n < ops.size) && Region.sinkB md ops n && behindB md ops n && upTo md ops (fun l' => decide (Region.ready md ops l' = [n]) && segsB md ops ns (n + 1) (l'.setIfInBounds n true)) (n - k) k listed
/-- What is to be shown: from call to call, as it is written. -/
def wpSegs (P : Program) (ops : Array Oper) (Q : Exit → Act → World → Prop) : List Nat → Nat → Act → World → Prop
  | [], k, a, w => wpStill P ops w (fun a' => Q .normal a' w) (ops.toList.drop k) a
  | n :: ns, k, a, w => wpStill P ops w (fun a' => wpOp P ops Q n (fun a'' w'' => wpSegs P ops Q ns (n + 1) a'' w'') a' w) ((ops.toList.drop k).take (n - k)) a
theorem headInv_up {n k : Nat} {listed : Array Bool} (inv : HeadInv md ops k listed) (hk : k ≤ n) : HeadInv md ops n listed := ⟨inv.size, inv.closed, fun t ht => inv.tail t (by omega)⟩
theorem any_segs {Q : Exit → Act → World → Prop} (hsel : Region.noSelect ops = true) : ∀ (ns : List Nat) (k : Nat) (listed : Array Bool) (a : Act) (w : World), HeadInv md ops k listed → segsB md ops ns k listed = true → wpSegs P ops Q ns k a w → wpAny P md ops Q (ops.size - k) listed a w
  | [], k, listed, a, w, inv, hB, h => by
    simp only [segsB, Bool.and_eq_true, decide_eq_true_eq] at hB
    have hl : (ops.toList.drop k).length = ops.size - k := by simp
    have h1 := wpAnyS_lex (P := P) (md := md) (w := w) hsel (ops.toList.drop k) k listed a (fun j => by simp [List.getElem?_drop]) (by rw [hl]; exact hB.2) h
    rw [hl] at h1
    exact wpAny_of_still (fun _ h => h) _ _ _ h1
  | n :: ns, k, listed, a, w, inv, hB, h => by
    simp only [segsB, Bool.and_eq_true, decide_eq_true_eq] at hB
    obtain ⟨⟨⟨⟨hkn, hn⟩, hs⟩, hb⟩, hup⟩ := hB
    have hl : ((ops.toList.drop k).take (n - k)).length = n - k := by rw [List.length_take, List.length_drop, Array.length_toList]; omega
    have h1 := head_lex (P := P) (w := w) (C := fun l' => decide (Region.ready md ops l' = [n]) && segsB md ops ns (n + 1) (l'.setIfInBounds n true)) hsel hs hb (fun l' hC j hj => by
      have hC2 := (Bool.and_eq_true_iff.1 hC).1
      rw [decide_eq_true_eq] at hC2
      rw [hC2] at hj
      rw [List.mem_singleton.1 hj]
      exact Nat.le_refl _) ((ops.toList.drop k).take (n - k)) k listed a (fun j hj => by
        rw [hl] at hj
        rw [List.getElem?_take, if_pos hj, List.getElem?_drop]
        simp) (by rw [hl]; omega) (headInv_up inv hkn) (by rw [hl]; exact hup) h
    rw [hl] at h1
    have e : ops.size - k = (n - k) + (ops.size - n) := by omega
    rw [e]
    refine wpAny_of_head (fun l' a' hL => ?_) _ _ _ h1
    obtain ⟨hC, inv', hq⟩ := hL
    obtain ⟨hr, hS⟩ := Bool.and_eq_true_iff.1 hC
    rw [decide_eq_true_eq] at hr
    obtain ⟨z, hz⟩ : ∃ z, ops.size - n = z + 1 := ⟨ops.size - (n + 1), by omega⟩
    have hz2 : z = ops.size - (n + 1) := by omega
    rw [hz]
    refine ⟨fun h0 => absurd (hr.symm.trans h0) (by simp), fun i hi => ?_⟩
    rw [hr] at hi
    rw [List.mem_singleton.1 hi]
    have hrn : n ∈ Region.ready md ops l' := by rw [hr]; exact List.mem_singleton.2 rfl
    have inv2 : HeadInv md ops (n + 1) (l'.setIfInBounds n true) := by
      refine ⟨by rw [Array.size_setIfInBounds]; exact inv'.size, fun j oj hoj hj e he hbe => ?_, fun t ht hts => ?_⟩
      · by_cases hjn : n = j
        · subst hjn
          obtain ⟨_, o', ho', hall⟩ := mem_ready.1 hrn
          rw [hoj] at ho'
          cases ho'
          exact getD_set_true (hall e he hbe)
        · rw [getD_set_ne false hjn] at hj
          exact getD_set_true (inv'.closed j oj hoj hj e he hbe)
      · rw [getD_set_ne true (by omega)]
        exact inv'.tail t (by omega) hts
    rw [hz2]
    exact wpOp_mono (fun a'' w'' h'' => any_segs hsel ns (n + 1) _ a'' w'' inv2 hS h'') hq
end
/-- The region's law: ns tells where its calls stand. -/
theorem wp_region_segs {P : Program} {id : Nat} {Q : Exit → Act → World → Prop} {a : Act} {w : World} {l : List Oper} (ns : List Nat) (hm : P.follows .mixedOrders = true)
    (hB : (Region.noSelect l.toArray && segsB .any l.toArray ns 0 (Array.replicate l.toArray.size false)) = true) (h : wpSegs P l.toArray Q ns 0 a w.drew) : (Code.region id l.toArray true).wp P Q a w := by
  simp only [Bool.and_eq_true] at hB
  refine wp_region_any hm ?_
  have inv : HeadInv .any l.toArray 0 (Array.replicate l.toArray.size false) :=
    ⟨by simp, fun j oj _ hl => (by rw [getD_replicate_false] at hl; cases hl), fun t _ ht => getD_in (by simpa using ht) (getD_replicate_false _ _)⟩
  exact any_segs hB.1 ns 0 _ a w.drew inv hB.2 h
section
variable {P : Program} {ops : Array Oper} {Q : Exit → Act → World → Prop} {a : Act} {w : World}
theorem segs_cons {n k : Nat} {ns : List Nat} (h : wpStill P ops w (fun a' => wpOp P ops Q n (fun a'' w'' => wpSegs P ops Q ns (n + 1) a'' w'') a' w) ((ops.toList.drop k).take (n - k)) a) : wpSegs P ops Q (n :: ns) k a w := h
theorem segs_nil {k : Nat} (h : wpStill P ops w (fun a' => Q .normal a' w) (ops.toList.drop k) a) : wpSegs P ops Q [] k a w := h
theorem op_at {i : Nat} {o : Oper} {K : Act → World → Prop} (hi : ops[i]? = some o) (hw : Region.wanted o (yielded ops a.tmps) = true) (h : o.wp P a w K Q) : wpOp P ops Q i K a w := by
  unfold wpOp
  simp only [hi, hw, if_true]
  exact .inl h
end
end Go.Proofs.YtmdgefiojapogaaDoor
