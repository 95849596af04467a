/- A commit, a pending one is equal to itself. No condition. -/
import Derived.Test.YtmjdfglidfdkaaaLdConf
import Derived.Stop.BytesEq
namespace Go.Proofs.Ytmjdfglidfdkaaa
open Go.RowKit
theorem cut_mid (A X Bs : List Value) (i j : Nat) (hi : i = A.length) (hj : j = A.length + X.length) : (A ++ (X ++ Bs)).toArray.extract i j = X.toArray := by
  subst hi hj
  rw [List.extract_toArray]
  simp [List.extract_eq_take_drop]
theorem part_agg {t : TypeId} {cs : Array Value} {off s : Nat} {d : TypeDesc} (w : World) (hd : (match d with | .struct _ | .array _ _ => true | _ => false) = true) (hu : Try.prog.underlying t = some d) (hs : (Try.prog.info? t).map (·.size) = some s) : (part t cs off).run Try.prog w = .ok (.agg (cs.extract off (off + s))) w := by
  unfold part
  rw [Sem.run_bind, run_isAgg hu w]
  cases d <;> first | (exact Bool.noConfusion hd) | simp [run_sizeOf hs w]
theorem part_int {cs : Array Value} {off : Nat} {n : Int} (w : World) (h : cs[off]? = some (.int .i64 n)) : (part 3 cs off).run Try.prog w = .ok (.int .i64 n) w := by
  unfold part
  rw [Sem.run_bind, run_isAgg Try.underlying3 w]
  simp [h]
theorem eqDig (w : World) (d : Nat) (x : D32) : (Op.equalIn (d + 2) 23 (.agg (x.1.map V8).toArray) (.agg (x.1.map V8).toArray)).run Try.prog w = .ok true w := by
  have h := run_equalIn_bytes (P := Try.prog) w d 23 5 32 Try.underlying23 Try.underlying5 Try.sizeOf5 x.1 x.1 x.2 x.2
  rw [beq_self_eq_true] at h
  exact h
theorem eqAdr (w : World) (d : Nat) (x : A20) : (Op.equalIn (d + 2) 35 (.agg (x.1.map V8).toArray) (.agg (x.1.map V8).toArray)).run Try.prog w = .ok true w := by
  have h := run_equalIn_bytes (P := Try.prog) w d 35 5 20 Try.underlying35 Try.underlying5 Try.sizeOf5 x.1 x.1 x.2 x.2
  rw [beq_self_eq_true] at h
  exact h
theorem eqInt (w : World) (d : Nat) (n : Int) : (Op.equalIn (d + 1) 3 (.int .i64 n) (.int .i64 n)).run Try.prog w = .ok true w := by
  rw [run_equalIn_int w d 3 .i64 .i64 n n Try.underlying3]
  simp
theorem infoDg : (Try.prog.info? 23).map (·.size) = some 32 := by kernel_rfl
theorem fieldsCm : (Try.prog.fieldsOf 25).toList.map (fun f => (f.name, f.type, f.offset)) = [("Count", 3, 0), ("State", 23, 1), ("Outbox", 23, 33), ("Leaves", 3, 65)] := by kernel_rfl
theorem fieldsPd : (Try.prog.fieldsOf 44).toList.map (fun f => (f.name, f.type, f.offset)) = [("Number", 3, 0), ("Commit", 25, 1), ("Poster", 35, 67), ("Posted", 3, 87), ("Deadline", 3, 88), ("Duels", 3, 89)] := by kernel_rfl
/-- Fields that are equal to themselves, one after the other. -/
theorem fields_refl (d : Nat) (cs : Array Value) (w : World) : ∀ fs : List Field, (∀ f ∈ fs, f.name ≠ "_" ∧ ∃ v, (part f.type cs f.offset).run Try.prog w = .ok v w ∧ (Op.equalIn d f.type v v).run Try.prog w = .ok true w) → (Op.eqFields d cs cs fs).run Try.prog w = .ok true w
  | [], _ => by simp [Op.eqFields]
  | f :: fs, h => by
    obtain ⟨hn, v, h1, h2⟩ := h f (by simp)
    unfold Op.eqFields
    rw [if_pos hn]
    simp only [Sem.run_bind, h1, h2, Result.andThen_ok, Bool.not_true, Bool.false_eq_true, if_false]
    exact fields_refl d cs w fs (fun g hg => h g (by simp [hg]))
theorem fields_of {fs : List Field} {l : List (String × TypeId × Nat)} (h : fs.map (fun f => (f.name, f.type, f.offset)) = l) {Q : String → TypeId → Nat → Prop} (hq : ∀ x ∈ l, Q x.1 x.2.1 x.2.2) : ∀ f ∈ fs, Q f.name f.type f.offset := by
  intro f hf
  subst h
  exact hq _ (List.mem_map.2 ⟨f, hf, rfl⟩)
theorem eqIn_cm (d : Nat) (c : Cm) (w : World) : (Op.equalIn (d + 4) 25 (cv c) (cv c)).run Try.prog w = .ok true w := by
  unfold cv
  rw [run_equalIn_agg w (d + 3) 25 _ _ (by kernel_rfl) (by kernel_rfl)]
  refine fields_refl (d + 3) _ w _ (fields_of (Q := fun nm t o => nm ≠ "_" ∧ ∃ v, (part t c.cells.toArray o).run Try.prog w = .ok v w ∧ (Op.equalIn (d + 3) t v v).run Try.prog w = .ok true w) fieldsCm ?_)
  intro x hx
  simp only [List.mem_cons, List.not_mem_nil, or_false] at hx
  rcases hx with rfl | rfl | rfl | rfl
  · exact ⟨by decide, _, part_int w (by rw [List.getElem?_toArray]; exact c.c0), eqInt w (d + 2) _⟩
  · refine ⟨by decide, _, part_agg w rfl Try.underlying23 infoDg, ?_⟩
    have e := cut_mid [.int .i64 c.count] (c.state.1.map V8) (c.outbox.1.map V8 ++ [.int .i64 c.leaves]) 1 (1 + 32) rfl (by simp [c.state.2])
    rw [show c.cells.toArray.extract 1 (1 + 32) = (c.state.1.map V8).toArray from e]
    exact eqDig w (d + 1) c.state
  · refine ⟨by decide, _, part_agg w rfl Try.underlying23 infoDg, ?_⟩
    have e := cut_mid (.int .i64 c.count :: c.state.1.map V8) (c.outbox.1.map V8) [.int .i64 c.leaves] 33 (33 + 32) (by simp [c.state.2]) (by simp [c.state.2, c.outbox.2])
    rw [show c.cells.toArray.extract 33 (33 + 32) = (c.outbox.1.map V8).toArray from e]
    exact eqDig w (d + 1) c.outbox
  · exact ⟨by decide, _, part_int w (by rw [List.getElem?_toArray]; exact c.c65), eqInt w (d + 2) _⟩
theorem eqIn_pd (d : Nat) (p : Pd) (w : World) : (Op.equalIn (d + 6) 44 (pv p) (pv p)).run Try.prog w = .ok true w := by
  unfold pv
  rw [run_equalIn_agg w (d + 5) 44 _ _ (by kernel_rfl) (by kernel_rfl)]
  refine fields_refl (d + 5) _ w _ (fields_of (Q := fun nm t o => nm ≠ "_" ∧ ∃ v, (part t p.cells.toArray o).run Try.prog w = .ok v w ∧ (Op.equalIn (d + 5) t v v).run Try.prog w = .ok true w) fieldsPd ?_)
  intro x hx
  simp only [List.mem_cons, List.not_mem_nil, or_false] at hx
  rcases hx with rfl | rfl | rfl | rfl | rfl | rfl
  · exact ⟨by decide, _, part_int w (by rw [List.getElem?_toArray]; exact p.c0), eqInt w (d + 4) _⟩
  · refine ⟨by decide, _, part_agg w rfl Try.underlying25 infoCm', ?_⟩
    have e := cut_mid [.int .i64 p.number] p.commit.cells (p.poster.1.map V8 ++ [.int .i64 p.posted, .int .i64 p.deadline, .int .i64 p.duels]) 1 (1 + 66) rfl (by simp [p.commit.len])
    rw [show p.cells.toArray.extract 1 (1 + 66) = p.commit.cells.toArray from e]
    exact eqIn_cm (d + 1) p.commit w
  · refine ⟨by decide, _, part_agg w rfl Try.underlying35 infoAd', ?_⟩
    have e := cut_mid (.int .i64 p.number :: p.commit.cells) (p.poster.1.map V8) [.int .i64 p.posted, .int .i64 p.deadline, .int .i64 p.duels] 67 (67 + 20) (by simp [p.commit.len]) (by simp [p.commit.len, p.poster.2])
    rw [show p.cells.toArray.extract 67 (67 + 20) = (p.poster.1.map V8).toArray from e]
    exact eqAdr w (d + 3) p.poster
  · exact ⟨by decide, _, part_int w (by rw [List.getElem?_toArray]; exact p.c87), eqInt w (d + 4) _⟩
  · exact ⟨by decide, _, part_int w (by rw [List.getElem?_toArray]; exact p.c88), eqInt w (d + 4) _⟩
  · exact ⟨by decide, _, part_int w (by rw [List.getElem?_toArray]; exact p.c89), eqInt w (d + 4) _⟩
theorem eqCm (w : World) (c : Cm) : (binOp .eql 25 (cv c) (cv c)).run Try.prog w = .ok (.bool true) w := by
  have h := eqIn_cm 9996 c w
  unfold cv at h ⊢
  rw [run_eql_struct, h]; rfl
theorem eqPd (w : World) (p : Pd) : (binOp .eql 44 (pv p) (pv p)).run Try.prog w = .ok (.bool true) w := by
  have h := eqIn_pd 9994 p w
  unfold pv at h ⊢
  rw [run_eql_struct, h]; rfl
theorem neqCm (w : World) (c : Cm) : (binOp .neq 25 (cv c) (cv c)).run Try.prog w = .ok (.bool false) w := by
  have h := eqIn_cm 9996 c w
  unfold cv at h ⊢
  rw [run_neq_struct, h]; rfl
theorem neqPd (w : World) (p : Pd) : (binOp .neq 44 (pv p) (pv p)).run Try.prog w = .ok (.bool false) w := by
  have h := eqIn_pd 9994 p w
  unfold pv at h ⊢
  rw [run_neq_struct, h]; rfl
theorem guardCm (w : World) (op : BinOp) (x y : Operand) (a b : Cm) : (eqGuard op 25 x y (cv a) (cv b)).run Try.prog w = .ok () w :=
  run_eqGuard_agg w op _ x y _ _ Try.eqGuardType25
theorem guardPd (w : World) (op : BinOp) (x y : Operand) (a b : Pd) : (eqGuard op 44 x y (pv a) (pv b)).run Try.prog w = .ok () w :=
  run_eqGuard_agg w op _ x y _ _ Try.eqGuardType44
end Go.Proofs.Ytmjdfglidfdkaaa
