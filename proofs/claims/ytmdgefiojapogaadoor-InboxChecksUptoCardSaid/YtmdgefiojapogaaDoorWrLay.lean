/- lay of a writer. Conditions: at most 2^20 parts, of at most 2^40 bytes. -/
import Derived.Test.YtmdgefiojapogaaDoorWrFns
import Derived.Maps.AppendAt
namespace Go.Proofs.YtmdgefiojapogaaDoor
open Go.RowKit
attribute [local go_sem high] one8 st8 cm8 b_and8 b_and8r b_and8l b_or8 b_or8r b_or8l b_xor8 b_xor8r b_xor8l b_andNot8 b_andNot8r b_andNot8l b_add8 b_add8r b_add8l b_sub8 b_sub8r b_sub8l b_mul8 b_mul8r b_mul8l b_eql8 b_eql8r b_eql8l b_neq8 b_neq8r b_neq8l b_lss8 b_lss8r b_lss8l b_leq8 b_leq8r b_leq8l b_gtr8 b_gtr8r b_gtr8l b_geq8 b_geq8r b_geq8l b_quo8r b_rem8r b_shl8r b_shr8r b_shl8l b_shr8l u_xor8 g_eql8 g_neq8 g_eql8' g_neq8' one32 st32 cm32 b_and32 b_and32r b_and32l b_or32 b_or32r b_or32l b_xor32 b_xor32r b_xor32l b_andNot32 b_andNot32r b_andNot32l b_add32 b_add32r b_add32l b_sub32 b_sub32r b_sub32l b_mul32 b_mul32r b_mul32l b_eql32 b_eql32r b_eql32l b_neq32 b_neq32r b_neq32l b_lss32 b_lss32r b_lss32l b_leq32 b_leq32r b_leq32l b_gtr32 b_gtr32r b_gtr32l b_geq32 b_geq32r b_geq32l b_quo32r b_rem32r b_shl32r b_shr32r b_shl32l b_shr32l u_xor32 g_eql32 g_neq32 g_eql32' g_neq32' one64 st64 cm64 b_and64 b_and64r b_and64l b_or64 b_or64r b_or64l b_xor64 b_xor64r b_xor64l b_andNot64 b_andNot64r b_andNot64l b_add64 b_add64r b_add64l b_sub64 b_sub64r b_sub64l b_mul64 b_mul64r b_mul64l b_eql64 b_eql64r b_eql64l b_neq64 b_neq64r b_neq64l b_lss64 b_lss64r b_lss64l b_leq64 b_leq64r b_leq64l b_gtr64 b_gtr64r b_gtr64l b_geq64 b_geq64r b_geq64l b_quo64r b_rem64r b_shl64r b_shr64r b_shl64l b_shr64l u_xor64 g_eql64 g_neq64 g_eql64' g_neq64' c_u8_u8 c_u8_u32 c_u8_u64 c_i_u8 c_u32_u8 c_u32_u32 c_u32_u64 c_i_u32 c_u64_u8 c_u64_u32 c_u64_u64 c_i_u64 c_u8_i c_u32_i
attribute [local go_sem ↓] ce8 ce32 ce64
attribute [local go_sem ↓] sliced_slp
theorem total_take_le (xs : List SlR) (k : Nat) : total (xs.take k) ≤ total xs := by
  have := joined_take_length xs k
  rwa [joined_length] at this
theorem total_take_add (xs : List SlR) (k : Nat) (x : SlR) (h : xs[k]? = some x) : total (xs.take (k + 1)) = total (xs.take k) + x.d.length := by
  rw [← joined_length, ← joined_length, joined_take_succ xs k x h, List.length_append]
theorem elem_cell {w : World} {p : Option Addr} {cap : Nat} {xs : List SlR} (h : Rd SlR.v w p cap xs) (k : Nat) (x : SlR) (hx : xs[k]? = some x) : ∃ b o, p = some ⟨b, o, none⟩ ∧ w.cell? ⟨b, o + k, none⟩ = some (.slice x.p x.d.length x.cap) := h.cell k x hx
/-- append(out, list...) onto a row of the call's own; where it lies then. -/
theorem wpList_pushB {ops : Array Oper} {rest : List Oper} {o : Oper} {a : Act} {Q : Exit → Act → World → Prop} {w : World} (hgd : o.guard = none) (s x : Operand)
    (ho : o.op = .call { callee := .builtin .append, args := #[s, x], argTypes := #[27, 27] })
    (B : Nat) (v : Value) (l : List UInt8) (hown : Own w B v l) (hs : a.eval s = v) (p : Option Addr) (n c : Nat) (ns : List UInt8) (hx : a.eval x = .slice p n c) (hn : n = ns.length)
    (hr : Rd V8 w p c ns) (hlen : l.length + ns.length ≤ 140737488355328) (hbase : B ≤ w.heap.size)
    (h : ∀ v' w', Own w' B v' (l ++ ns) → w.grownBy w' v.ownBlock → (v'.ownBlock = v.ownBlock ∨ v'.ownBlock = some w.heap.size) → wpList Tryd.prog ops Q rest (a.put o.dst v') w') : wpList Tryd.prog ops Q (o :: rest) a w := by
  by_cases h0 : ns = []
  · subst h0
    subst hn
    refine wpList_plain hgd fun K hK => ?_
    have hrun := run_append_zero (c := c) (q := p) o.type hown
    have hx' : a.eval x = .slice p 0 c := hx
    unfold Oper.wp
    simp [execOp, ho, resolve, invoke, builtin, hs, hx', hrun, Result.andThen]
    have h' := h v w (by rw [List.append_nil]; exact hown) ⟨rfl, rfl, rfl, Nat.le_refl _, fun _ _ _ => rfl⟩ (.inl rfl)
    exact hK _ _ (by simpa using h')
  · obtain ⟨b, o', rfl, hrr⟩ := hr.at_ h0
    obtain ⟨i0, hi, hz0, hz1, hz2⟩ := info_parts infoByte
    subst hn
    refine wpList_append_own_at w hgd s x 27 ho B 5 i0 (.int .u8 0) 1 1 Tryd.underlying27 hi hz0 hz1 hz2 rfl (by decide) v l.length (l.map V8) hs hown ⟨b, o', none⟩ ns.length c (ns.map V8) hx (by simp) ?_ (by simp [one8]) (by unfold maxLen; omega) (by omega) hbase ?_
    · intro j u hj
      rw [Addr.add_mid]
      exact hrr j u hj
    · intro v' w' h1 h2 _ h5
      exact h v' w' (by unfold Own; simpa using h1) h2 h5
set_option maxRecDepth 100000 in
theorem lay_any (B g : Nat) (v : Value) (W : Wr) (w : World) (h : IsW w B g v W) (hk : W.b.length ≤ 4194304) (pp : Option Addr) (cp : Nat) (ys : List SlR) (hr : Rd SlR.v w pp cp ys) (hy : ∀ y ∈ ys, Rd V8 w y.p y.cap y.d)
    (hpo : ys ≠ [] → Off pp (footB g v)) (hyo : ∀ y ∈ ys, y.d ≠ [] → Off y.p (footB g v)) (hn : ys.length ≤ 1048576) (ht : total ys ≤ 1099511627776) :
    Calls Tryd.prog 69 #[.pointer (some ⟨g, 0, none⟩), .slice pp ys.length cp] w (WrPost B g v (W.lay (joined ys)) (.tuple #[]) w) := by
  have H := Lib.hid h
  have HR := Lib.hid hr
  have HY := Lib.hid hy
  have HPO := Lib.hid hpo
  have HYO := Lib.hid hyo
  obtain ⟨pb, cb, hv, _, _⟩ := h.own.rd
  have HV := Lib.hid hv
  have hc0 := h.c0
  rw [hv] at hc0
  clear h hr hy hpo hyo hv
  go_enter Tryd.func69, Tryd.ntmps69
  go_wp2_with fail
  go_loopw [4, 16] (fun nv iv wr => ∃ k : Nat, k ≤ ys.length ∧ iv = .int .i64 k ∧ nv = .int .i64 ((W.b.length + total (ys.take k) : Nat) : Int) ∧ wr = w) (fun _ iv _ => ys.length - (intOf iv).toNat)
  case atStart => exact ⟨0, by omega, rfl, by simp [total], rfl⟩
  case round =>
    obtain ⟨k, hkl, rfl, rfl, hw⟩ := hrel
    have hw' := hw.symm
    clear hw
    subst hw'
    by_cases hlt : k < ys.length
    · obtain ⟨y, hyk⟩ : ∃ y, ys[k]? = some y := ⟨ys[k], List.getElem?_eq_getElem hlt⟩
      obtain ⟨b1, o1, rfl, hc⟩ := elem_cell HR.out k y hyk
      have hta := total_take_add ys k y hyk
      have htl := total_take_le ys (k + 1)
      have HTA := Lib.hid hta
      obtain ⟨n, hnn⟩ : ∃ n, n = W.b.length + total (ys.take k) := ⟨_, rfl⟩
      have HNN := Lib.hid hnn
      rw [← hnn]
      have hb1 : n + y.d.length ≤ 1099515822080 := by omega
      clear hta htl hnn hyk
      go_wp2_with fail
      go_roundw
      case rel => exact ⟨k + 1, by omega, by go_num, by rw [HTA.out, ← Nat.add_assoc, ← HNN.out]; go_num, trivial⟩
      case measure => simp [intOf]; omega
    · have hd : decide ((k : Int) < (ys.length : Int)) = false := by simp; omega
      have hkk : ys.take k = ys := List.take_of_length_le (by omega)
      rw [hkk]
      obtain ⟨n, hnn⟩ : ∃ n, n = W.b.length + total ys := ⟨_, rfl⟩
      have HNN := Lib.hid hnn
      rw [← hnn]
      have hjl := joined_length ys
      have c1 := H.out.c1
      have f1 := H.out.frz 1
      by_cases he : W.e = 0
      · have he0 : (W.e != 0) = false := by simp [he]
        by_cases hbig : 4194304 < n
        · have hb : decide (4194304 < (n : Int)) = true := by simp; omega
          have HW := Lib.hid (show W.lay (joined ys) = { W with e := 30 } by unfold Wr.lay; rw [if_neg (by simp [he]), hjl, if_pos (by omega)])
          clear hnn hjl hkk he
          go_wp2_with fail
          go_end0
          exact ⟨v, rfl, by rw [HW.out]; exact H.out.setE 30, (Mod.refl _ _).setCell (p := ⟨g, 1, none⟩) (.inl (mem_footB.2 (.inl rfl))) _, fun x hx => .inl hx⟩
        · have hb : decide (4194304 < (n : Int)) = false := by simp; omega
          have HW := Lib.hid (show W.lay (joined ys) = { W with b := W.b ++ joined ys } by unfold Wr.lay; rw [if_neg (by simp [he]), hjl, if_neg (by omega)])
          clear hnn hjl hkk
          have hW0 : IsW w B g v ⟨W.b, 0⟩ := ⟨H.out.base, by have := H.out.blk; rw [he] at this; exact this, H.out.own⟩
          have H0 := Lib.hid hW0
          have HE := Lib.hid he
          clear hW0 he
          go_wp2_with fail
          clear c1 f1
          go_loopw [27] (fun iv wq => ∃ (k : Nat) (v' : Value), k ≤ ys.length ∧ iv = .int .i64 k ∧ IsW wq B g v' ⟨W.b ++ joined (ys.take k), 0⟩ ∧ Mod (footB g v) w wq ∧ (∀ x, v'.ownBlock = some x → v.ownBlock = some x ∨ w.heap.size ≤ x)) (fun iv _ => ys.length - (intOf iv).toNat)
          case atStart => exact ⟨0, v, by omega, rfl, by simpa [joined] using H0.out, Mod.refl _ _, fun x hx => .inl hx⟩
          case round =>
            obtain ⟨j, v', hjl, rfl, hi, hm, hv'⟩ := hrel
            by_cases hlt : j < ys.length
            · obtain ⟨y, hyk⟩ : ∃ y, ys[j]? = some y := ⟨ys[j], List.getElem?_eq_getElem hlt⟩
              have hym := List.mem_of_getElem? hyk
              have hyne : ys ≠ [] := fun h => by rw [h] at hlt; simp at hlt
              have hoff : ∀ (q : Option Addr), Off q (footB g v) → (∀ x, q = some x → x.block < w.heap.size) → Off q (footB g v') := by
                intro q hq hl x hx hf
                rcases mem_footB.1 hf with e | e
                · exact hq x hx (mem_footB.2 (.inl e))
                · rcases hv' _ e with e | e
                  · exact hq x hx (mem_footB.2 (.inr e))
                  · have := hl x hx; omega
              obtain ⟨b1, o1, rfl, hc⟩ := elem_cell (HR.out.mod hm HPO.out) j y hyk
              have hyr := (HY.out y hym).mod hm (HYO.out y hym)
              have hc0' := hi.c0
              have hta := total_take_add ys j y hyk
              have htl := total_take_le ys (j + 1)
              have hjl2 := joined_length (ys.take j)
              have HJ := Lib.hid (joined_take_succ ys j y hyk)
              have HYR := Lib.hid hyr
              have HI := Lib.hid hi
              have HM := Lib.hid hm
              have HV' := Lib.hid hv'
              have hf0 := hi.frz 0
              have hlen : (W.b ++ joined (ys.take j)).length + y.d.length ≤ 140737488355328 := by rw [List.length_append, hjl2]; omega
              clear hta htl hjl2 hyk hyr hi hm hv' hoff
              go_wp2_with (at_builtin; with_reducible refine froz_app _ _ rfl ?_)
              unfold Froz
              refine wpList_pushB rfl _ _ rfl B _ _ HI.out.own rfl y.p y.d.length y.cap y.d rfl rfl HYR.out hlen (Nat.le_trans HI.out.base (Nat.le_of_lt HI.out.lt)) ?_
              intro v2 w2 ho2 hg2 hw2
              obtain ⟨bb, hbb⟩ : ∃ bb, bb = W.b ++ joined (ys.take j) ++ y.d := ⟨_, rfl⟩
              change Own w2 B v2 (W.b ++ joined (ys.take j) ++ y.d) at ho2
              rw [← hbb] at ho2
              have HBB := Lib.hid hbb
              clear hbb
              have hm2 : Mod (footB g v) w w2 := HM.out.of_grown hg2 (fun b hb => by
                rcases HV'.out b hb with e | e
                · exact .inl (mem_footB.2 (.inr e))
                · exact .inr e)
              have hb2 : w2.heap[g]? = some (.cells #[v', .int .i64 0] 119 (0, 0)) := by
                rw [hg2.block g HI.out.lt (fun e => HI.out.ne e.symm)]; exact HI.out.blk
              have hn2 : v2.ownBlock ≠ some g := by
                intro e
                rcases hw2 with e2 | e2
                · exact HI.out.ne (e2 ▸ e)
                · rw [e] at e2; injection e2 with e2
                  have := HI.out.lt
                  omega
              have hv2 : ∀ x, v2.ownBlock = some x → v.ownBlock = some x ∨ w.heap.size ≤ x := by
                intro x hx
                rcases hw2 with e2 | e2
                · exact HV'.out x (e2 ▸ hx)
                · rw [hx] at e2; injection e2 with e2
                  have := HM.out.size
                  exact .inr (by omega)
              have hi2 : IsW w2 B g v' ⟨W.b ++ joined (ys.take j), 0⟩ ∨ True := .inr trivial
              have hset : ∀ b, Own w2 B v2 b → IsW (w2.setCell ⟨g, 0, none⟩ v2) B g v2 ⟨b, 0⟩ := by
                intro b ho
                refine ⟨HI.out.base, by rw [hp_sc hb2]; rfl, ho.mod ((Mod.refl [g] w2).setCell (.inl (by simp)) _) (fun x hx hv => ?_)⟩
                rw [List.mem_singleton] at hx
                subst hx
                exact hn2 hv
              have HSET := Lib.hid (hset _ ho2)
              have HM2 := Lib.hid hm2
              have HV2 := Lib.hid hv2
              obtain ⟨p2, c2, hvv, _, _⟩ := ho2.rd
              have hc2 : w2.cell? ⟨g, 0, none⟩ = some v' := by rw [cell_blk hb2]; rfl
              have hf2 : w2.frozen? ⟨g, 0, none⟩ = false := frozen_blk hb2 0
              clear ho2 hg2 hw2 hm2 hb2 hn2 hv2 hi2 hset hc0' hf0
              subst hvv
              go_wp2_with fail
              go_roundw
              case rel => exact ⟨j + 1, _, by omega, by go_num, by rw [HJ.out, ← List.append_assoc, ← HBB.out]; exact HSET.out, HM2.out.setCell (p := ⟨g, 0, none⟩) (.inl (mem_footB.2 (.inl rfl))) _, HV2.out⟩
              case measure => simp [intOf]; omega
            · have hd2 : decide ((j : Int) < (ys.length : Int)) = false := by simp; omega
              have hjj : ys.take j = ys := List.take_of_length_le (by omega)
              rw [hjj] at hi
              have HI := Lib.hid hi
              have HM := Lib.hid hm
              have HV' := Lib.hid hv'
              clear hi hm hv' hjj
              go_wp2_with fail
              go_end0
              exact ⟨v', rfl, by rw [HW.out, HE.out]; exact HI.out, HM.out, HV'.out⟩
      · have he0 : (W.e != 0) = true := by simpa using he
        have HW := Lib.hid (show W.lay (joined ys) = W by unfold Wr.lay; rw [if_pos he])
        clear hnn hjl hkk he
        go_wp2_with fail
        go_end0
        exact ⟨v, rfl, by rw [HW.out]; exact H.out, Mod.refl _ _, fun x hx => .inl hx⟩
end Go.Proofs.YtmdgefiojapogaaDoor
