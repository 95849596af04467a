/- InboxChecks: any entries from any link, to where they lead and elsewhere; what is handed in stays, is written over and asked again. Conditions: the tables lie in their variables; at most 2^20 of each. -/
import Derived.Test.YtmdgefiojapogaaDoorInLentM
import Derived.Test.YtmdgefiojapogaaDoorSegs
namespace Go.Proofs.YtmdgefiojapogaaDoor
open Go.RowKit
attribute [local go_sem high] one8 st8 cm8 b_and8 b_and8r b_and8l b_or8 b_or8r b_or8l b_xor8 b_xor8r b_xor8l b_andNot8 b_andNot8r b_andNot8l b_add8 b_add8r b_add8l b_sub8 b_sub8r b_sub8l b_mul8 b_mul8r b_mul8l b_eql8 b_eql8r b_eql8l b_neq8 b_neq8r b_neq8l b_lss8 b_lss8r b_lss8l b_leq8 b_leq8r b_leq8l b_gtr8 b_gtr8r b_gtr8l b_geq8 b_geq8r b_geq8l b_quo8r b_rem8r b_shl8r b_shr8r b_shl8l b_shr8l u_xor8 g_eql8 g_neq8 g_eql8' g_neq8' one32 st32 cm32 b_and32 b_and32r b_and32l b_or32 b_or32r b_or32l b_xor32 b_xor32r b_xor32l b_andNot32 b_andNot32r b_andNot32l b_add32 b_add32r b_add32l b_sub32 b_sub32r b_sub32l b_mul32 b_mul32r b_mul32l b_eql32 b_eql32r b_eql32l b_neq32 b_neq32r b_neq32l b_lss32 b_lss32r b_lss32l b_leq32 b_leq32r b_leq32l b_gtr32 b_gtr32r b_gtr32l b_geq32 b_geq32r b_geq32l b_quo32r b_rem32r b_shl32r b_shr32r b_shl32l b_shr32l u_xor32 g_eql32 g_neq32 g_eql32' g_neq32' one64 st64 cm64 b_and64 b_and64r b_and64l b_or64 b_or64r b_or64l b_xor64 b_xor64r b_xor64l b_andNot64 b_andNot64r b_andNot64l b_add64 b_add64r b_add64l b_sub64 b_sub64r b_sub64l b_mul64 b_mul64r b_mul64l b_eql64 b_eql64r b_eql64l b_neq64 b_neq64r b_neq64l b_lss64 b_lss64r b_lss64l b_leq64 b_leq64r b_leq64l b_gtr64 b_gtr64r b_gtr64l b_geq64 b_geq64r b_geq64l b_quo64r b_rem64r b_shl64r b_shr64r b_shl64l b_shr64l u_xor64 g_eql64 g_neq64 g_eql64' g_neq64' c_u8_u8 c_u8_u32 c_u8_u64 c_i_u8 c_u32_u8 c_u32_u32 c_u32_u64 c_i_u32 c_u64_u8 c_u64_u32 c_u64_u64 c_i_u64 c_u8_i c_u32_i
attribute [local go_sem ↓] ce8 ce32 ce64
attribute [local go_sem ↓] sliced_slp loadO26 storeO26 loadOEn storeOEn buildZDg buildZEn
theorem infoSl1 : (Tryd.prog.info? 27).map (fun i => (i.zero, i.size, i.bytes)) = some (some (.slice none 0 0), 1, 24) := by kernel_rfl
theorem wpList_pushSl {ops : Array Oper} {rest : List Oper} {o : Oper} {a : Act} {Q : Exit → Act → World → Prop} {w : World} (hgd : o.guard = none) (so x : Operand)
    (ho : o.op = .call { callee := .builtin .append, args := #[so, x], argTypes := #[26, 26] })
    (B : Nat) (v : Value) (l : List Tr) (hown : OwnSl w B v l) (hs : a.eval so = v) (b : Nat) (d : Tr) (hx : a.eval x = .slice (some ⟨b, 0, none⟩) 1 1)
    (hr : w.heap[b]? = some (.cells #[slv d] 27)) (hlen : l.length ≤ 1048577) (hbase : B ≤ w.heap.size)
    (h : ∀ v' w', OwnSl w' B v' (l ++ [d]) → w.grownBy w' v.ownBlock → wpList Tryd.prog ops Q rest (a.put o.dst v') w') : wpList Tryd.prog ops Q (o :: rest) a w :=
  wpList_pushN (.slice none 0 0) 24 Tryd.underlying26 infoSl1 rfl (by decide) (fun _ => rfl) (fun x u hu => by rw [List.mem_singleton.1 hu]; rfl) hgd so x ho B v l hown hs b 0 1 1 [d] hx rfl (range_blk hr 0 _ (fun j v hv => by simpa using hv)) (by unfold maxLen; simp; omega) (by simp; omega) hbase h
theorem cur_add (ts : List Tr) (t : Tr) : cur 0 (ts ++ [t]) = cur 0 ts ++ [lent1 t t.1.1.body.d] := by rw [cur_zero, cur_zero, List.map_append]; rfl
/-- One more is lent. -/
theorem Sit.add {wr w1 w3 w4 : World} {B b g : Nat} {v v' : Value} {ts : List Tr} {x : Ev} {m : Nat} (h : Sit wr B b v 0 ts (List.replicate (m + 1) zeroEv)) (hg0 : g = wr.heap.size) (hB : B ≤ wr.heap.size)
    (hg : w1.heap[g]? = some (.cells ((x.1.body.d ++ tail8 8).map V8).toArray 5 (0, 0))) (m1 : Mod [] wr w1) (ho : OwnSl w3 B v' (ts ++ [(x, g)])) (m3 : Mod v.ownBlock.toList w1 w3) (m4 : Mod [b] w3 w4)
    (hb : w4.heap[b]? = some (.cells (blkE ((cur 0 ts ++ zeroEv :: List.replicate m zeroEv).set ts.length (lent1 (x, g) x.1.body.d))) 35 (0, 0))) (hty : ∀ q, v.ownBlock = some q → ∃ C, w1.heap[q]? = some (.cells C 27 (0, 0))) :
    Sit w4 B b v' 0 (ts ++ [(x, g)]) (List.replicate m zeroEv) := by
  have hbt : ∀ (q : Nat) (C : Array Value), w1.heap[q]? = some (.cells C 5 (0, 0)) → w3.heap[q]? = some (.cells C 5 (0, 0)) := fun q C hq => m3.get hq (fun hx => by
    rw [Option.mem_toList] at hx
    obtain ⟨C', hC⟩ := hty q hx
    rw [hq] at hC
    injection hC with hC
    injection hC with _ h2 _
    exact absurd h2 (by decide))
  have hfull := m1.get0 h.full
  have hbt2 : ∀ (q : Nat) (C : Array Value), w1.heap[q]? = some (.cells C 5 (0, 0)) → w4.heap[q]? = some (.cells C 5 (0, 0)) := fun q C hq => m4.get (hbt q C hq) (fun hx => by
    rw [List.mem_singleton] at hx
    rw [hx, hfull] at hq
    injection hq with hq
    injection hq with _ h2 _
    exact absurd h2 (by decide))
  refine ⟨?_, ho.mod m4 (fun q hq hx => ?_), fun j t ht => ?_, h.base, fun t ht => ?_, fun j k t u ht hu hjk => ?_⟩
  · have e : (cur 0 ts ++ zeroEv :: List.replicate m zeroEv).set ts.length (lent1 (x, g) x.1.body.d) = cur 0 (ts ++ [(x, g)]) ++ List.replicate m zeroEv := by
      rw [cur_add, List.set_append_right _ _ (by rw [cur_len]; exact Nat.le_refl _), cur_len, Nat.sub_self, List.set_cons_zero, List.append_assoc]; rfl
    rw [← e]; exact hb
  · rw [List.mem_singleton.1 hq] at hx
    obtain ⟨C, hC⟩ := ho.type b hx
    have h3 : w3.heap[b]? = some (.cells (blkE (cur 0 ts ++ List.replicate (m + 1) zeroEv)) 35 (0, 0)) := m3.get hfull (fun hx => by
      rw [Option.mem_toList] at hx
      obtain ⟨C', hC⟩ := hty b hx
      rw [hfull] at hC
      injection hC with hC
      injection hC with _ h2 _
      exact absurd h2 (by decide))
    rw [h3] at hC
    injection hC with hC
    injection hC with _ h2 _
    exact absurd h2 (by decide)
  · by_cases hj : j < ts.length
    · rw [List.getElem?_append_left hj] at ht
      exact hbt2 _ _ (m1.get0 (h.lent j t ht))
    · have hjl := (List.getElem?_eq_some_iff.1 ht).1
      rw [List.length_append, List.length_singleton] at hjl
      have hj2 : j = ts.length := by omega
      rw [hj2, List.getElem?_append_right (Nat.le_refl _), Nat.sub_self] at ht
      injection ht with ht
      subst ht
      exact hbt2 _ _ (by simpa [fullAt, bodyAt] using hg)
  · rcases List.mem_append.1 ht with ht | ht
    · exact h.bases t ht
    · rw [List.mem_singleton.1 ht, hg0]; exact hB
  · have hlt : ∀ (j : Nat) (t : Tr), ts[j]? = some t → t.2 < g := fun j t ht => by rw [hg0]; exact lt_of_block (h.lent j t ht)
    have hsp : ∀ (j : Nat) (t : Tr), (ts ++ [(x, g)])[j]? = some t → (ts[j]? = some t ∧ j < ts.length) ∨ (j = ts.length ∧ t.2 = g) := fun j t ht => by
      by_cases hj : j < ts.length
      · rw [List.getElem?_append_left hj] at ht; exact .inl ⟨ht, hj⟩
      · have hjl := (List.getElem?_eq_some_iff.1 ht).1
        rw [List.length_append, List.length_singleton] at hjl
        have hj2 : j = ts.length := by omega
        rw [hj2, List.getElem?_append_right (Nat.le_refl _), Nat.sub_self] at ht
        injection ht with ht
        exact .inr ⟨hj2, by rw [← ht]⟩
    rcases hsp j t ht with ⟨h1, _⟩ | ⟨h1, h2⟩ <;> rcases hsp k u hu with ⟨h3, _⟩ | ⟨h3, h4⟩
    · exact h.inj j k t u h1 h3 hjk
    · have := hlt j t h1; omega
    · have := hlt k u h3; omega
    · omega
/-- A marker behind the entries. -/
def mkEn (z : Int) : En := ⟨z, zeros 20, 0, 0, zeros 20, [0, 0, 0, 0], 0, ⟨none, 0, []⟩⟩
def mkEv (z : Int) : Ev := ⟨mkEn z, ⟨zeros_length 20, zeros_length 20, rfl⟩⟩
theorem builtK (z : Int) : Tryd.prog.built 35 [(0, .int .i64 z)] = some ((mkEn z).cells.toArray) := by kernel_rfl
def mks (n k : Nat) : List Ev := (List.range k).map fun j => mkEv (500 + ((n + j : Nat) : Int))
theorem mks_step (n k : Nat) (hk : k < 3) : (mks n k ++ List.replicate (3 - k) zeroEv).set k (mkEv (500 + ((n + k : Nat) : Int))) = mks n (k + 1) ++ List.replicate (3 - (k + 1)) zeroEv := by
  have hl : (mks n k).length = k := by simp [mks]
  obtain ⟨z, hz⟩ : ∃ z, 3 - k = z + 1 := ⟨2 - k, by omega⟩
  rw [List.set_append_right _ _ (by omega), hl, Nat.sub_self, hz, List.replicate_succ, List.set_cons_zero, show 3 - (k + 1) = z by omega]
  simp [mks, List.range_succ]
theorem Sit.put {w : World} {B b : Nat} {v : Value} {i : Nat} {ts : List Tr} {rest : List Ev} (h : Sit w B b v i ts rest) (rest' : List Ev) : Sit (w.setRow b (blkE (cur i ts ++ rest'))) B b v i ts rest' := by
  have m : Mod [b] w (w.setRow b (blkE (cur i ts ++ rest'))) := (Mod.refl [b] w).setRow (g := b) (.inl (by simp)) _
  refine ⟨hp_setRow h.full, h.row.mod m (fun x hx hx2 => ?_), fun j t ht => m.get (h.lent j t ht) (fun hx => ?_), h.base, h.bases, h.inj⟩
  · rw [List.mem_singleton.1 hx] at hx2
    obtain ⟨C, hC⟩ := h.row.type _ hx2
    rw [h.full] at hC
    injection hC with hC
    injection hC with _ h2 _
    exact absurd h2 (by decide)
  · rw [List.mem_singleton] at hx
    have := h.lent j t ht
    rw [hx, h.full] at this
    injection this with this
    injection this with _ h2 _
    exact absurd h2 (by decide)
theorem Sit.modD {a w : World} {B b : Nat} {v : Value} {i : Nat} {ts : List Tr} {rest : List Ev} (h : Sit a B b v i ts rest) {q : Nat} {C : Array Value} (hq : a.heap[q]? = some (.cells C 24 (0, 0))) (m : Mod [q] a w) : Sit w B b v i ts rest := by
  have ne : ∀ (g : Nat) (C' : Array Value) (t : TypeId), a.heap[g]? = some (.cells C' t (0, 0)) → t ≠ 24 → g ∉ [q] := fun g C' t hg ht hx => by
    rw [List.mem_singleton] at hx
    rw [hx, hq] at hg
    injection hg with hg
    injection hg with _ h2 _
    exact ht h2.symm
  exact ⟨m.get h.full (ne _ _ _ h.full (by decide)), h.row.mod m (fun x hx hx2 => by
    obtain ⟨C', hC⟩ := h.row.type _ hx2
    exact ne _ _ _ hC (by decide) hx), fun j t ht => m.get (h.lent j t ht) (ne _ _ _ (h.lent j t ht) (by decide)), h.base, h.bases, h.inj⟩
theorem chkF_map (hf : Bs → Bs) (dst : Bs) {α : Type} (f g : α → En) (hs : ∀ t, (f t).fine = (g t).fine ∧ (f t).time = (g t).time ∧ ∀ k, nextH hf k (f t) = nextH hf k (g t)) : ∀ (ts : List α) (p : Option Int) (k : Bs), chkF hf dst p k (ts.map f) = chkF hf dst p k (ts.map g)
  | [], _, _ => rfl
  | t :: ts, p, k => by
    obtain ⟨h1, h2, h3⟩ := hs t
    have he : earlyP p (f t) = earlyP p (g t) := by unfold earlyP; cases p <;> simp [h2]
    rw [List.map_cons, List.map_cons, chkF, chkF, h1, he, h2, h3, chkF_map hf dst f g hs ts]
theorem chk_lent (hf : Bs → Bs) (dst k : Bs) (ts : List Tr) (es : List Ev) (h : ts.map Prod.fst = es) : chkF hf dst none k ((cur 0 ts).map Subtype.val) = chkF hf dst none k (es.map Subtype.val) := by
  rw [← h, cur_zero, List.map_map, List.map_map]
  exact chkF_map hf dst (fun t : Tr => (lent1 t t.1.1.body.d).1) (fun t : Tr => t.1.1) (fun t => ⟨En.fine_wb t.1.1 _ rfl, rfl, fun k => nextH_wb hf k t.1.1 _ rfl⟩) ts none k
set_option maxRecDepth 100000 in
set_option maxHeartbeats 8000000 in
theorem checks_law {hf : Bs → Bs} (src dst : Bs) (hs : src.length = 32) (hd : dst.length = 32) (p : Option Addr) (c n : Nat) (es : List Ev) (w : World) (hn : n = es.length) (h : Ents w p c es) (hsm : n ≤ 1048576) (hbl : ∀ x ∈ es, x.1.body.d.length ≤ 1048576) (H : Hs hf w) (R : Rf w) :
    Calls Tryd.prog 4 #[dv src, .slice p n c, dv dst] w fun e w' => e = .returned (.bool true) ∧ Mod [] w w' := by
  have HE := Lib.hid h
  have HH := Lib.hid H
  have HRF := Lib.hid R
  have HN := Lib.hid hn
  have HS := Lib.hid hs
  have HD := Lib.hid hd
  have HBL := Lib.hid hbl
  have HB3 := Lib.hid (hp_old (o := .cells (dst.map V8).toArray 24) (hp_new w (.cells (src.map V8).toArray 24) _ rfl))
  have HB5 := Lib.hid (hp_new (w.alloc (.cells (src.map V8).toArray 24)) (.cells (dst.map V8).toArray 24) (w.heap.size + 1) (by simp))
  have M0 := Lib.hid (((Mod.refl [] w).alloc (.cells (src.map V8).toArray 24)).alloc (.cells (dst.map V8).toArray 24))
  have ed : dv dst = .agg (dst.map V8).toArray := rfl
  have es0 : dv src = .agg (src.map V8).toArray := rfl
  rw [ed, es0]
  obtain ⟨ss, hss⟩ : ∃ ss, ss = (src.map V8).toArray := ⟨_, rfl⟩
  obtain ⟨ds, hds⟩ : ∃ ds, ds = (dst.map V8).toArray := ⟨_, rfl⟩
  rw [← hss] at HB3 HB5 M0 ⊢
  rw [← hds] at HB3 HB5 M0 ⊢
  have HSS := Lib.hid hss
  have HDS := Lib.hid hds
  clear h H R hn hs hd hbl hss hds ed es0
  go_enter Tryd.func4, Tryd.ntmps4
  go_wp2_with fail
  refine (known_any _ (HH.out.mod0 M0.out) (HRF.out.mod0 M0.out)).mono ?_
  rintro e w1 ⟨rfl, m1⟩
  have HB3' := Lib.hid (m1.get0 HB3.out)
  have HB5' := Lib.hid (m1.get0 HB5.out)
  have M1 := Lib.hid (M0.out.trans0 m1)
  obtain ⟨b3, hb3⟩ : ∃ b3, b3 = w.heap.size := ⟨_, rfl⟩
  obtain ⟨b5, hb5⟩ : ∃ b5, b5 = w.heap.size + 1 := ⟨_, rfl⟩
  rw [← hb5] at HB5' ⊢
  rw [← hb3] at HB3' ⊢
  have HBQ := Lib.hid (show w.heap.size ≤ b3 ∧ w.heap.size ≤ b5 from by omega)
  clear m1 HB3 HB5 M0 hb3 hb5
  go_wp2_with (at_make; refine wpList_makeE rfl _ _ rfl (n + 3) _ rfl rfl (by omega) (by omega) ?_)
  obtain ⟨b, hb⟩ : ∃ b, b = w1.heap.size := ⟨_, rfl⟩
  obtain ⟨W, hW⟩ : ∃ W, W = w1.alloc (.cells (blkE (List.replicate (n + 3) zeroEv)) 35) := ⟨_, rfl⟩
  have MW := Lib.hid (show Mod [] w W by rw [hW]; exact M1.out.alloc _)
  have HBB := Lib.hid (show W.heap[b]? = some (.cells (blkE (List.replicate (n + 3) zeroEv)) 35 (0, 0)) by rw [hW]; exact hp_new _ _ _ hb)
  have HBL3 := Lib.hid (show W.heap[b3]? = some (.cells ss 24 (0, 0)) by rw [hW]; exact hp_old HB3'.out)
  have HBL5 := Lib.hid (show W.heap[b5]? = some (.cells ds 24 (0, 0)) by rw [hW]; exact hp_old HB5'.out)
  have HBS := Lib.hid (show w.heap.size ≤ b from by rw [hb]; exact M1.out.size)
  have hnb : ∀ (q : Nat) (zs : Array Value), W.heap[q]? = some (.cells zs 24 (0, 0)) → q ≠ b := fun q zs hq he => by
    rw [he, HBB.out] at hq
    injection hq with hq
    injection hq with _ h2 _
    exact absurd h2 (by decide)
  have HNB := Lib.hid (And.intro (hnb b3 ss HBL3.out) (hnb b5 ds HBL5.out))
  clear hnb
  rw [← hW, ← hb]
  clear hW hb HB3' HB5' M1
  go_wp2_with fail
  go_loopw [9, 8] (fun iv vv wr => ∃ (i : Nat) (ts : List Tr), i ≤ n ∧ iv = .int .i64 i ∧ Hid (ts.map Prod.fst = es.take i ∧ ts.length = i) ∧ Hid (Sit wr w.heap.size b vv 0 ts (List.replicate (n + 3 - i) zeroEv)) ∧ Hid (wr.heap[b3]? = some (.cells ss 24 (0, 0)) ∧ wr.heap[b5]? = some (.cells ds 24 (0, 0))) ∧ Mod [] w wr) (fun iv _ _ => n - (intOf iv).toNat)
  case atStart => exact ⟨0, [], by omega, rfl, Lib.hid ⟨rfl, rfl⟩, Lib.hid ⟨by simpa [cur] using HBB.out, OwnN.nil _ _ _ _ _, fun j t ht => by simp at ht, HBS.out, fun t ht => by simp at ht, fun j k t u ht => by simp at ht⟩, Lib.hid ⟨HBL3.out, HBL5.out⟩, MW.out⟩
  case round =>
    clear HBB HBL3 HBL5 MW
    obtain ⟨i, ts, hi, rfl, HTS, HSIT, HBB2, hm⟩ := hrel
    have HM := Lib.hid hm
    clear hm
    by_cases hlt : i < n
    · obtain ⟨x, hx⟩ : ∃ x, es[i]? = some x := ⟨es[i]'(by rw [← HN.out]; exact hlt), List.getElem?_eq_getElem _⟩
      obtain ⟨bl, ol, hp, hrg⟩ := HE.out.rd.elem evc_len i x hx
      have hxb := HBL.out x (List.mem_of_getElem? hx)
      have HAT := Lib.hid (fun (V : World) (m : Mod [] w V) => enAt x.2 (range_mod m hrg (by simp)))
      have HLE := Lib.hid (fun (V : World) (m : Mod [] w V) => lend_any x.1.body.p x.1.body.cap x.1.body.d.length x.1.body.d V rfl ((HE.out.body x (List.mem_of_getElem? hx)).mod0 m) (by omega))
      have HX := Lib.hid hx
      have k48 := (HAT.out wr HM.out).c48
      obtain ⟨d, hd⟩ : ∃ d, d = x.1.body.d.length := ⟨_, rfl⟩
      unfold SlR.v at k48
      rw [← hd] at k48 HLE hxb
      have HDD := Lib.hid hd
      have q0 : (0 : Int) ≤ (i : Int) := by omega
      have q1 : (i : Int) < (n : Int) := by omega
      subst hp
      clear hx hrg hd
      go_wp2_with fail
      refine (HLE.out _ HM.out).mono ?_
      rintro e w2 ⟨rfl, hg2, m2⟩
      obtain ⟨g, hg⟩ : ∃ g, g = wr.heap.size := ⟨_, rfl⟩
      rw [← hg] at hg2 ⊢
      have HG := Lib.hid hg
      have HG2 := Lib.hid hg2
      have M2 := Lib.hid m2
      have HMB := Lib.hid (show w.heap.size ≤ (w2.alloc (.cells #[.slice (some ⟨g, 0, none⟩) (d + 8) (d + 8)] 27)).heap.size from Nat.le_trans (HM.out.trans0 m2).size (by rw [alloc_hs]; omega))
      clear hg hg2 m2 k48
      go_wp2_with (at_builtin; with_reducible refine froz_app _ _ rfl ?_)
      unfold Froz
      have MA := Lib.hid ((Mod.refl [] w2).alloc (.cells #[.slice (some ⟨g, 0, none⟩) (d + 8) (d + 8)] 27))
      refine wpList_pushSl rfl _ _ rfl w.heap.size u8 ts (HSIT.out.row.mod0 (M2.out.trans0 MA.out)) rfl w2.heap.size (x, g) rfl (by have h := hp_new w2 (.cells #[.slice (some ⟨g, 0, none⟩) (d + 8) (d + 8)] 27) _ rfl; rw [h]; unfold slv; rw [← HDD.out]) (by rw [HTS.out.2]; omega) HMB.out ?_
      intro v' w3 ho hgr
      have M3 := Lib.hid ((MA.out.mono (S' := u8.ownBlock.toList) (fun _ h => by cases h)).of_grown hgr (fun z hz => .inl (by rw [hz]; simp)))
      have HO := Lib.hid ho
      have HMW := Lib.hid ((HM.out.trans0 M2.out |>.trans0 MA.out).of_grown hgr (fun z hz => .inr (HSIT.out.row.row z hz)))
      clear ho hgr
      obtain ⟨m, hmm⟩ : ∃ m, n + 3 - i = m + 1 := ⟨n + 2 - i, by omega⟩
      have HSIT2 := Lib.hid (show Sit wr w.heap.size b u8 0 ts (List.replicate (m + 1) zeroEv) from by rw [← hmm]; exact HSIT.out)
      have HTY := Lib.hid (show ∀ q, u8.ownBlock = some q → ∃ C, w2.heap[q]? = some (.cells C 27 (0, 0)) from fun q hq => by
        obtain ⟨C, hC⟩ := HSIT.out.row.type q hq
        exact ⟨C, M2.out.get0 hC⟩)
      have hfull : w3.heap[b]? = some (.cells (blkE (cur 0 ts ++ zeroEv :: List.replicate m zeroEv)) 35 (0, 0)) := M3.out.get (M2.out.get0 HSIT2.out.full) (fun hx => by
        rw [Option.mem_toList] at hx
        obtain ⟨C, hC⟩ := HTY.out b hx
        rw [M2.out.get0 HSIT2.out.full] at hC
        injection hC with hC
        injection hC with _ h2 _
        exact absurd h2 (by decide))
      have hlen : i < (cur 0 ts ++ zeroEv :: List.replicate m zeroEv).length := by rw [List.length_append, cur_len, HTS.out.2, List.length_cons]; omega
      have hST := storeE_at hfull x hlen
      have hL3 := (HAT.out w3 HMW.out).ln
      obtain ⟨xs, hxs⟩ : ∃ xs, xs = x.1.cells.toArray := ⟨_, rfl⟩
      rw [← hxs] at hST hL3
      have q2 : (i : Int) < (n : Int) + 3 := by omega
      have HROW := Lib.hid (hp_setRow (cs := blkE ((cur 0 ts ++ zeroEv :: List.replicate m zeroEv).set i x)) hfull)
      obtain ⟨E, hE⟩ : ∃ E, E = blkE ((cur 0 ts ++ zeroEv :: List.replicate m zeroEv).set i x) := ⟨_, rfl⟩
      rw [← hE] at hST HROW
      have HEQ := Lib.hid hE
      have HLEN := Lib.hid hlen
      have HMM := Lib.hid hmm
      clear hmm hfull hlen hxs hE
      go_upto_region 11 with fail
      clear hST hL3
      have HM4 := Lib.hid (HMW.out.setRow (.inr HBS.out) E)
      have HM34 := Lib.hid ((Mod.refl [b] w3).setRow (g := b) (.inl (by simp)) E)
      obtain ⟨U, hU⟩ : ∃ U, U = w3.setRow b E := ⟨_, rfl⟩
      rw [← hU] at HROW HM4 HM34 ⊢
      have k48 := (HAT.out U HM4.out).c48
      unfold SlR.v at k48
      rw [← HDD.out] at k48
      have hgE := HROW.out
      have kc := cell_blk hgE (i * 49 + 48)
      have kf := frozen_blk hgE (i * 49 + 48)
      have hgi : ((cur 0 ts ++ zeroEv :: List.replicate m zeroEv).set i x)[i]? = some x := by rw [List.getElem?_set_self HLEN.out]
      have hbs := bodyE_set _ i x ⟨some ⟨g, 0, none⟩, d + 8, x.1.body.d⟩ hgi
      rw [← HEQ.out, List.set_set] at hbs
      have hsv : SlR.v ⟨some ⟨g, 0, none⟩, d + 8, x.1.body.d⟩ = .slice (some ⟨g, 0, none⟩) d (d + 8) := by unfold SlR.v; rw [HDD.out]
      rw [hsv] at hbs
      have hnew := hp_sc (j := i * 49 + 48) (v := .slice (some ⟨g, 0, none⟩) d (d + 8)) hgE
      rw [hbs] at hnew
      have hkc : ∃ z, E[i * 49 + 48]? = some z := ⟨_, Array.getElem?_eq_getElem (by
        have h9 := blkE_size ((cur 0 ts ++ zeroEv :: List.replicate m zeroEv).set i x)
        rw [List.length_set] at h9
        rw [HEQ.out, h9]
        have := HLEN.out
        have : (i + 1) * 49 ≤ (cur 0 ts ++ zeroEv :: List.replicate m zeroEv).length * 49 := Nat.mul_le_mul_right 49 this
        omega)⟩
      obtain ⟨z, hz⟩ := hkc
      rw [hz] at kc
      have HNEW := Lib.hid hnew
      have HMF := Lib.hid (HM4.out.setCell (p := ⟨b, i * 49 + 48, none⟩) (.inr HBS.out) (.slice (some ⟨g, 0, none⟩) d (d + 8)))
      have HM4F := Lib.hid (HM34.out.setCell (p := ⟨b, i * 49 + 48, none⟩) (.inl (by simp)) (.slice (some ⟨g, 0, none⟩) d (d + 8)))
      have r0 : (0 : Int) ≤ (d : Int) := by omega
      have r1 : (d : Int) ≤ (d : Int) + 8 := by omega
      clear hU hgE hgi hbs hsv hnew hz
      go_wp2_with fail
      go_roundw
      case rel =>
        have e : lent1 (x, g) x.1.body.d = ⟨x.1.wb ⟨some ⟨g, 0, none⟩, d + 8, x.1.body.d⟩, x.2.wb _⟩ := by rw [HDD.out]; rfl
        have hsit := HSIT2.out.add HG.out HM.out.size HG2.out M2.out HO.out M3.out HM4F.out (by rw [HTS.out.2, e]; exact HNEW.out) HTY.out
        have hdg : ∀ (q : Nat) (zs : Array Value), q ≠ b → wr.heap[q]? = some (.cells zs 24 (0, 0)) → (U.setCell ⟨b, i * 49 + 48, none⟩ (.slice (some ⟨g, 0, none⟩) d (d + 8))).heap[q]? = some (.cells zs 24 (0, 0)) := fun q zs hqb hq =>
          HM4F.out.get (M3.out.get (M2.out.get0 hq) (fun hx => by
            rw [Option.mem_toList] at hx
            obtain ⟨C, hC⟩ := HTY.out q hx
            rw [M2.out.get0 hq] at hC
            injection hC with hC
            injection hC with _ h2 _
            exact absurd h2 (by decide))) (by rw [List.mem_singleton]; exact hqb)
        refine ⟨i + 1, ts ++ [(x, g)], hlt, rfl, Lib.hid ⟨?_, ?_⟩, Lib.hid ?_, Lib.hid ⟨hdg b3 ss HNB.out.1 HBB2.out.1, hdg b5 ds HNB.out.2 HBB2.out.2⟩, HMF.out⟩
        · rw [List.map_append, HTS.out.1, List.take_add_one, HX.out]; rfl
        · rw [List.length_append, HTS.out.2]; rfl
        · rw [show n + 3 - (i + 1) = m by have := HMM.out; omega]; exact hsit
      case measure => simp [intOf]; omega
    · obtain rfl : i = n := by omega
      have hd9 : decide ((i : Int) < (i : Int)) = false := by simp
      have HTE := Lib.hid (show ts.map Prod.fst = es from by have h := HTS.out.1; rw [HN.out, List.take_length] at h; exact h)
      have HTL := Lib.hid HTS.out.2
      have HS0 := Lib.hid (show Sit wr w.heap.size b u8 0 ts (mks i 0 ++ List.replicate (3 - 0) zeroEv) from by
        have h := HSIT.out
        rw [show i + 3 - i = 3 by omega] at h
        exact h)
      obtain ⟨wa, hwa⟩ : ∃ wa, wa = wr := ⟨_, rfl⟩
      rw [← hwa] at HS0 HBB2 HM ⊢
      clear hwa HSIT HTS hi hlt
      obtain ⟨pv, cv, hpv, _⟩ := HS0.out.row.rd
      go_wp2_with fail
      go_loopw [11] (fun iv wr => ∃ k : Nat, k ≤ 3 ∧ iv = .int .i64 ((i : Int) + k) ∧ Hid (Sit wr w.heap.size b u8 0 ts (mks i k ++ List.replicate (3 - k) zeroEv)) ∧ Hid (wr.heap[b3]? = some (.cells ss 24 (0, 0)) ∧ wr.heap[b5]? = some (.cells ds 24 (0, 0))) ∧ Mod [] w wr) (fun iv _ => i + 3 - (intOf iv).toNat)
      case atStart => exact ⟨0, by omega, by simp, HS0, HBB2, HM.out⟩
      case round =>
        clear HS0 HBB2 HM
        obtain ⟨k, hk, rfl, HSK, HBK, hm⟩ := hrel
        have HM := Lib.hid hm
        clear hm
        by_cases hlt : k < 3
        · obtain ⟨j, hj⟩ : ∃ j, j = i + k := ⟨_, rfl⟩
          have hjz : (i : Int) + (k : Int) = (j : Int) := by omega
          have hjl : j < i + 3 := by omega
          rw [hjz]
          have hlen : j < (cur 0 ts ++ (mks i k ++ List.replicate (3 - k) zeroEv)).length := by
            rw [List.length_append, cur_len, HTL.out, List.length_append]
            simp [mks]; omega
          have hST := storeE_at HSK.out.full (mkEv (500 + (j : Int))) hlen
          have hset : (cur 0 ts ++ (mks i k ++ List.replicate (3 - k) zeroEv)).set j (mkEv (500 + (j : Int))) = cur 0 ts ++ (mks i (k + 1) ++ List.replicate (3 - (k + 1)) zeroEv) := by
            rw [List.set_append_right _ _ (by rw [cur_len, HTL.out]; omega), cur_len, HTL.out, show j - i = k by omega, hj, mks_step i k hlt]
          rw [hset] at hST
          have HNX := Lib.hid (HSK.out.put (mks i (k + 1) ++ List.replicate (3 - (k + 1)) zeroEv))
          have HD3 := Lib.hid (show ∀ (q : Nat) (zs : Array Value), q ≠ b → wr.heap[q]? = some (.cells zs 24 (0, 0)) → (wr.setRow b (blkE (cur 0 ts ++ (mks i (k + 1) ++ List.replicate (3 - (k + 1)) zeroEv)))).heap[q]? = some (.cells zs 24 (0, 0)) from fun q zs hqb hq => hp_setRow_ne hq (by omega))
          obtain ⟨E, hE⟩ : ∃ E, E = blkE (cur 0 ts ++ (mks i (k + 1) ++ List.replicate (3 - (k + 1)) zeroEv)) := ⟨_, rfl⟩
          rw [← hE] at hST HNX HD3
          have bk : ∀ w, (BuildZ 35 #[(0, .int .i64 (500 + (j : Int)))]).run Tryd.prog w = .ok (.agg (mkEn (500 + (j : Int))).cells.toArray) w := fun w => run_buildZ w 35 _ _ (builtK _)
          have hcs : (mkEv (500 + (j : Int))).1.cells.toArray = (mkEn (500 + (j : Int))).cells.toArray := rfl
          rw [hcs] at hST
          obtain ⟨zs, hzs⟩ : ∃ zs, zs = (mkEn (500 + (j : Int))).cells.toArray := ⟨_, rfl⟩
          rw [← hzs] at hST bk
          have HJ := Lib.hid hj
          have HJZ := Lib.hid hjz
          clear hcs hzs hset hlen hj hjz hE
          go_wp2_with fail
          go_roundw
          case rel =>
            have hjz := HJZ.out
            exact ⟨k + 1, by omega, by go_num, HNX, Lib.hid ⟨HD3.out b3 ss HNB.out.1 HBK.out.1, HD3.out b5 ds HNB.out.2 HBK.out.2⟩, HM.out.setRow (.inr HBS.out) _⟩
          case measure => have hjz := HJZ.out; simp [intOf]; omega
        · have hkk : k = 3 := by omega
          subst hkk
          have hd1 : decide ((i : Int) + (3 : Int) < (i : Int) + 3) = false := by simp
          have HS3 := Lib.hid (show Sit wr w.heap.size b u8 0 ts (mks i 3) from by have h := HSK.out; simpa using h)
          have l3 := loadDv (w := wr) src HS.out (by rw [← HSS.out]; exact HBK.out.1)
          have HLK := Lib.hid (links_any (hf := hf) src HS.out p c i es wr HN.out (HE.out.mod0 HM.out) (HH.out.mod0 HM.out) (HRF.out.mod0 HM.out))
          unfold dv at l3 HLK
          rw [← HSS.out] at l3 HLK
          have q0 : (0 : Int) ≤ (i : Int) := by omega
          have q1 : (i : Int) ≤ (i : Int) + 3 := by omega
          go_wp2_with fail
          refine HLK.out.mono ?_
          rintro e w5 ⟨vd, ks, rfl, hod, hks, m5⟩
          obtain ⟨pd, cd, rfl, hrd, _⟩ := hod.rd
          have HM5 := Lib.hid (HM.out.trans0 m5)
          have HS5 := Lib.hid (HS3.out.mod0 m5)
          have HD3 := Lib.hid (m5.get0 HBK.out.1)
          have HD5 := Lib.hid (m5.get0 HBK.out.2)
          have HOD := Lib.hid hod
          have HKS := Lib.hid hks
          obtain ⟨T, hT⟩ : ∃ T, T = linkI hf src es := ⟨_, rfl⟩
          have hkT : ks[i]? = some T := by
            have h := hks.at_ i (by rw [HN.out]; exact Nat.le_refl _)
            rw [HN.out, List.take_length, ← hT, ← HN.out] at h
            exact h
          have hkl : ks.length = i + 1 := by rw [HN.out]; exact hks.len
          have HT32 := Lib.hid (hks.k32 T (List.mem_of_getElem? hkT))
          obtain ⟨bd, od, hpd, _⟩ := hrd.elem dgc_len i T hkT
          subst hpd
          have HLT := Lib.hid (fun (V : World) (m : Mod [] w5 V) => loadD_at (w := V) (hrd.mod0 m) (i := i) T hkT HT32.out)
          have HL3 := Lib.hid (fun (V : World) (m : Mod [] w5 V) => loadDv (w := V) src HS.out (by rw [← HSS.out]; exact m.get0 HD3.out))
          have HL5 := Lib.hid (fun (V : World) (m : Mod [] w5 V) => loadDv (w := V) dst HD.out (by rw [← HDS.out]; exact m.get0 HD5.out))
          obtain ⟨V1, hV1⟩ : ∃ V1, V1 = chkF hf T none src (es.map Subtype.val) := ⟨_, rfl⟩
          obtain ⟨V2, hV2⟩ : ∃ V2, V2 = chkF hf dst none src (es.map Subtype.val) := ⟨_, rfl⟩
          have htl : i = (cur 0 ts).length := by rw [cur_len, HTL.out]
          have HC1 := Lib.hid (fun (V : World) (m : Mod [] w5 V) => (show Calls Tryd.prog 12 #[dv src, dv T, .slice (some ⟨b, 0, none⟩) i (i + 3)] V fun e w' => e = .returned (.int .i64 V1) ∧ Mod [] V w' from by
            have h := check_in (hf := hf) src T HS.out HT32.out (some ⟨b, 0, none⟩) (i + 3) i (cur 0 ts) V htl ((HS5.out.mod0 m).ents (i + 3) (by rw [HTL.out]; omega) (by rw [HTL.out]; omega)) (HH.out.mod0 (HM5.out.trans0 m))
            rw [chk_lent hf T src ts es HTE.out, ← hV1] at h
            exact h))
          have HC2 := Lib.hid (fun (V : World) (m : Mod [] w5 V) => (show Calls Tryd.prog 12 #[dv src, dv dst, .slice (some ⟨b, 0, none⟩) i (i + 3)] V fun e w' => e = .returned (.int .i64 V2) ∧ Mod [] V w' from by
            have h := check_in (hf := hf) src dst HS.out HD.out (some ⟨b, 0, none⟩) (i + 3) i (cur 0 ts) V htl ((HS5.out.mod0 m).ents (i + 3) (by rw [HTL.out]; omega) (by rw [HTL.out]; omega)) (HH.out.mod0 (HM5.out.trans0 m))
            rw [chk_lent hf dst src ts es HTE.out, ← hV2] at h
            exact h))
          have HR1 := Lib.hid (fun (V : World) (m : Mod [] w5 V) => (show Calls Tryd.prog 13 #[dv src, dv T, .slice p i c] V fun e w' => e = .returned (.int .i64 V1) ∧ Mod [] V w' from by
            have h := rcheck_in (hf := hf) src T HS.out HT32.out p c i es V HN.out (HE.out.mod0 (HM5.out.trans0 m)) (HH.out.mod0 (HM5.out.trans0 m)) (HRF.out.mod0 (HM5.out.trans0 m))
            rw [← hV1] at h
            exact h))
          have HR2 := Lib.hid (fun (V : World) (m : Mod [] w5 V) => (show Calls Tryd.prog 13 #[dv src, dv dst, .slice p i c] V fun e w' => e = .returned (.int .i64 V2) ∧ Mod [] V w' from by
            have h := rcheck_in (hf := hf) src dst HS.out HD.out p c i es V HN.out (HE.out.mod0 (HM5.out.trans0 m)) (HH.out.mod0 (HM5.out.trans0 m)) (HRF.out.mod0 (HM5.out.trans0 m))
            rw [← hV2] at h
            exact h))
          unfold dv at HLT HL3 HL5 HC1 HC2 HR1 HR2
          rw [← HSS.out] at HL3 HC1 HC2 HR1 HR2
          rw [← HDS.out] at HL5 HC2 HR2
          obtain ⟨Ts, hTs⟩ : ∃ Ts, Ts = (T.map V8).toArray := ⟨_, rfl⟩
          rw [← hTs] at HLT HC1 HR1
          have q2 : (i : Int) < (i : Int) + 1 := by omega
          have e3 := HL3.out w5.drew (Mod.refl [] w5).drew
          have eT := HLT.out w5.drew (Mod.refl [] w5).drew
          rw [hkl]
          clear l3 HLK hod hks hrd m5 hT hkT hkl hV1 hV2 htl hTs HSK HBK
          go_wp2_with fail
          go_still_tail 7, (by kernel_rfl)
          change wpList _ _ _ _ _ w5.drew
          go_wp2_with fail
          refine (HC1.out _ (Mod.refl [] w5).drew).mono ?_
          rintro e w6 ⟨rfl, m6⟩
          have M6 := Lib.hid ((Mod.refl [] w5).drew.trans0 m6)
          have f3 := HL3.out w6 M6.out
          have f5 := HL5.out w6 M6.out
          clear e3 eT m6
          go_wp2_with fail
          refine (HC2.out _ M6.out).mono ?_
          rintro e w7 ⟨rfl, m7⟩
          have M7 := Lib.hid (M6.out.trans0 m7)
          clear f3 f5 m7
          go_wp2_with fail
          go_cut [114] from 97 to 114 (fun v wx => v = .bool false ∧ Mod [] w7 wx)
          case first =>
            have d3 := HL3.out w7.drew M7.out.drew
            have dT := HLT.out w7.drew M7.out.drew
            have n1 : (V1 != V1) = false := by simp
            have n2 : (V2 != V2) = false := by simp
            go_region_law (first
              | (go_simp; go_at_call 13; with_reducible refine (HR1.out _ M7.out.drew).mono ?_
                 rintro _ w8 ⟨rfl, m8⟩
                 have M8 := Lib.hid (M7.out.drew.trans0 m8)
                 have g3 := HL3.out w8 M8.out
                 have g5 := HL5.out w8 M8.out)
              | (go_simp; go_at_call 13; with_reducible refine (HR2.out _ M8.out).mono ?_
                 rintro _ w9 ⟨rfl, m9⟩))
            all_goals
              have MQ := Lib.hid ((Mod.refl [] w7).drew.trans0 (m8.trans0 m9))
              clear m8 m9 d3 dT g3 g5
              go_wp2_with fail
              go_meet
              case rel => exact ⟨rfl, MQ.out⟩
          case rest =>
            obtain ⟨rfl, mc⟩ := hcut
            have MC := Lib.hid (M7.out.trans0 mc)
            have HMC := Lib.hid (HM5.out.trans0 MC.out)
            have HSC := Lib.hid (HS5.out.mod0 MC.out)
            have HDC := Lib.hid (And.intro (MC.out.get0 HD3.out) (MC.out.get0 HD5.out))
            have HOC := Lib.hid (HOD.out.mod0 MC.out)
            obtain ⟨wz, hwz⟩ : ∃ wz, wz = wr := ⟨_, rfl⟩
            have HSZ := Lib.hid (show w.heap.size ≤ wz.heap.size from by rw [hwz]; exact HM.out.size)
            obtain ⟨KV, hKV⟩ : ∃ KV, KV = Value.slice (some ⟨bd, od, none⟩) (i + 1) cd := ⟨_, rfl⟩
            rw [show ks.length = i + 1 by rw [HN.out]; exact HKS.out.len, ← hwz] at HOC
            clear mc hwz M7 HC1 HC2 HR1 HR2 HLT HL3 HL5 hKV
            go_wp2_with fail
            go_loopw [16] (fun iv wr => ∃ j : Nat, j ≤ i ∧ iv = .int .i64 j ∧ Hid (Sit wr w.heap.size b u8 j ts (mks i 3)) ∧ Hid (OwnD wr wz.heap.size (.slice (some ⟨bd, od, none⟩) (i + 1) cd) ks) ∧ Hid (wr.heap[b3]? = some (.cells ss 24 (0, 0)) ∧ wr.heap[b5]? = some (.cells ds 24 (0, 0))) ∧ Mod [] w wr) (fun iv _ => i - (intOf iv).toNat)
            case atStart => exact ⟨0, by omega, rfl, HSC, HOC, HDC, HMC.out⟩
            case round =>
              clear HSC HOC HDC HMC
              obtain ⟨j, hj, rfl, HSJ, HOJ, HDJ, hm⟩ := hrel
              have HMJ := Lib.hid hm
              clear hm
              by_cases hlt : j < i
              · obtain ⟨t, ht⟩ : ∃ t, ts[j]? = some t := ⟨ts[j]'(by rw [HTL.out]; exact hlt), List.getElem?_eq_getElem _⟩
                have hx : es[j]? = some t.1 := by rw [← HTE.out, List.getElem?_map, ht]; rfl
                obtain ⟨L, hL⟩ : ∃ L, L = linkI hf src (es.take j) := ⟨_, rfl⟩
                have hkL := HKS.out.at_ j (by rw [← HN.out]; omega)
                rw [← hL] at hkL
                have hL32 := HKS.out.k32 L (List.mem_of_getElem? hkL)
                obtain ⟨pq, cq, hvq, hrq, hoq, _⟩ := HOJ.out.rd
                injection hvq with hv1 hv2 hv3
                subst hv1 hv3
                have HLD := Lib.hid (fun (V : World) (m : Mod [] wr V) => loadD_at (w := V) (hrq.mod0 m) (i := j) L hkL hL32)
                have HLX := Lib.hid (fun (V : World) (m : Mod [] wr V) => (show (LoadO 35 (.pointer (some ⟨b, j * 49, none⟩))).run Tryd.prog V = .ok (.agg (lent1 t t.1.1.body.d).1.cells.toArray) V from by
                  obtain ⟨b', o', hp', hrg'⟩ := ((HSJ.out.mod0 m).ents (i + 3) (by rw [HTL.out]; omega) (by rw [HTL.out]; omega)).rd.elem evc_len j (lent1 t t.1.1.body.d) (by rw [cur_get, ht]; simp [bodyAt])
                  injection hp' with hp'
                  injection hp' with h1 h2 _
                  subst h1 h2
                  have h := (enAt (lent1 t t.1.1.body.d).2 hrg').ln
                  rw [Nat.zero_add] at h
                  exact h))
                obtain ⟨bl, ol, hp, hrg⟩ := HE.out.rd.elem evc_len j t.1 hx
                have HAT := Lib.hid (fun (V : World) (m : Mod [] w V) => enAt t.1.2 (range_mod m hrg (by simp)))
                have hbx := HE.out.body t.1 (List.mem_of_getElem? hx)
                have hlx : Rd V8 wr (some ⟨t.2, 0, none⟩) (t.1.1.body.d.length + 8) t.1.1.body.d := by
                  have h := (HSJ.out.ents (i + 3) (by rw [HTL.out]; omega) (by rw [HTL.out]; omega)).body (lent1 t t.1.1.body.d) (List.mem_of_getElem? (i := j) (by rw [cur_get, ht]; simp [bodyAt]))
                  exact h
                obtain ⟨X, hX⟩ : ∃ X, X = nextH hf L t.1.1 := ⟨_, rfl⟩
                obtain ⟨E, hE⟩ : ∃ E, E = nextE t.1.1 := ⟨_, rfl⟩
                have hx32 : X.length = 32 := by rw [hX]; exact nextH_len HH.out.len L t.1.1
                have HNX := Lib.hid (fun (V : World) (m : Mod [] wr V) => (show Calls Tryd.prog 14 #[dv L, .agg (lent1 t t.1.1.body.d).1.cells.toArray] V fun e w' => e = .returned (.tuple #[dv X, .int .i64 E]) ∧ Mod [] V w' from by
                  have h := next_any (hf := hf) L hL32 (lent1 t t.1.1.body.d).1 V (lent1 t t.1.1.body.d).2 (hlx.mod0 m) (HH.out.mod0 (HMJ.out.trans0 m))
                  rw [show nextH hf L (lent1 t t.1.1.body.d).1 = X by rw [hX]; exact nextH_wb hf L t.1.1 _ rfl, show nextE (lent1 t t.1.1.body.d).1 = E by rw [hE]; unfold nextE; rw [show (lent1 t t.1.1.body.d).1.fine = t.1.1.fine from En.fine_wb _ _ rfl]] at h
                  exact h))
                have HRX := Lib.hid (fun (V : World) (m : Mod [] wr V) => (show Calls Tryd.prog 15 #[dv L, .agg t.1.1.cells.toArray] V fun e w' => e = .returned (.tuple #[dv X, .int .i64 E]) ∧ Mod [] V w' from by
                  rw [hX, hE]
                  exact rnext_any (hf := hf) L hL32 t.1.1 V t.1.2 (hbx.mod0 (HMJ.out.trans0 m)) (HH.out.mod0 (HMJ.out.trans0 m)) (HRF.out.mod0 (HMJ.out.trans0 m))))
                have HX32 := Lib.hid hx32
                have HTJ := Lib.hid ht
                have HLQ := Lib.hid hL
                have HL32 := Lib.hid hL32
                obtain ⟨xs, hxs⟩ : ∃ xs, xs = (lent1 t t.1.1.body.d).1.cells.toArray := ⟨_, rfl⟩
                obtain ⟨ys, hys⟩ : ∃ ys, ys = t.1.1.cells.toArray := ⟨_, rfl⟩
                rw [← hxs] at HLX HNX
                rw [← hys] at HRX
                have HAL := Lib.hid (fun (V : World) (m : Mod [] w V) => (HAT.out V m).ln)
                rw [← hys] at HAL
                have HXS := Lib.hid hxs
                have HYS := Lib.hid hys
                have q4 : (0 : Int) ≤ (j : Int) := by omega
                have q5 : (j : Int) < (i : Int) := by omega
                have q6 : (j : Int) < (i : Int) + 1 := by omega
                have q7 : (j : Int) < (i : Int) + 3 := by omega
                have l1 := HLD.out wr.drew (Mod.refl [] wr).drew
                have l1' := fun (Zo : Obj) => HLD.out (wr.alloc Zo).drew ((Mod.refl [] wr).alloc Zo).drew
                have l2 := HLX.out wr.drew (Mod.refl [] wr).drew
                have l2' := fun (Zo : Obj) => HLX.out (wr.alloc Zo).drew ((Mod.refl [] wr).alloc Zo).drew
                subst hp
                clear hX hE hxs hys hx hkL hL hL32 hrq hrg hbx hx32 hoq hlx ht hv2
                go_wp2_with fail
                go_cut [17, 18] from 121 to 132 (fun s7 s8 wx => ∃ b7, s7 = .pointer (some ⟨b7, 0, none⟩) ∧ s8 = .int .i64 E ∧ wx.heap[b7]? = some (.cells (X.map V8).toArray 24 (0, 0)) ∧ wr.heap.size ≤ b7 ∧ Mod [] wr wx)
                case first =>
                  go_region_law (first
                    | (go_simp; go_at_call 14; with_reducible refine (HNX.out _ (Mod.refl [] wr).drew).mono ?_
                       rintro _ w4 ⟨rfl, m4⟩
                       have hS := storeNewD w4 X HX32.out)
                    | (go_simp; go_at_call 14; with_reducible refine (HNX.out _ ((Mod.refl [] wr).alloc (.cells #[Value.int .u8 0, Value.int .u8 0, Value.int .u8 0, Value.int .u8 0, Value.int .u8 0, Value.int .u8 0, Value.int .u8 0, Value.int .u8 0, Value.int .u8 0, Value.int .u8 0, Value.int .u8 0, Value.int .u8 0, Value.int .u8 0, Value.int .u8 0, Value.int .u8 0, Value.int .u8 0, Value.int .u8 0, Value.int .u8 0, Value.int .u8 0, Value.int .u8 0, Value.int .u8 0, Value.int .u8 0, Value.int .u8 0, Value.int .u8 0, Value.int .u8 0, Value.int .u8 0, Value.int .u8 0, Value.int .u8 0, Value.int .u8 0, Value.int .u8 0, Value.int .u8 0, Value.int .u8 0] 24)).drew).mono ?_
                       rintro _ w4 ⟨rfl, m4⟩
                       have hS := storeDv X HX32.out (m4.get0 (hp_new wr (.cells #[Value.int .u8 0, Value.int .u8 0, Value.int .u8 0, Value.int .u8 0, Value.int .u8 0, Value.int .u8 0, Value.int .u8 0, Value.int .u8 0, Value.int .u8 0, Value.int .u8 0, Value.int .u8 0, Value.int .u8 0, Value.int .u8 0, Value.int .u8 0, Value.int .u8 0, Value.int .u8 0, Value.int .u8 0, Value.int .u8 0, Value.int .u8 0, Value.int .u8 0, Value.int .u8 0, Value.int .u8 0, Value.int .u8 0, Value.int .u8 0, Value.int .u8 0, Value.int .u8 0, Value.int .u8 0, Value.int .u8 0, Value.int .u8 0, Value.int .u8 0, Value.int .u8 0, Value.int .u8 0] 24) _ rfl)) rfl))
                  all_goals
                    go_wp2_with fail
                    go_meet
                    case rel => first
                      | exact ⟨_, rfl, rfl, hp_new w4 _ _ rfl, ((Mod.refl [] wr).drew.trans0 m4).size, ((Mod.refl [] wr).drew.trans0 m4).alloc _⟩
                      | exact ⟨_, rfl, rfl, hp_setRow (m4.get0 (hp_new wr (.cells #[Value.int .u8 0, Value.int .u8 0, Value.int .u8 0, Value.int .u8 0, Value.int .u8 0, Value.int .u8 0, Value.int .u8 0, Value.int .u8 0, Value.int .u8 0, Value.int .u8 0, Value.int .u8 0, Value.int .u8 0, Value.int .u8 0, Value.int .u8 0, Value.int .u8 0, Value.int .u8 0, Value.int .u8 0, Value.int .u8 0, Value.int .u8 0, Value.int .u8 0, Value.int .u8 0, Value.int .u8 0, Value.int .u8 0, Value.int .u8 0, Value.int .u8 0, Value.int .u8 0, Value.int .u8 0, Value.int .u8 0, Value.int .u8 0, Value.int .u8 0, Value.int .u8 0, Value.int .u8 0] 24) _ rfl)), Nat.le_refl _, (((Mod.refl [] wr).alloc (.cells #[Value.int .u8 0, Value.int .u8 0, Value.int .u8 0, Value.int .u8 0, Value.int .u8 0, Value.int .u8 0, Value.int .u8 0, Value.int .u8 0, Value.int .u8 0, Value.int .u8 0, Value.int .u8 0, Value.int .u8 0, Value.int .u8 0, Value.int .u8 0, Value.int .u8 0, Value.int .u8 0, Value.int .u8 0, Value.int .u8 0, Value.int .u8 0, Value.int .u8 0, Value.int .u8 0, Value.int .u8 0, Value.int .u8 0, Value.int .u8 0, Value.int .u8 0, Value.int .u8 0, Value.int .u8 0, Value.int .u8 0, Value.int .u8 0, Value.int .u8 0, Value.int .u8 0, Value.int .u8 0] 24)).drew.trans0 m4).setRow (.inr (Nat.le_refl _)) _⟩
                case rest =>
                  obtain ⟨b17, rfl, rfl, hb17, hz17, m17⟩ := hcut
                  clear l1 l1' l2 l2'
                  have M17 := Lib.hid m17
                  have HB17 := Lib.hid hb17
                  have HZ17 := Lib.hid hz17
                  have HC17 := Lib.hid (HMJ.out.trans0 m17)
                  obtain ⟨wu, hwu⟩ : ∃ wu, wu = wc := ⟨_, rfl⟩
                  rw [← hwu] at M17 HB17 HC17 ⊢
                  clear hb17 hz17 m17 hwu
                  have l1 := HLD.out wu.drew M17.out.drew
                  have l1' := fun (Zo : Obj) => HLD.out (wu.alloc Zo).drew (M17.out.alloc Zo).drew
                  have l2 := HAL.out wu.drew HC17.out.drew
                  have l2' := fun (Zo : Obj) => HAL.out (wu.alloc Zo).drew (HC17.out.alloc Zo).drew
                  go_wp2_with fail
                  go_cut [19, 20] from 133 to 144 (fun s7 s8 wx => ∃ b7, s7 = .pointer (some ⟨b7, 0, none⟩) ∧ s8 = .int .i64 E ∧ wx.heap[b7]? = some (.cells (X.map V8).toArray 24 (0, 0)) ∧ wu.heap.size ≤ b7 ∧ Mod [] wu wx)
                  case first =>
                    go_region_law (first
                      | (go_simp; go_at_call 15; with_reducible refine (HRX.out _ M17.out.drew).mono ?_
                         rintro _ w4 ⟨rfl, m4⟩
                         have hS := storeNewD w4 X HX32.out)
                      | (go_simp; go_at_call 15; with_reducible refine (HRX.out _ (M17.out.alloc (.cells #[Value.int .u8 0, Value.int .u8 0, Value.int .u8 0, Value.int .u8 0, Value.int .u8 0, Value.int .u8 0, Value.int .u8 0, Value.int .u8 0, Value.int .u8 0, Value.int .u8 0, Value.int .u8 0, Value.int .u8 0, Value.int .u8 0, Value.int .u8 0, Value.int .u8 0, Value.int .u8 0, Value.int .u8 0, Value.int .u8 0, Value.int .u8 0, Value.int .u8 0, Value.int .u8 0, Value.int .u8 0, Value.int .u8 0, Value.int .u8 0, Value.int .u8 0, Value.int .u8 0, Value.int .u8 0, Value.int .u8 0, Value.int .u8 0, Value.int .u8 0, Value.int .u8 0, Value.int .u8 0] 24)).drew).mono ?_
                         rintro _ w4 ⟨rfl, m4⟩
                         have hS := storeDv X HX32.out (m4.get0 (hp_new wu (.cells #[Value.int .u8 0, Value.int .u8 0, Value.int .u8 0, Value.int .u8 0, Value.int .u8 0, Value.int .u8 0, Value.int .u8 0, Value.int .u8 0, Value.int .u8 0, Value.int .u8 0, Value.int .u8 0, Value.int .u8 0, Value.int .u8 0, Value.int .u8 0, Value.int .u8 0, Value.int .u8 0, Value.int .u8 0, Value.int .u8 0, Value.int .u8 0, Value.int .u8 0, Value.int .u8 0, Value.int .u8 0, Value.int .u8 0, Value.int .u8 0, Value.int .u8 0, Value.int .u8 0, Value.int .u8 0, Value.int .u8 0, Value.int .u8 0, Value.int .u8 0, Value.int .u8 0, Value.int .u8 0] 24) _ rfl)) rfl))
                    all_goals
                      go_wp2_with fail
                      go_meet
                      case rel => first
                        | exact ⟨_, rfl, rfl, hp_new w4 _ _ rfl, ((Mod.refl [] wu).drew.trans0 m4).size, ((Mod.refl [] wu).drew.trans0 m4).alloc _⟩
                        | exact ⟨_, rfl, rfl, hp_setRow (m4.get0 (hp_new wu (.cells #[Value.int .u8 0, Value.int .u8 0, Value.int .u8 0, Value.int .u8 0, Value.int .u8 0, Value.int .u8 0, Value.int .u8 0, Value.int .u8 0, Value.int .u8 0, Value.int .u8 0, Value.int .u8 0, Value.int .u8 0, Value.int .u8 0, Value.int .u8 0, Value.int .u8 0, Value.int .u8 0, Value.int .u8 0, Value.int .u8 0, Value.int .u8 0, Value.int .u8 0, Value.int .u8 0, Value.int .u8 0, Value.int .u8 0, Value.int .u8 0, Value.int .u8 0, Value.int .u8 0, Value.int .u8 0, Value.int .u8 0, Value.int .u8 0, Value.int .u8 0, Value.int .u8 0, Value.int .u8 0] 24) _ rfl)), Nat.le_refl _, (((Mod.refl [] wu).alloc (.cells #[Value.int .u8 0, Value.int .u8 0, Value.int .u8 0, Value.int .u8 0, Value.int .u8 0, Value.int .u8 0, Value.int .u8 0, Value.int .u8 0, Value.int .u8 0, Value.int .u8 0, Value.int .u8 0, Value.int .u8 0, Value.int .u8 0, Value.int .u8 0, Value.int .u8 0, Value.int .u8 0, Value.int .u8 0, Value.int .u8 0, Value.int .u8 0, Value.int .u8 0, Value.int .u8 0, Value.int .u8 0, Value.int .u8 0, Value.int .u8 0, Value.int .u8 0, Value.int .u8 0, Value.int .u8 0, Value.int .u8 0, Value.int .u8 0, Value.int .u8 0, Value.int .u8 0, Value.int .u8 0] 24)).drew.trans0 m4).setRow (.inr (Nat.le_refl _)) _⟩
                  case rest =>
                    obtain ⟨b19, rfl, rfl, hb19, hz19, m19⟩ := hcut
                    clear l1 l1' l2 l2' HNX HRX
                    have HB19 := Lib.hid hb19
                    have HZ19 := Lib.hid hz19
                    have HB17' := Lib.hid (m19.get0 HB17.out)
                    have MU := Lib.hid (M17.out.trans0 m19)
                    have HMU := Lib.hid (HMJ.out.trans0 MU.out)
                    have HSU := Lib.hid (HSJ.out.mod0 MU.out)
                    have HOU := Lib.hid (HOJ.out.mod0 MU.out)
                    have HDU := Lib.hid (And.intro (MU.out.get0 HDJ.out.1) (MU.out.get0 HDJ.out.2))
                    have HNEQ := Lib.hid (show b17 ≠ b19 ∧ w.heap.size ≤ b17 ∧ w.heap.size ≤ b19 from ⟨by have := lt_of_block HB17.out; omega, Nat.le_trans HMJ.out.size HZ17.out, Nat.le_trans HC17.out.size hz19⟩)
                    obtain ⟨U, hU⟩ : ∃ U, U = wc := ⟨_, rfl⟩
                    rw [← hU] at HB19 HB17' MU HMU HSU HOU HDU ⊢
                    clear hb19 hz19 m19 hU HB17
                    obtain ⟨g, hg⟩ : ∃ g, g = t.2 := ⟨_, rfl⟩
                    obtain ⟨d, hd⟩ : ∃ d, d = t.1.1.body.d.length := ⟨_, rfl⟩
                    have hsl : slv t = .slice (some ⟨g, 0, none⟩) (d + 8) (d + 8) := by unfold slv; rw [hg, hd]
                    obtain ⟨pv2, cv2, hpv2, hrv, _⟩ := HSU.out.row.rd
                    have hel := hrv.elem (fun _ => rfl) j t HTJ.out
                    obtain ⟨bb, ob, hpb, hcb⟩ := hel
                    have hcb2 := hcb 0 (slv t) rfl
                    rw [hsl, Nat.mul_one, Nat.add_zero] at hcb2
                    have HCB := Lib.hid (fun (V : World) (m : Mod [] U V) => cell_mod0 m hcb2)
                    have HG := Lib.hid hg
                    have HDL := Lib.hid hd
                    have k1 := loadDv (w := U.drew) X HX32.out (hp_drew HB17'.out)
                    have k2 := loadDv (w := U.drew) X HX32.out (hp_drew HB19.out)
                    have k3 := HLX.out U.drew MU.out.drew
                    have k4 := HAL.out U.drew HMU.out.drew
                    have HC48 := Lib.hid (fun (V : World) (m : Mod [] U V) => (show V.cell? ⟨bl, ol + j * 49 + 48, none⟩ = some (.slice t.1.1.body.p d t.1.1.body.cap) from by
                      have h := (HAT.out V (HMU.out.trans0 m)).c48
                      unfold SlR.v at h
                      rw [← HDL.out] at h
                      exact h))
                    have hbx := HE.out.body t.1 (List.mem_of_getElem? (i := j) (by rw [← HTE.out, List.getElem?_map, HTJ.out]; rfl))
                    have hbl := HBL.out t.1 (List.mem_of_getElem? (i := j) (by rw [← HTE.out, List.getElem?_map, HTJ.out]; rfl))
                    have HSM := Lib.hid (fun (V : World) (m : Mod [] U V) => (show Calls Tryd.prog 16 #[.agg xs, .agg ys] V fun e w' => e = .returned (.bool true) ∧ Mod [] V w' from by
                      have h := same_any (lent1 t t.1.1.body.d).1 t.1.1 V (lent1 t t.1.1.body.d).2 t.1.2 (((HSU.out.mod0 m).ents (i + 3) (by rw [HTL.out]; omega) (by rw [HTL.out]; omega)).body (lent1 t t.1.1.body.d) (List.mem_of_getElem? (i := j) (by rw [cur_get, HTJ.out]; simp [bodyAt]))) (hbx.mod0 (HMU.out.trans0 m))
                      rw [show sameE (lent1 t t.1.1.body.d).1 t.1.1 = true from sameE_wb _ _ rfl, ← HXS.out, ← HYS.out] at h
                      exact h))
                    have HUN := Lib.hid (fun (V : World) (m : Mod [] U V) => unchanged_any g t.1.1.body.p t.1.1.body.cap d (d + 8) t.1.1.body.d V hd rfl (by
                      have h := (HSU.out.mod0 m).lent j t HTJ.out
                      rw [← hg] at h
                      simpa [fullAt, bodyAt] using h) (hbx.mod0 (HMU.out.trans0 m)) (fun hne => hbx.off (by rw [hg]; exact HSU.out.bases t (List.mem_of_getElem? HTJ.out)) hne) (by omega))
                    have hNQ : ∀ w, (binOp .neq 24 (dv X) (dv X)).run Tryd.prog w = .ok (.bool false) w := fun w => by
                      have h := neqDg w X X HX32.out HX32.out
                      rw [show (X == X) = true by simp] at h
                      exact h
                    have hEG := eqGuardD
                    have nE : (E != E) = false := by simp
                    have rr : w.heap.size ≤ g := by rw [hg]; exact HSU.out.bases t (List.mem_of_getElem? HTJ.out)
                    have HRR := Lib.hid rr
                    subst hpb
                    have HPV := Lib.hid hpv2
                    rw [HTL.out] at hpv2
                    subst hpv2
                    clear hg hd hsl hrv hcb hcb2 hbx hbl rr
                    go_wp2_with fail
                    go_cut [177] from 145 to 177 (fun v wx => v = .bool false ∧ wx.heap[g]? = some (.cells ((xorB (t.1.1.body.d ++ tail8 8)).map V8).toArray 5 (0, 0)) ∧ Mod [g] U wx)
                    case first =>
                      refine wp_region_segs [17, 30] (by kernel_rfl) (by kernel_rfl) ?_
                      refine segs_cons ?_
                      simp only [List.drop_zero, Nat.sub_zero, List.take_succ_cons, List.take_zero]
                      iterate 17 still_step
                      refine wpStill_nil ?_
                      refine op_at rfl rfl ?_
                      go_simp
                      refine (HSM.out _ (Mod.refl [] U).drew).mono ?_
                      rintro _ w8 ⟨rfl, m8⟩
                      have M8 := Lib.hid ((Mod.refl [] U).drew.trans0 m8)
                      have k5 := HCB.out w8 M8.out
                      have k6 := HC48.out w8 M8.out
                      clear m8 k1 k2 k3 k4
                      go_simp
                      refine segs_cons ?_
                      simp only [List.drop_succ_cons, List.drop_zero, Nat.reduceAdd, Nat.reduceSub, List.take_succ_cons, List.take_zero]
                      iterate 12 still_step
                      refine wpStill_nil ?_
                      refine op_at rfl rfl ?_
                      go_simp
                      refine (HUN.out _ M8.out).mono ?_
                      rintro _ w9 ⟨rfl, hg9, m9⟩
                      have HG9 := Lib.hid hg9
                      have M9 := Lib.hid ((M8.out.mono (S' := [g]) (fun _ h => by cases h)).trans m9 (fun _ h => .inl h))
                      clear hg9 m9 k5 k6
                      go_simp
                      refine segs_nil ?_
                      simp only [List.drop_succ_cons, List.drop_zero, Nat.reduceAdd]
                      iterate 2 still_step
                      refine wpStill_nil ?_
                      go_wp2_with fail
                      go_meet
                      case rel => exact ⟨rfl, HG9.out, M9.out⟩
                    case rest =>
                      obtain ⟨rfl, hg2, m2⟩ := hcut
                      obtain ⟨U2, hU2⟩ : ∃ U2, U2 = wc := ⟨_, rfl⟩
                      rw [← hU2] at hg2 m2 ⊢
                      clear hU2 k1 k2 k3 k4 HSM HUN HCB HC48
                      have hgt := HSU.out.lent j t HTJ.out
                      rw [← HG.out] at hgt
                      have hdg : ∀ (q : Nat) (zs : Array Value), U.heap[q]? = some (.cells zs 24 (0, 0)) → U2.heap[q]? = some (.cells zs 24 (0, 0)) := fun q zs hq => m2.get hq (fun hx => by
                        rw [List.mem_singleton] at hx
                        rw [hx, hgt] at hq
                        injection hq with hq
                        injection hq with _ h2 _
                        exact absurd h2 (by decide))
                      have HS2 := Lib.hid (HSU.out.turn t HTJ.out (by rw [← HG.out]; exact hg2) (by rw [← HG.out]; exact m2))
                      have HO2 := Lib.hid (HOU.out.mod m2 (fun x hx hx2 => by
                        obtain ⟨C, hC⟩ := HOU.out.type x hx2
                        rw [List.mem_singleton.1 hx, hgt] at hC
                        injection hC with hC
                        injection hC with _ h2 _
                        exact absurd h2 (by decide)))
                      have HQ17 := Lib.hid (hdg b17 _ HB17'.out)
                      have HQ19 := Lib.hid (hdg b19 _ HB19.out)
                      have HQ3 := Lib.hid (hdg b3 _ HDU.out.1)
                      have HQ5 := Lib.hid (hdg b5 _ HDU.out.2)
                      have HM2 := Lib.hid (HMU.out.trans m2 (fun x hx => by rw [List.mem_singleton.1 hx]; exact .inr HRR.out))
                      have HZ2 := Lib.hid (Nat.le_trans MU.out.size m2.size)
                      have HOL := Lib.hid (show ∀ q, wr.heap.size ≤ q → (Value.slice (some ⟨bd, od, none⟩) (ts.length + 1) cd).ownBlock ≠ some q from fun q hq hx => by
                        have h := HOJ.out
                        have := h.lt q hx
                        omega)
                      clear hg2 m2 hgt hdg HB17' HB19 HDU HMU HSU HOU HG
                      obtain ⟨X2, hX2⟩ : ∃ X2, X2 = nextH hf L (lent1 t (xorB t.1.1.body.d)).1 := ⟨_, rfl⟩
                      obtain ⟨E2, hE2⟩ : ∃ E2, E2 = nextE (lent1 t (xorB t.1.1.body.d)).1 := ⟨_, rfl⟩
                      have HX232 := Lib.hid (show X2.length = 32 from by rw [hX2]; exact nextH_len HH.out.len L _)
                      have hcx : (lent1 t (xorB t.1.1.body.d)).1.cells.toArray = xs := by
                        rw [HXS.out]
                        exact congrArg List.toArray (lent1_cells t _ (xorB_length _))
                      have hcg : (cur (j + 1) ts)[j]? = some (lent1 t (xorB t.1.1.body.d)) := by rw [cur_get, HTJ.out]; simp [bodyAt]
                      have HF := Lib.hid (fun (V : World) (hv : Sit V w.heap.size b (.slice (some ⟨bb, ob, none⟩) ts.length cv) (j + 1) ts (mks ts.length 3)) => (show (LoadO 35 (.pointer (some ⟨b, j * 49, none⟩))).run Tryd.prog V = .ok (.agg xs) V from by
                        obtain ⟨b', o', hp', hrg'⟩ := (hv.ents (ts.length + 3) (by omega) (by omega)).rd.elem evc_len j _ hcg
                        injection hp' with hp'
                        injection hp' with h1 h2 _
                        subst h1 h2
                        have h := (enAt (lent1 t (xorB t.1.1.body.d)).2 hrg').ln
                        rw [Nat.zero_add, hcx] at h
                        exact h))
                      have HNX2 := Lib.hid (fun (V : World) (hv : Sit V w.heap.size b (.slice (some ⟨bb, ob, none⟩) ts.length cv) (j + 1) ts (mks ts.length 3)) (m : Mod [] w V) => (show Calls Tryd.prog 14 #[dv L, .agg xs] V fun e w' => e = .returned (.tuple #[dv X2, .int .i64 E2]) ∧ Mod [] V w' from by
                        have h := next_any (hf := hf) L HL32.out (lent1 t (xorB t.1.1.body.d)).1 V (lent1 t (xorB t.1.1.body.d)).2 ((hv.ents (ts.length + 3) (by omega) (by omega)).body _ (List.mem_of_getElem? hcg)) (HH.out.mod0 m)
                        rw [← hX2, ← hE2, hcx] at h
                        exact h))
                      have HRX2 := Lib.hid (fun (V : World) (hv : Sit V w.heap.size b (.slice (some ⟨bb, ob, none⟩) ts.length cv) (j + 1) ts (mks ts.length 3)) (m : Mod [] w V) => (show Calls Tryd.prog 15 #[dv L, .agg xs] V fun e w' => e = .returned (.tuple #[dv X2, .int .i64 E2]) ∧ Mod [] V w' from by
                        have h := rnext_any (hf := hf) L HL32.out (lent1 t (xorB t.1.1.body.d)).1 V (lent1 t (xorB t.1.1.body.d)).2 ((hv.ents (ts.length + 3) (by omega) (by omega)).body _ (List.mem_of_getElem? hcg)) (HH.out.mod0 m) (HRF.out.mod0 m)
                        rw [← hX2, ← hE2, hcx] at h
                        exact h))
                      have hkL := HKS.out.at_ j (by rw [← HN.out]; omega)
                      rw [← HLQ.out] at hkL
                      have HLD2 := Lib.hid (fun (V : World) (hv : OwnD V wz.heap.size (.slice (some ⟨bd, od, none⟩) (ts.length + 1) cd) ks) => (show (LoadO 24 (.pointer (some ⟨bd, od + j * 32, none⟩))).run Tryd.prog V = .ok (dv L) V from by
                        obtain ⟨pq, cq, hvq, hrq, _⟩ := hv.rd
                        injection hvq with hv1 hv2 hv3
                        subst hv1
                        exact loadD_at (w := V) hrq (i := j) L hkL HL32.out))
                      have l1 := HLD2.out U2.drew (HO2.out.mod0 (Mod.refl [] U2).drew)
                      have l2 := HF.out U2.drew (HS2.out.mod0 (Mod.refl [] U2).drew)
                      clear hX2 hE2 hcx hcg hkL
                      go_wp2_with fail
                      go_cut [18] from 178 to 189 (fun s8 wx => s8 = .int .i64 E2 ∧ wx.heap[b17]? = some (.cells (X2.map V8).toArray 24 (0, 0)) ∧ Mod [b17] U2 wx)
                      case first =>
                        go_region_law (go_simp; go_at_call 14; with_reducible refine (HNX2.out _ (HS2.out.mod0 (Mod.refl [] U2).drew) HM2.out.drew).mono ?_
                                       rintro _ w4 ⟨rfl, m4⟩
                                       have m5 := (Mod.refl [] U2).drew.trans0 m4
                                       have hS := storeDv X2 HX232.out (m5.get0 HQ17.out) (by simp [HX32.out]))
                        all_goals
                          have M5 := Lib.hid m5
                          clear m4 m5 hS l1 l2
                          go_wp2_with fail
                          go_meet
                          case rel => exact ⟨rfl, hp_setRow (M5.out.get0 HQ17.out), (M5.out.mono (S' := [b17]) (fun _ h => by cases h)).setRow (g := b17) (.inl (by simp)) _⟩
                      case rest =>
                        obtain ⟨rfl, hb17, m17⟩ := hcut
                        obtain ⟨U3, hU3⟩ : ∃ U3, U3 = wc := ⟨_, rfl⟩
                        rw [← hU3] at hb17 m17 ⊢
                        clear hU3 l1 l2
                        have HS3 := Lib.hid (HS2.out.modD HQ17.out m17)
                        have HO3 := Lib.hid (HO2.out.mod m17 (fun x hx => by rw [List.mem_singleton.1 hx]; exact HOL.out b17 HZ17.out))
                        have HQ19b := Lib.hid (m17.get HQ19.out (by rw [List.mem_singleton]; exact fun h => HNEQ.out.1 h.symm))
                        have HM3 := Lib.hid (HM2.out.trans m17 (fun x hx => by rw [List.mem_singleton.1 hx]; exact .inr HNEQ.out.2.1))
                        have HQ3b := Lib.hid (m17.get HQ3.out (fun hx => by
                          have h1 := lt_of_block HDJ.out.1
                          have h2 := HZ17.out
                          rw [List.mem_singleton] at hx; omega))
                        have HQ5b := Lib.hid (m17.get HQ5.out (fun hx => by
                          have h1 := lt_of_block HDJ.out.2
                          have h2 := HZ17.out
                          rw [List.mem_singleton] at hx; omega))
                        have HB17b := Lib.hid hb17
                        clear hb17 m17 HS2 HO2 HQ19 HM2 HQ3 HQ5 HQ17
                        have l1 := HLD2.out U3.drew (HO3.out.mod0 (Mod.refl [] U3).drew)
                        have l2 := HF.out U3.drew (HS3.out.mod0 (Mod.refl [] U3).drew)
                        go_wp2_with fail
                        go_cut [20] from 190 to 201 (fun s8 wx => s8 = .int .i64 E2 ∧ wx.heap[b19]? = some (.cells (X2.map V8).toArray 24 (0, 0)) ∧ Mod [b19] U3 wx)
                        case first =>
                          go_region_law (go_simp; go_at_call 15; with_reducible refine (HRX2.out _ (HS3.out.mod0 (Mod.refl [] U3).drew) HM3.out.drew).mono ?_
                                         rintro _ w4 ⟨rfl, m4⟩
                                         have m5 := (Mod.refl [] U3).drew.trans0 m4
                                         have hS := storeDv X2 HX232.out (m5.get0 HQ19b.out) (by simp [HX32.out]))
                          all_goals
                            have M5 := Lib.hid m5
                            clear m4 m5 hS l1 l2
                            go_wp2_with fail
                            go_meet
                            case rel => exact ⟨rfl, hp_setRow (M5.out.get0 HQ19b.out), (M5.out.mono (S' := [b19]) (fun _ h => by cases h)).setRow (g := b19) (.inl (by simp)) _⟩
                        case rest =>
                          obtain ⟨rfl, hb19, m19⟩ := hcut
                          have HS4 := Lib.hid (HS3.out.modD HQ19b.out m19)
                          have HO4 := Lib.hid (HO3.out.mod m19 (fun x hx => by rw [List.mem_singleton.1 hx]; exact HOL.out b19 (Nat.le_trans M17.out.size HZ19.out)))
                          have HM4 := Lib.hid (HM3.out.trans m19 (fun x hx => by rw [List.mem_singleton.1 hx]; exact .inr HNEQ.out.2.2))
                          have hz19 := Nat.le_trans M17.out.size HZ19.out
                          have HQ3c := Lib.hid (m19.get HQ3b.out (fun hx => by
                            have h1 := lt_of_block HDJ.out.1
                            rw [List.mem_singleton] at hx; omega))
                          have HQ5c := Lib.hid (m19.get HQ5b.out (fun hx => by
                            have h1 := lt_of_block HDJ.out.2
                            rw [List.mem_singleton] at hx; omega))
                          have l17 := loadDv X2 HX232.out (m19.get HB17b.out (by rw [List.mem_singleton]; exact HNEQ.out.1))
                          have l19 := loadDv X2 HX232.out hb19
                          have hNQ2 : ∀ w, (binOp .neq 24 (dv X2) (dv X2)).run Tryd.prog w = .ok (.bool false) w := fun w => by
                            have h := neqDg w X2 X2 HX232.out HX232.out
                            rw [show (X2 == X2) = true by simp] at h
                            exact h
                          have nE2 : (E2 != E2) = false := by simp
                          clear hb19 m19 hz19 l1 l2
                          go_wp2_with fail
                          go_roundw
                          case rel => exact ⟨j + 1, hlt, by go_num, HS4, HO4, Lib.hid ⟨HQ3c.out, HQ5c.out⟩, HM4.out⟩
                          case measure => simp [intOf]; omega
              · have hji : j = i := by omega
                have HSE := Lib.hid (show Sit wr w.heap.size b u8 i ts (mks i 3) from by have h := HSJ.out; rw [hji] at h; exact h)
                have d9 : decide ((j : Int) < (i : Int)) = false := by simp; omega
                obtain ⟨we, hwe⟩ : ∃ we, we = wr := ⟨_, rfl⟩
                rw [← hwe] at HSE HDJ HMJ ⊢
                clear hwe HSJ HOJ hji
                go_wp2_with fail
                go_loopw [21] (fun iv wr => ∃ k : Nat, k ≤ 3 ∧ iv = .int .i64 ((i : Int) + k) ∧ wr = we) (fun iv _ => i + 3 - (intOf iv).toNat)
                case atStart => exact ⟨0, by omega, by simp, by first | rfl | trivial⟩
                case round =>
                  obtain ⟨k, hk, rfl, rfl⟩ := hrel
                  by_cases hk3 : k < 3
                  · obtain ⟨q, hq⟩ : ∃ q, q = i + k := ⟨_, rfl⟩
                    have hqz : (i : Int) + (k : Int) = (q : Int) := by omega
                    have hql : q < i + 3 := by omega
                    rw [hqz]
                    have hget : (cur i ts ++ mks i 3)[q]? = some (mkEv (500 + (q : Int))) := by
                      rw [List.getElem?_append_right (by rw [cur_len, HTL.out]; omega), cur_len, HTL.out, show q - i = k by omega]
                      unfold mks
                      rw [List.getElem?_map, List.getElem?_range hk3, hq]; rfl
                    have kc : wr.cell? ⟨b, q * 49, none⟩ = some (.int .i64 (500 + (q : Int))) := by
                      rw [cell_blk HSE.out.full]
                      unfold blkE
                      rw [List.getElem?_toArray]
                      exact flatMap_get evc 49 evc_len _ q _ 0 _ hget rfl
                    have ne0 : ((500 + (q : Int)) != (500 + (q : Int))) = false := by simp
                    have HQ := Lib.hid hq
                    have HQZ := Lib.hid hqz
                    clear hget hq hqz
                    go_wp2_with fail
                    go_roundw
                    case rel => have hqz := HQZ.out; exact ⟨k + 1, by omega, by go_num, by first | rfl | trivial⟩
                    case measure => have hqz := HQZ.out; simp [intOf]; omega
                  · have hkk : k = 3 := by omega
                    subst hkk
                    have hd1 : decide ((i : Int) + (3 : Int) < (i : Int) + 3) = false := by simp
                    have l3 := loadDv (w := wr) src HS.out (by rw [← HSS.out]; exact HDJ.out.1)
                    have l5 := loadDv (w := wr) dst HD.out (by rw [← HDS.out]; exact HDJ.out.2)
                    obtain ⟨V3, hV3⟩ : ∃ V3, V3 = chkF hf dst none src ((cur i ts).map Subtype.val) := ⟨_, rfl⟩
                    have HEE := Lib.hid (fun (V : World) (m : Mod [] wr V) => (HSE.out.mod0 m).ents (i + 3) (by rw [HTL.out]; omega) (by rw [HTL.out]; omega))
                    have htl : i = (cur i ts).length := by rw [cur_len, HTL.out]
                    have HR := Lib.hid (show Calls Tryd.prog 13 #[dv src, dv dst, .slice (some ⟨b, 0, none⟩) i (i + 3)] wr fun e w' => e = .returned (.int .i64 V3) ∧ Mod [] wr w' from by
                      have h := rcheck_in (hf := hf) src dst HS.out HD.out (some ⟨b, 0, none⟩) (i + 3) i (cur i ts) wr htl (HEE.out wr (Mod.refl [] wr)) (HH.out.mod0 HMJ.out) (HRF.out.mod0 HMJ.out)
                      rw [← hV3] at h
                      exact h)
                    have HC := Lib.hid (fun (V : World) (m : Mod [] wr V) => (show Calls Tryd.prog 12 #[dv src, dv dst, .slice (some ⟨b, 0, none⟩) i (i + 3)] V fun e w' => e = .returned (.int .i64 V3) ∧ Mod [] V w' from by
                      have h := check_in (hf := hf) src dst HS.out HD.out (some ⟨b, 0, none⟩) (i + 3) i (cur i ts) V htl (HEE.out V m) (HH.out.mod0 (HMJ.out.trans0 m))
                      rw [← hV3] at h
                      exact h))
                    unfold dv at l3 l5 HR HC
                    rw [← HSS.out] at l3 HR HC
                    rw [← HDS.out] at l5 HR HC
                    clear htl hV3
                    go_wp2_with fail
                    refine HR.out.mono ?_
                    rintro e wa9 ⟨rfl, m9⟩
                    have M9 := Lib.hid m9
                    have f3 := loadDv (w := wa9) src HS.out (by rw [← HSS.out]; exact m9.get0 HDJ.out.1)
                    have f5 := loadDv (w := wa9) dst HD.out (by rw [← HDS.out]; exact m9.get0 HDJ.out.2)
                    unfold dv at f3 f5
                    rw [← HSS.out] at f3
                    rw [← HDS.out] at f5
                    clear m9 l3 l5
                    go_wp2_with fail
                    refine (HC.out _ M9.out).mono ?_
                    rintro e wb9 ⟨rfl, m10⟩
                    have MF := Lib.hid (HMJ.out.trans0 (M9.out.trans0 m10))
                    have ee : (V3 == V3) = true := by simp
                    clear m10 f3 f5
                    go_wp2_with fail
                    go_ret
                    exact ⟨rfl, MF.out⟩
end Go.Proofs.YtmdgefiojapogaaDoor
