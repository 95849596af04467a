/- 'lays' of wire's laws, for the seven plain kinds; size. Condition: at most 2^39 bytes. -/
import Derived.Test.YtnmcbdppbpfegaaWpSame
namespace Go.Proofs.Ytnmcbdppbpfegaa
open Go.RowKit
attribute [local go_sem high] one8 st8 cm8 b_and8 b_and8r b_and8l b_or8 b_or8r b_or8l b_xor8 b_xor8r b_xor8l b_andNot8 b_andNot8r b_andNot8l b_add8 b_add8r b_add8l b_sub8 b_sub8r b_sub8l b_mul8 b_mul8r b_mul8l b_eql8 b_eql8r b_eql8l b_neq8 b_neq8r b_neq8l b_lss8 b_lss8r b_lss8l b_leq8 b_leq8r b_leq8l b_gtr8 b_gtr8r b_gtr8l b_geq8 b_geq8r b_geq8l b_quo8r b_rem8r b_shl8r b_shr8r b_shl8l b_shr8l u_xor8 g_eql8 g_neq8 g_eql8' g_neq8' one32 st32 cm32 b_and32 b_and32r b_and32l b_or32 b_or32r b_or32l b_xor32 b_xor32r b_xor32l b_andNot32 b_andNot32r b_andNot32l b_add32 b_add32r b_add32l b_sub32 b_sub32r b_sub32l b_mul32 b_mul32r b_mul32l b_eql32 b_eql32r b_eql32l b_neq32 b_neq32r b_neq32l b_lss32 b_lss32r b_lss32l b_leq32 b_leq32r b_leq32l b_gtr32 b_gtr32r b_gtr32l b_geq32 b_geq32r b_geq32l b_quo32r b_rem32r b_shl32r b_shr32r b_shl32l b_shr32l u_xor32 g_eql32 g_neq32 g_eql32' g_neq32' one64 st64 cm64 b_and64 b_and64r b_and64l b_or64 b_or64r b_or64l b_xor64 b_xor64r b_xor64l b_andNot64 b_andNot64r b_andNot64l b_add64 b_add64r b_add64l b_sub64 b_sub64r b_sub64l b_mul64 b_mul64r b_mul64l b_eql64 b_eql64r b_eql64l b_neq64 b_neq64r b_neq64l b_lss64 b_lss64r b_lss64l b_leq64 b_leq64r b_leq64l b_gtr64 b_gtr64r b_gtr64l b_geq64 b_geq64r b_geq64l b_quo64r b_rem64r b_shl64r b_shr64r b_shl64l b_shr64l u_xor64 g_eql64 g_neq64 g_eql64' g_neq64' c_u8_u8 c_u8_u32 c_u8_u64 c_i_u8 c_u32_u8 c_u32_u32 c_u32_u64 c_i_u32 c_u64_u8 c_u64_u32 c_u64_u64 c_i_u64 c_u8_i c_u32_i
attribute [local go_sem ↓] ce8 ce32 ce64
theorem loadOWd (p : Value) : Instr.loadAt 46 p = LoadO 46 p := rfl
theorem storeOWd (p v : Value) : Instr.storeAt 46 p v = StoreO 46 p v := rfl
theorem loadOSt (p : Value) : Instr.loadAt 48 p = LoadO 48 p := rfl
theorem storeOSt (p v : Value) : Instr.storeAt 48 p v = StoreO 48 p v := rfl
attribute [local go_sem ↓] sliced_slp loadODg storeODg loadOAd storeOAd loadOWd storeOWd loadOSt storeOSt
/-- A step of a script. -/
structure Sp where
  kind : Int
  n : Int
  bp : Option Addr
  bcap : Nat
  b : List UInt8
  w : {l : List UInt64 // l.length = 4}
  lp : Option Addr
  lcap : Nat
  l : List Int
namespace Sp
def cells (s : Sp) : List Value := [.int .i64 s.kind, .int .i64 s.n, .slice s.bp s.b.length s.bcap] ++ (s.w.1.map V64 ++ [.slice s.lp s.l.length s.lcap])
theorem len (s : Sp) : s.cells.length = 8 := by simp [cells, s.w.2]
theorem one (s : Sp) : ∀ u ∈ s.cells, u.oneCell' = true := by
  intro u hu
  simp only [cells, List.cons_append, List.nil_append, List.mem_cons, List.mem_append, List.mem_map, List.not_mem_nil, or_false] at hu
  rcases hu with rfl | rfl | rfl | ⟨x, _, rfl⟩ | rfl
  · rfl
  · rfl
  · rfl
  · exact one64 x
  · rfl
theorem cW (s : Sp) (j : Nat) (u : Value) (h : (s.w.1.map V64)[j]? = some u) : s.cells[3 + j]? = some u := by
  have hj := (List.getElem?_eq_some_iff.1 h).1
  unfold cells
  rw [List.getElem?_append_right (by simp), show 3 + j - ([Value.int .i64 s.kind, .int .i64 s.n, .slice s.bp s.b.length s.bcap] : List Value).length = j by simp, List.getElem?_append_left hj, h]
theorem c7 (s : Sp) : s.cells[7]? = some (.slice s.lp s.l.length s.lcap) := by
  unfold cells
  rw [List.getElem?_append_right (by simp), List.getElem?_append_right (by simp [s.w.2])]
  simp [s.w.2]
end Sp
def spv (s : Sp) : Value := .agg s.cells.toArray
theorem infoSp : (Try.prog.info? 48).map (·.size) = some 8 := by kernel_rfl
theorem infoWd : (Try.prog.info? 46).map (·.size) = some 4 := by kernel_rfl
/-- A step in a box. -/
structure SpBox (w : World) (b : Nat) (s : Sp) : Prop where
  fk : w.cell? ⟨b, 0, none⟩ = some (.int .i64 s.kind)
  fn : w.cell? ⟨b, 1, none⟩ = some (.int .i64 s.n)
  fb : w.cell? ⟨b, 2, none⟩ = some (.slice s.bp s.b.length s.bcap)
  fl : w.cell? ⟨b, 7, none⟩ = some (.slice s.lp s.l.length s.lcap)
  fw : (LoadO 46 (.pointer (some ⟨b, 3, none⟩))).run Try.prog w = .ok (.agg (s.w.1.map V64).toArray) w
  fa : (LoadO 48 (.pointer (some ⟨b, 0, none⟩))).run Try.prog w = .ok (spv s) w
theorem box_sp {w : World} {b : Nat} {s : Sp} {T : TypeId} {fr : Nat × Nat} (h : w.heap[b]? = some (.cells s.cells.toArray T fr)) : SpBox w b s where
  fk := by rw [cell_blk h, List.getElem?_toArray]; rfl
  fn := by rw [cell_blk h, List.getElem?_toArray]; rfl
  fb := by rw [cell_blk h, List.getElem?_toArray]; rfl
  fl := by rw [cell_blk h, List.getElem?_toArray]; exact s.c7
  fw := loadO_mid (range_blk h 3 (s.w.1.map V64) (fun j v hv => by rw [List.getElem?_toArray]; exact s.cW j v hv)) Try.underlying46 rfl (by rw [List.length_map, s.w.2]; exact infoWd)
  fa := loadO_mid (range_blk h 0 _ (fun j v hv => by simpa using hv)) Try.underlying48 rfl (by rw [s.len]; exact infoSp)
/-- A number's last byte. -/
def byteOf (n : Int) : UInt8 := UInt8.ofNat (n % 256).toNat
theorem cv_byte (n : Int) (w : World) : (convert 3 5 (.int .i64 n)).run Try.prog w = .ok (V8 (byteOf n)) w := by
  have h1 : (convert 3 5 (.int .i64 n)).run Try.prog w = (Conv.intToInt .u8 n).run Try.prog w := by
    unfold convert; simp [run_underlying Try.underlying3, run_underlying Try.underlying5]
  have h2 : Conv.intToInt .u8 n = pure (V8 (byteOf n)) := by
    refine congrArg (fun z => (pure (Value.int .u8 z) : Sem Value)) ?_
    unfold byteOf
    rw [wr8, UInt8.toNat_ofNat']
    omega
  rw [h1, h2]; rfl
/-- Is a number odd, as the program asks? -/
def oddOf (n : Int) : Bool := n.tmod 2 != 0
def Sp.form (s : Sp) : Nat → List UInt8
  | 0 => [byteOf s.n]
  | 1 => [if oddOf s.n then 1 else 0]
  | 2 => Go.Proofs.Ytnmcbdppbpfegaa.form (pk s.n 9223372036854775807)
  | 3 => Go.Proofs.Ytnmcbdppbpfegaa.form s.b.length ++ s.b
  | 4 => short (be32 s.w.1)
  | 5 => firstN 32 s.b
  | _ => firstN 20 s.b
/-- What is asked of a step and where it lies. -/
structure SpOk (w : World) (B : Nat) (s : Sp) : Prop where
  n0 : -9223372036854775808 ≤ s.n
  n1 : s.n ≤ 9223372036854775807
  rd : Rd V8 w s.bp s.bcap s.b
  lt : s.b ≠ [] → ∀ x, s.bp = some x → x.block < B
  len : s.b.length ≤ 549755813888
theorem SpOk.mod0 {w w' : World} {B : Nat} {s : Sp} (h : SpOk w B s) (hm : Mod [] w w') : SpOk w' B s := ⟨h.n0, h.n1, h.rd.mod0 hm, h.lt, h.len⟩
set_option maxRecDepth 100000 in
theorem lays_0 (B g : Nat) (v : Value) (W : Wr) (w : World) (h : IsW w B g v W) (hk : W.b.length ≤ 4194304) (s : Sp) {B0 : Nat} (hs : SpOk w B0 s) (hoff : s.b ≠ [] → Off s.bp (footB g v)) (hkd : s.kind = 0) :
    Calls Try.prog 67 #[.pointer (some ⟨g, 0, none⟩), spv s] w (WrPost B g v (W.lay (s.form 0)) (.tuple #[]) w) := by
  have hm : Mod [] w (w.alloc (.cells s.cells.toArray 48)) := (Mod.refl [] w).alloc _
  have hbx := box_sp (hp_new w (.cells s.cells.toArray 48) _ rfl)
  have kk := hbx.fk
  rw [hkd] at kk
  have kn := hbx.fn
  have kb := hbx.fb
  have kw := hbx.fw
  have HPK := Lib.hid (fun w1 => pick_any 0 9 w1 (by decide) (by decide) (by decide) (by decide))
  rw [show pk 0 9 = 0 from by decide] at HPK
  have H2 := Lib.hid (h.mod0 hm)
  have HS := Lib.hid (hs.mod0 hm)
  have HM := Lib.hid hm
  have HOFF := Lib.hid hoff
  have cvb := cv_byte s.n
  have n0 := hs.n0
  have n1 := hs.n1
  unfold spv
  obtain ⟨cs, hcs⟩ : ∃ cs, cs = s.cells.toArray := ⟨_, rfl⟩
  rw [← hcs] at kk kn kb kw H2 HS HM ⊢
  clear h hs hoff hm hbx hkd hcs
  go_enter Try.func67, Try.ntmps67
  go_wp2_with fail
  refine (HPK.out _).mono ?_
  rintro e w5 ⟨rfl, rfl⟩
  go_wp2_with fail
  refine (byteW_any B g v W _ H2.out hk (byteOf s.n)).mono ?_
  intro e w9 hp
  have hp2 := WrPost.from HM.out hp
  have he := hp.unit
  subst he
  have HP := Lib.hid hp2
  clear hp hp2
  go_wp2_with fail
  go_end0
  exact HP.out
set_option maxRecDepth 100000 in
theorem lays_1 (B g : Nat) (v : Value) (W : Wr) (w : World) (h : IsW w B g v W) (hk : W.b.length ≤ 4194304) (s : Sp) {B0 : Nat} (hs : SpOk w B0 s) (hoff : s.b ≠ [] → Off s.bp (footB g v)) (hkd : s.kind = 1) :
    Calls Try.prog 67 #[.pointer (some ⟨g, 0, none⟩), spv s] w (WrPost B g v (W.lay (s.form 1)) (.tuple #[]) w) := by
  have hm : Mod [] w (w.alloc (.cells s.cells.toArray 48)) := (Mod.refl [] w).alloc _
  have hbx := box_sp (hp_new w (.cells s.cells.toArray 48) _ rfl)
  have kk := hbx.fk
  rw [hkd] at kk
  have kn := hbx.fn
  have kb := hbx.fb
  have kw := hbx.fw
  have HPK := Lib.hid (fun w1 => pick_any 1 9 w1 (by decide) (by decide) (by decide) (by decide))
  rw [show pk 1 9 = 1 from by decide] at HPK
  have H2 := Lib.hid (h.mod0 hm)
  have HS := Lib.hid (hs.mod0 hm)
  have HM := Lib.hid hm
  have HOFF := Lib.hid hoff
  have cvb := cv_byte s.n
  have n0 := hs.n0
  have n1 := hs.n1
  unfold spv
  obtain ⟨cs, hcs⟩ : ∃ cs, cs = s.cells.toArray := ⟨_, rfl⟩
  rw [← hcs] at kk kn kb kw H2 HS HM ⊢
  clear h hs hoff hm hbx hkd hcs
  have hod : ((s.n.tmod 2) != 0) = oddOf s.n := rfl
  go_enter Try.func67, Try.ntmps67
  go_wp2_with fail
  refine (HPK.out _).mono ?_
  rintro e w5 ⟨rfl, rfl⟩
  go_wp2_with fail
  refine (flagW_any B g v W _ H2.out hk (oddOf s.n)).mono ?_
  intro e w9 hp
  have hp2 := WrPost.from HM.out hp
  have he := hp.unit
  subst he
  have HP := Lib.hid hp2
  clear hp hp2
  go_wp2_with fail
  go_end0
  exact HP.out
set_option maxRecDepth 100000 in
theorem lays_2 (B g : Nat) (v : Value) (W : Wr) (w : World) (h : IsW w B g v W) (hk : W.b.length ≤ 4194304) (s : Sp) {B0 : Nat} (hs : SpOk w B0 s) (hoff : s.b ≠ [] → Off s.bp (footB g v)) (hkd : s.kind = 2) :
    Calls Try.prog 67 #[.pointer (some ⟨g, 0, none⟩), spv s] w (WrPost B g v (W.lay (s.form 2)) (.tuple #[]) w) := by
  have hm : Mod [] w (w.alloc (.cells s.cells.toArray 48)) := (Mod.refl [] w).alloc _
  have hbx := box_sp (hp_new w (.cells s.cells.toArray 48) _ rfl)
  have kk := hbx.fk
  rw [hkd] at kk
  have kn := hbx.fn
  have kb := hbx.fb
  have kw := hbx.fw
  have HPK := Lib.hid (fun w1 => pick_any 2 9 w1 (by decide) (by decide) (by decide) (by decide))
  rw [show pk 2 9 = 2 from by decide] at HPK
  have H2 := Lib.hid (h.mod0 hm)
  have HS := Lib.hid (hs.mod0 hm)
  have HM := Lib.hid hm
  have HOFF := Lib.hid hoff
  have cvb := cv_byte s.n
  have n0 := hs.n0
  have n1 := hs.n1
  unfold spv
  obtain ⟨cs, hcs⟩ : ∃ cs, cs = s.cells.toArray := ⟨_, rfl⟩
  rw [← hcs] at kk kn kb kw H2 HS HM ⊢
  clear h hs hoff hm hbx hkd hcs
  have HP2 := Lib.hid (fun w1 => pick_any s.n 9223372036854775807 w1 n0 n1 (by decide) (by decide))
  have hpl := pk_lt s.n 9223372036854775807 (by decide)
  go_enter Try.func67, Try.ntmps67
  go_wp2_with fail
  refine (HPK.out _).mono ?_
  rintro e w5 ⟨rfl, rfl⟩
  go_wp2_with fail
  refine (HP2.out _).mono ?_
  rintro e w6 ⟨rfl, rfl⟩
  go_wp2_with fail
  refine (number_any B g v W _ H2.out hk (pk s.n 9223372036854775807 : Int) (by omega)).mono ?_
  rw [show W.number ((pk s.n 9223372036854775807 : Nat) : Int) = W.lay (s.form 2) by unfold Wr.number; rw [if_neg (by omega)]; rfl]
  intro e w9 hp
  have hp2 := WrPost.from HM.out hp
  have he := hp.unit
  subst he
  have HP := Lib.hid hp2
  clear hp hp2
  go_wp2_with fail
  go_end0
  exact HP.out
set_option maxRecDepth 100000 in
theorem lays_3 (B g : Nat) (v : Value) (W : Wr) (w : World) (h : IsW w B g v W) (hk : W.b.length ≤ 4194304) (s : Sp) {B0 : Nat} (hs : SpOk w B0 s) (hoff : s.b ≠ [] → Off s.bp (footB g v)) (hkd : s.kind = 3) :
    Calls Try.prog 67 #[.pointer (some ⟨g, 0, none⟩), spv s] w (WrPost B g v (W.lay (s.form 3)) (.tuple #[]) w) := by
  have hm : Mod [] w (w.alloc (.cells s.cells.toArray 48)) := (Mod.refl [] w).alloc _
  have hbx := box_sp (hp_new w (.cells s.cells.toArray 48) _ rfl)
  have kk := hbx.fk
  rw [hkd] at kk
  have kn := hbx.fn
  have kb := hbx.fb
  have kw := hbx.fw
  have HPK := Lib.hid (fun w1 => pick_any 3 9 w1 (by decide) (by decide) (by decide) (by decide))
  rw [show pk 3 9 = 3 from by decide] at HPK
  have H2 := Lib.hid (h.mod0 hm)
  have HS := Lib.hid (hs.mod0 hm)
  have HM := Lib.hid hm
  have HOFF := Lib.hid hoff
  have cvb := cv_byte s.n
  have n0 := hs.n0
  have n1 := hs.n1
  unfold spv
  obtain ⟨cs, hcs⟩ : ∃ cs, cs = s.cells.toArray := ⟨_, rfl⟩
  rw [← hcs] at kk kn kb kw H2 HS HM ⊢
  clear h hs hoff hm hbx hkd hcs
  go_enter Try.func67, Try.ntmps67
  go_wp2_with fail
  refine (HPK.out _).mono ?_
  rintro e w5 ⟨rfl, rfl⟩
  go_wp2_with fail
  refine (bytesW_any B g v W _ H2.out hk s.bp s.bcap s.b HS.out.rd HS.out.len HOFF.out).mono ?_
  intro e w9 hp
  have hp2 := WrPost.from HM.out hp
  have he := hp.unit
  subst he
  have HP := Lib.hid hp2
  clear hp hp2
  go_wp2_with fail
  go_end0
  exact HP.out
set_option maxRecDepth 100000 in
theorem lays_4 (B g : Nat) (v : Value) (W : Wr) (w : World) (h : IsW w B g v W) (hk : W.b.length ≤ 4194304) (s : Sp) {B0 : Nat} (hs : SpOk w B0 s) (hoff : s.b ≠ [] → Off s.bp (footB g v)) (hkd : s.kind = 4) :
    Calls Try.prog 67 #[.pointer (some ⟨g, 0, none⟩), spv s] w (WrPost B g v (W.lay (s.form 4)) (.tuple #[]) w) := by
  have hm : Mod [] w (w.alloc (.cells s.cells.toArray 48)) := (Mod.refl [] w).alloc _
  have hbx := box_sp (hp_new w (.cells s.cells.toArray 48) _ rfl)
  have kk := hbx.fk
  rw [hkd] at kk
  have kn := hbx.fn
  have kb := hbx.fb
  have kw := hbx.fw
  have HPK := Lib.hid (fun w1 => pick_any 4 9 w1 (by decide) (by decide) (by decide) (by decide))
  rw [show pk 4 9 = 4 from by decide] at HPK
  have H2 := Lib.hid (h.mod0 hm)
  have HS := Lib.hid (hs.mod0 hm)
  have HM := Lib.hid hm
  have HOFF := Lib.hid hoff
  have cvb := cv_byte s.n
  have n0 := hs.n0
  have n1 := hs.n1
  unfold spv
  obtain ⟨cs, hcs⟩ : ∃ cs, cs = s.cells.toArray := ⟨_, rfl⟩
  rw [← hcs] at kk kn kb kw H2 HS HM ⊢
  clear h hs hoff hm hbx hkd hcs
  go_enter Try.func67, Try.ntmps67
  go_wp2_with fail
  refine (HPK.out _).mono ?_
  rintro e w5 ⟨rfl, rfl⟩
  go_wp2_with fail
  refine (wideW_any B g v W _ H2.out hk s.w.1 s.w.2).mono ?_
  intro e w9 hp
  have hp2 := WrPost.from HM.out hp
  have he := hp.unit
  subst he
  have HP := Lib.hid hp2
  clear hp hp2
  go_wp2_with fail
  go_end0
  exact HP.out
set_option maxRecDepth 100000 in
theorem lays_5 (B g : Nat) (v : Value) (W : Wr) (w : World) (h : IsW w B g v W) (hk : W.b.length ≤ 4194304) (s : Sp) {B0 : Nat} (hs : SpOk w B0 s) (hoff : s.b ≠ [] → Off s.bp (footB g v)) (hkd : s.kind = 5) :
    Calls Try.prog 67 #[.pointer (some ⟨g, 0, none⟩), spv s] w (WrPost B g v (W.lay (s.form 5)) (.tuple #[]) w) := by
  have hm : Mod [] w (w.alloc (.cells s.cells.toArray 48)) := (Mod.refl [] w).alloc _
  have hbx := box_sp (hp_new w (.cells s.cells.toArray 48) _ rfl)
  have kk := hbx.fk
  rw [hkd] at kk
  have kn := hbx.fn
  have kb := hbx.fb
  have kw := hbx.fw
  have HPK := Lib.hid (fun w1 => pick_any 5 9 w1 (by decide) (by decide) (by decide) (by decide))
  rw [show pk 5 9 = 5 from by decide] at HPK
  have H2 := Lib.hid (h.mod0 hm)
  have HS := Lib.hid (hs.mod0 hm)
  have HM := Lib.hid hm
  have HOFF := Lib.hid hoff
  have cvb := cv_byte s.n
  have n0 := hs.n0
  have n1 := hs.n1
  unfold spv
  obtain ⟨cs, hcs⟩ : ∃ cs, cs = s.cells.toArray := ⟨_, rfl⟩
  rw [← hcs] at kk kn kb kw H2 HS HM ⊢
  clear h hs hoff hm hbx hkd hcs
  go_enter Try.func67, Try.ntmps67
  go_wp2_with fail
  refine (HPK.out _).mono ?_
  rintro e w5 ⟨rfl, rfl⟩
  go_wp2_with fail
  refine (digest_any s.bp s.bcap s.b _ HS.out.rd).mono ?_
  rintro e w6 ⟨rfl, m6⟩
  have HM2 := Lib.hid (HM.out.trans0 m6)
  have H6 := Lib.hid (H2.out.mod0 m6)
  clear HM
  have HM := HM2
  clear kk kn kb kw m6
  go_wp2_with fail
  refine (digestW_any B g v W _ H6.out hk (firstN 32 s.b) (firstN_length 32 s.b)).mono ?_
  intro e w9 hp
  have hp2 := WrPost.from HM.out hp
  have he := hp.unit
  subst he
  have HP := Lib.hid hp2
  clear hp hp2
  go_wp2_with fail
  go_end0
  exact HP.out
set_option maxRecDepth 100000 in
theorem lays_6 (B g : Nat) (v : Value) (W : Wr) (w : World) (h : IsW w B g v W) (hk : W.b.length ≤ 4194304) (s : Sp) {B0 : Nat} (hs : SpOk w B0 s) (hoff : s.b ≠ [] → Off s.bp (footB g v)) (hkd : s.kind = 6) :
    Calls Try.prog 67 #[.pointer (some ⟨g, 0, none⟩), spv s] w (WrPost B g v (W.lay (s.form 6)) (.tuple #[]) w) := by
  have hm : Mod [] w (w.alloc (.cells s.cells.toArray 48)) := (Mod.refl [] w).alloc _
  have hbx := box_sp (hp_new w (.cells s.cells.toArray 48) _ rfl)
  have kk := hbx.fk
  rw [hkd] at kk
  have kn := hbx.fn
  have kb := hbx.fb
  have kw := hbx.fw
  have HPK := Lib.hid (fun w1 => pick_any 6 9 w1 (by decide) (by decide) (by decide) (by decide))
  rw [show pk 6 9 = 6 from by decide] at HPK
  have H2 := Lib.hid (h.mod0 hm)
  have HS := Lib.hid (hs.mod0 hm)
  have HM := Lib.hid hm
  have HOFF := Lib.hid hoff
  have cvb := cv_byte s.n
  have n0 := hs.n0
  have n1 := hs.n1
  unfold spv
  obtain ⟨cs, hcs⟩ : ∃ cs, cs = s.cells.toArray := ⟨_, rfl⟩
  rw [← hcs] at kk kn kb kw H2 HS HM ⊢
  clear h hs hoff hm hbx hkd hcs
  go_enter Try.func67, Try.ntmps67
  go_wp2_with fail
  refine (HPK.out _).mono ?_
  rintro e w5 ⟨rfl, rfl⟩
  go_wp2_with fail
  refine (address_any s.bp s.bcap s.b _ HS.out.rd).mono ?_
  rintro e w6 ⟨rfl, m6⟩
  have HM2 := Lib.hid (HM.out.trans0 m6)
  have H6 := Lib.hid (H2.out.mod0 m6)
  clear HM
  have HM := HM2
  clear kk kn kb kw m6
  go_wp2_with fail
  refine (addressW_any B g v W _ H6.out hk (firstN 20 s.b) (firstN_length 20 s.b)).mono ?_
  intro e w9 hp
  have hp2 := WrPost.from HM.out hp
  have he := hp.unit
  subst he
  have HP := Lib.hid hp2
  clear hp hp2
  go_wp2_with fail
  go_end0
  exact HP.out
theorem lays_off (B g : Nat) (v : Value) (W : Wr) (w : World) (h : IsW w B g v W) (hk : W.b.length ≤ 4194304) (s : Sp) {B0 : Nat} (hs : SpOk w B0 s) (hoff : s.b ≠ [] → Off s.bp (footB g v)) (k : Nat) (hk7 : k < 7) (hkd : s.kind = (k : Int)) :
    Calls Try.prog 67 #[.pointer (some ⟨g, 0, none⟩), spv s] w (WrPost B g v (W.lay (s.form k)) (.tuple #[]) w) := by
  match k, hk7 with
  | 0, _ => exact lays_0 B g v W w h hk s hs hoff hkd
  | 1, _ => exact lays_1 B g v W w h hk s hs hoff hkd
  | 2, _ => exact lays_2 B g v W w h hk s hs hoff hkd
  | 3, _ => exact lays_3 B g v W w h hk s hs hoff hkd
  | 4, _ => exact lays_4 B g v W w h hk s hs hoff hkd
  | 5, _ => exact lays_5 B g v W w h hk s hs hoff hkd
  | 6, _ => exact lays_6 B g v W w h hk s hs hoff hkd
theorem lays_any (B g : Nat) (v : Value) (W : Wr) (w : World) (h : IsW w B g v W) (hk : W.b.length ≤ 4194304) (s : Sp) (hs : SpOk w B s) (k : Nat) (hk7 : k < 7) (hkd : s.kind = (k : Int)) :
    Calls Try.prog 67 #[.pointer (some ⟨g, 0, none⟩), spv s] w (WrPost B g v (W.lay (s.form k)) (.tuple #[]) w) :=
  lays_off B g v W w h hk s hs (fun hne x hx hf => by have h1 := hs.lt hne x hx; have h2 := h.foot_base _ hf; omega) k hk7 hkd
end Go.Proofs.Ytnmcbdppbpfegaa
