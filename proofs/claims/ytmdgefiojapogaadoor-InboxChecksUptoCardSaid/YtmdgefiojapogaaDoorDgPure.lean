/- SHA-256 as functions on lists of bytes and words: no memory, no Go. No condition. -/
import Derived.Test.YtmdgefiojapogaaDoorMem
import Derived.Test.YtmdgefiojapogaaDoorZeros
namespace Go.Proofs.YtmdgefiojapogaaDoor
/-! SHA-256 on lists: no memory, no Go. -/
def rotl (x : UInt32) (s : Nat) : UInt32 := (x <<< UInt32.ofNat s) ||| (x >>> UInt32.ofNat (32 - s))
def be (a b c d : UInt8) : UInt32 := a.toUInt32 <<< 24 ||| b.toUInt32 <<< 16 ||| c.toUInt32 <<< 8 ||| d.toUInt32
def wword (p : List UInt8) (t : Nat) : UInt32 := be (p[4 * t]?.getD 0) (p[4 * t + 1]?.getD 0) (p[4 * t + 2]?.getD 0) (p[4 * t + 3]?.getD 0)
def w0 (p : List UInt8) : List UInt32 := (List.range 16).map (wword p)
def rotk (x : UInt32) (k : Int) : UInt32 := rotl x (k % 32).toNat
def sg1 (x : UInt32) : UInt32 := rotk x (-17) ^^^ rotk x (-19) ^^^ x >>> 10
def sg0 (x : UInt32) : UInt32 := rotk x (-7) ^^^ rotk x (-18) ^^^ x >>> 3
def wnext (ws : List UInt32) (t : Nat) : UInt32 := sg1 (ws[t - 2]?.getD 0) + ws[t - 7]?.getD 0 + sg0 (ws[t - 15]?.getD 0) + ws[t - 16]?.getD 0
def wext : Nat → List UInt32 → List UInt32
  | 0, ws => ws
  | n + 1, ws => wext n ws ++ [wnext (wext n ws) (16 + n)]
def words (p : List UInt8) : List UInt32 := wext 48 (w0 p)

/-- The eight words. -/
structure St where
  (a b c d e f g h : UInt32)
def St.l (s : St) : List UInt32 := [s.a, s.b, s.c, s.d, s.e, s.f, s.g, s.h]
def xof (s : St) (k w : UInt32) : UInt32 := (rotk s.e (-6) ^^^ rotk s.e (-11) ^^^ rotk s.e (-25)) + (s.h + (s.e &&& s.f ^^^ ~~~s.e &&& s.g) + k + w)
def yof (s : St) : UInt32 := (rotk s.a (-2) ^^^ rotk s.a (-13) ^^^ rotk s.a (-22)) + (s.a &&& s.b ^^^ s.a &&& s.c ^^^ s.b &&& s.c)
def rnd (s : St) (k w : UInt32) : St := ⟨xof s k w + yof s, s.a, s.b, s.c, s.d + xof s k w, s.e, s.f, s.g⟩
def steps : List UInt32 := [1116352408, 1899447441, 3049323471, 3921009573, 961987163, 1508970993, 2453635748, 2870763221, 3624381080, 310598401, 607225278, 1426881987, 1925078388, 2162078206, 2614888103, 3248222580, 3835390401, 4022224774, 264347078, 604807628, 770255983, 1249150122, 1555081692, 1996064986, 2554220882, 2821834349, 2952996808, 3210313671, 3336571891, 3584528711, 113926993, 338241895, 666307205, 773529912, 1294757372, 1396182291, 1695183700, 1986661051, 2177026350, 2456956037, 2730485921, 2820302411, 3259730800, 3345764771, 3516065817, 3600352804, 4094571909, 275423344, 430227734, 506948616, 659060556, 883997877, 958139571, 1322822218, 1537002063, 1747873779, 1955562222, 2024104815, 2227730452, 2361852424, 2428436474, 2756734187, 3204031479, 3329325298]
def rounds (ws : List UInt32) (s : St) : Nat → St
  | 0 => s
  | n + 1 => rnd (rounds ws s n) (steps[n]?.getD 0) (ws[n]?.getD 0)
def St.add (s r : St) : St := ⟨s.a + r.a, s.b + r.b, s.c + r.c, s.d + r.d, s.e + r.e, s.f + r.f, s.g + r.g, s.h + r.h⟩
def compress (s : St) (p : List UInt8) : St := s.add (rounds (words p) s 64)
theorem steps_length : steps.length = 64 := rfl
theorem St.add_l (s r : St) : (s.add r).l = List.zipWith (· + ·) s.l r.l := rfl

theorem w0_length (p : List UInt8) : (w0 p).length = 16 := by simp [w0]
theorem wext_length (n : Nat) (ws : List UInt32) : (wext n ws).length = ws.length + n := by
  induction n with
  | zero => rfl
  | succ n ih => simp [wext, ih]; omega
theorem words_length (p : List UInt8) : (words p).length = 64 := by simp [words, wext_length, w0_length]

theorem take_set_succ {α : Type} (l : List α) (k : Nat) (v : α) (h : k < l.length) : (l.set k v).take (k + 1) = l.take k ++ [v] := by
  rw [List.take_succ_eq_append_getElem (by simpa using h)]
  simp [List.take_set_of_le (Nat.le_refl k)]
theorem getD_of_take {α : Type} {l r : List α} {k : Nat} (h : l.take k = r) (j : Nat) (d : α) (hj : j < k) : l.getD j d = r.getD j d := by
  subst h
  simp [List.getD, List.getElem?_take, hj]
theorem wnext_of_take {l r : List UInt32} {k : Nat} (h : l.take k = r) (h16 : 16 ≤ k) : wnext l k = wnext r k := by
  subst h
  simp only [wnext, List.getElem?_take, show k - 2 < k by omega, show k - 15 < k by omega, show k - 7 < k by omega, show k - 16 < k by omega, if_true]
theorem map_range_succ {α : Type} (f : Nat → α) (k : Nat) : (List.range (k + 1)).map f = (List.range k).map f ++ [f k] := by simp [List.range_succ]

/-! The Hasher, as a list of bytes. -/
def st0 : St := ⟨1779033703, 3144134277, 1013904242, 2773480762, 1359893119, 2600822924, 528734635, 1541459225⟩
def chunk (l : List UInt8) (i : Nat) : List UInt8 := (l.drop (64 * i)).take 64
def hq (l : List UInt8) : Nat → St
  | 0 => st0
  | i + 1 => compress (hq l i) (chunk l i)
def hst (l : List UInt8) : St := hq l (l.length / 64)
def tl (l : List UInt8) : List UInt8 := l.drop (64 * (l.length / 64))
theorem tl_length (l : List UInt8) : (tl l).length = l.length % 64 := by simp [tl]; omega
theorem chunk_append (l c : List UInt8) (i : Nat) (h : 64 * (i + 1) ≤ l.length) : chunk (l ++ c) i = chunk l i := by
  unfold chunk
  rw [List.drop_append_of_le_length (by omega), List.take_append_of_le_length (by simp; omega)]
theorem hq_append (l c : List UInt8) (i : Nat) (h : 64 * i ≤ l.length) : hq (l ++ c) i = hq l i := by
  induction i with
  | zero => rfl
  | succ i ih => rw [hq, hq, ih (by omega), chunk_append _ _ _ h]
theorem step_small (l c : List UInt8) (h : l.length % 64 + c.length < 64) : hst (l ++ c) = hst l ∧ tl (l ++ c) = tl l ++ c := by
  have e : (l ++ c).length / 64 = l.length / 64 := by simp; omega
  constructor
  · unfold hst; rw [e, hq_append _ _ _ (by omega)]
  · unfold tl; rw [e, List.drop_append_of_le_length (by omega)]
theorem step_full (l c : List UInt8) (h : l.length % 64 + c.length = 64) : hst (l ++ c) = compress (hst l) (tl l ++ c) ∧ tl (l ++ c) = [] := by
  have e : (l ++ c).length / 64 = l.length / 64 + 1 := by simp; omega
  constructor
  · unfold hst; rw [e, hq, hq_append _ _ _ (by omega)]
    congr 1
    unfold chunk tl
    rw [List.drop_append_of_le_length (by omega)]
    exact List.take_of_length_le (by simp; omega)
  · unfold tl; rw [e]; exact List.drop_eq_nil_of_le (by simp; omega)

/-! The end. -/
def lastByte (last : UInt8) (more : Nat) : UInt8 := last &&& ~~~(255 >>> UInt8.ofNat more) ||| 128 >>> UInt8.ofNat more
def pad1 (l : List UInt8) (last : UInt8) (more : Nat) : List UInt8 := tl l ++ lastByte last more :: List.replicate (63 - l.length % 64) 0
def fillN (p : List UInt8) (n : UInt64) : Nat → List UInt8
  | 0 => p
  | i + 1 => (fillN p n i).set (63 - i) (n >>> (8 * UInt64.ofNat i)).toUInt8
def endSt (l : List UInt8) (last : UInt8) (more : Nat) : St :=
  compress (if 56 ≤ l.length % 64 then compress (hst l) (pad1 l last more) else hst l)
    (fillN (if 56 ≤ l.length % 64 then zeros 64 else pad1 l last more) (UInt64.ofNat l.length * 8 + UInt64.ofNat more) 8)
def outByte (s : St) (i : Nat) : UInt8 := ((s.l[i / 4]?.getD 0) >>> UInt32.ofNat (24 - 8 * (i % 4))).toUInt8
def out (s : St) : List UInt8 := (List.range 32).map (outByte s)
def fin (l : List UInt8) (last : UInt8) (more : Nat) : List UInt8 := out (endSt l last more)
theorem pad1_length (l : List UInt8) (last : UInt8) (more : Nat) : (pad1 l last more).length = 64 := by
  simp [pad1, tl_length]; omega
theorem fillN_length (p : List UInt8) (n : UInt64) (i : Nat) : (fillN p n i).length = p.length := by
  induction i with
  | zero => rfl
  | succ i ih => simp [fillN, ih]
end Go.Proofs.YtmdgefiojapogaaDoor
