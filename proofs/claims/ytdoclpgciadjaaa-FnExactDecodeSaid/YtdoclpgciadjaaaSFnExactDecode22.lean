/- Texts of the proof of FnExactDecode, joined. -/
import Derived.Test.YtdoclpgciadjaaaSFnExactDecode21
import Derived.ArgAppend
import Derived.Test.YtdoclpgciadjaaaSFnExactDecode4
import Derived.Laws.BitsAllLaws
import Derived.Laws.BitsLemmas
import Derived.Lib.Strings
import Derived.Lib.SmallJoins
namespace Go.Proofs.Ytdoclpgciadjaaa.P
open Go Go.RowKit Go.Proofs.YtdoclpgciadjaaaW.PrintWords
set_option linter.unusedVariables false
def RowM (e : TypeId) (w : World) (base : Nat) (v : Value) (xs : List Int) : Prop :=
  w.ownsRow base e 1 v xs.length (nums .u8 xs) ∨
  ∃ g cap cur fz, v = .slice (some ⟨g, 0, none⟩) xs.length cap ∧ base ≤ g ∧ w.heap[g]? = some (.cells cur e fz) ∧ cap ≤ fz.1 ∧ xs.length ≤ cap ∧ cap ≤ maxLen ∧ cur.size = cap ∧ cur.toList.take xs.length = nums .u8 xs
theorem RowM.typed {e : TypeId} {w : World} {base : Nat} {v : Value} {xs : List Int} (h : RowM e w base v xs) {k : Nat} (hk : v.ownBlock = some k) : base ≤ k ∧ k < w.heap.size ∧ ∃ cur fz, w.heap[k]? = some (.cells cur e fz) := by
  rcases h with h | ⟨g, cap, cur, fz, rfl, hb, hh, _⟩
  · obtain ⟨cells, hc⟩ := own_typed h k hk
    exact ⟨own_base h k hk, own_lt h k hk, cells, _, hc⟩
  · obtain rfl : g = k := Option.some.inj hk
    exact ⟨hb, (Array.getElem?_eq_some_iff.1 hh).1, cur, fz, hh⟩
theorem RowM.slice {e : TypeId} {w : World} {base : Nat} {v : Value} {xs : List Int} (h : RowM e w base v xs) : ∃ A n c, v = .slice A n c := by
  rcases h with h | ⟨g, cap, cur, fz, rfl, _⟩
  · obtain ⟨A, c, e⟩ := own_slice h
    exact ⟨A, _, c, e⟩
  · exact ⟨_, _, _, rfl⟩
structure Fr (w w' : World) (p : Nat) (row row' : Option Nat) : Prop where
  os : w'.os = w.os
  tape : w'.tape = w.tape
  output : w'.output = w.output
  size : w.heap.size ≤ w'.heap.size
  block : ∀ k, k < w.heap.size → k ≠ p → some k ≠ row → w'.heap[k]? = w.heap[k]?
  goes : row' = row ∨ ∃ b, row' = some b ∧ w.heap.size ≤ b
theorem Fr.refl (w : World) (p : Nat) (row : Option Nat) : Fr w w p row row := ⟨rfl, rfl, rfl, Nat.le_refl _, fun _ _ _ _ => rfl, .inl rfl⟩
theorem Fr.trans {w w1 w2 : World} {p : Nat} {r r1 r2 : Option Nat} (h : Fr w w1 p r r1) (k : Fr w1 w2 p r1 r2) : Fr w w2 p r r2 := by
  refine ⟨k.os.trans h.os, k.tape.trans h.tape, k.output.trans h.output, Nat.le_trans h.size k.size, fun j hj hp hr => ?_, ?_⟩
  · refine (k.block j (Nat.lt_of_lt_of_le hj h.size) hp ?_).trans (h.block j hj hp hr)
    rcases h.goes with e | ⟨b, e, hb⟩
    · rw [e]; exact hr
    · rw [e]; intro e2; have := Option.some.inj e2; omega
  · rcases k.goes with e | ⟨b, e, hb⟩
    · rw [e]; exact h.goes
    · exact .inr ⟨b, e, Nat.le_trans h.size hb⟩
theorem Fr.below {B : Nat} {w0 w w' : World} {p : Nat} {r r' : Option Nat} (h : Fr w w' p r r') (hb : Below B w0 w) (hB : B ≤ w.heap.size) (hp : B ≤ p) (hr : ∀ k, r = some k → B ≤ k) : Below B w0 w' :=
  hb.trans ⟨h.os, h.tape, h.output, h.size, fun k hk => h.block k (by omega) (by omega) (fun e => by have := hr k e.symm; omega)⟩
theorem nums_one (x : Int) : nums .u8 [x] = [.int .u8 x] := rfl
theorem RowM.append {P : Program} {ops : Array Oper} {rest : List Oper} {o : Oper} {a : Act} {Q : Exit → Act → World → Prop} {W : World} (base : Nat) (hgd : o.guard = none) (s x : Operand) (t e : TypeId)
    (ho : o.op = .call { callee := .builtin .append, args := #[s, x], argTypes := #[t, t] })
    (ht : P.underlying t = some (.slice e)) (hinfo : (P.info? e).map (fun i => (i.zero, i.size, i.bytes)) = some (some (.int .u8 0), 1, 1))
    (v : Value) (xs : List Int) (b : Int) (hs : a.eval s = v) (hx : a.eval x = .slice (some ⟨W.heap.size, 0, none⟩) 1 1)
    (HO : RowM e W base v xs) (hbase : base ≤ W.heap.size) (hl : xs.length + 1 ≤ 1000000)
    (h : ∀ v1 w1, RowM e w1 base v1 (xs ++ [b]) → Fr W w1 W.heap.size v.ownBlock v1.ownBlock → wpList P ops Q rest (a.put o.dst v1) w1) :
    wpList P ops Q (o :: rest) a (W.alloc (.cells #[.int .u8 b] e)) := by
  have hn : (xs ++ [b]).length = xs.length + 1 := by simp
  rcases HO with HO | ⟨g, cap, cur, fz, rfl, hb, hh, hfz, hlc, hcm, hcs, htk⟩
  · refine print_append_cells (w0 := W) (ys := [.int .u8 b]) base hgd s x t e (.int .u8 0) 1 1 ho ht hinfo rfl (by decide) (by decide) v xs.length (nums .u8 xs) hs hx rfl (by simp [Value.oneCell']) HO (Below.refl _ _) hbase (by omega) ?_
    intro v1 w1 hown _ hg hat
    refine h v1 w1 (.inl (by rw [hn, nums_append]; exact hown)) ⟨hg.os, hg.tape, hg.output, hg.size, fun k hk _ hr => hg.block k hk hr, ?_⟩
    rcases hat with e1 | ⟨c, e1, hc⟩
    · exact .inl e1
    · exact .inr ⟨c, e1, hc⟩
  · obtain ⟨i0, hi, hzz⟩ := Option.map_eq_some_iff.1 hinfo
    simp only [Prod.mk.injEq] at hzz
    obtain ⟨hz0, hz1, hz2⟩ := hzz
    have hgl : g < W.heap.size := (Array.getElem?_eq_some_iff.1 hh).1
    have hhA : (W.alloc (.cells #[.int .u8 b] e)).heap[g]? = some (.cells cur e fz) := (heap_alloc_old W _ hgl).trans hh
    have hcell : ∀ j, (W.alloc (.cells #[.int .u8 b] e)).cell? ⟨g, j, none⟩ = cur[j]? := fun j => by simp only [World.cell?, hhA]; simp
    have hol : (nums .u8 xs).length = xs.length * 1 := by rw [nums_length, Nat.mul_one]
    refine wpList_append_arg (W.alloc (.cells #[.int .u8 b] e)) hgd s x t ho e i0 (.int .u8 0) 1 1 ht hi hz0 hz1 hz2 rfl (by decide) g 0 xs.length cap (nums .u8 xs) hs hol (fun j u hj => ?_) ⟨W.heap.size, 0, none⟩ 1 1 [.int .u8 b] hx rfl
      (by simpa using World.news_of_block (cs := #[.int .u8 b]) (t := e) (fr := (0, 0)) (heap_alloc_new W (.cells #[.int .u8 b] e))) (by simp [Value.oneCell']) (fun hroom j hj => ⟨?_, ?_⟩) (by simp only [maxLen]; omega) (by omega) (fun hroom => ?_) (fun _ v1 w1 hown hg => ?_)
    · rw [Nat.zero_add, hcell]
      have hjl : j < xs.length := by have := (List.getElem?_eq_some_iff.1 hj).1; rw [nums_length] at this; exact this
      rw [← htk, List.getElem?_take_of_lt hjl, Array.getElem?_toList] at hj
      exact hj
    · have hj1 : j < 1 := hj
      rw [hcell, Array.getElem?_eq_getElem (by omega)]; rfl
    · have hj1 : j < 1 := hj
      obtain ⟨lo, hi'⟩ := fz
      simp only [World.frozen?, hhA]
      have hlo : cap ≤ lo := hfz
      rw [decide_eq_false (show ¬ lo ≤ 0 + xs.length * 1 + j by omega), Bool.false_and]
    · have e0 : 0 + xs.length * 1 = xs.length := by omega
      rw [e0]
      have hset : ((W.alloc (.cells #[.int .u8 b] e)).setCell ⟨g, xs.length, none⟩ (.int .u8 b)).heap[g]? = some (.cells (cur.setIfInBounds xs.length (.int .u8 b)) e fz) := by
        simp only [World.setCell, Array.getElem?_modify, hhA]
        simp
      have hs1 : ((W.alloc (.cells #[.int .u8 b] e)).setCell ⟨g, xs.length, none⟩ (.int .u8 b)).heap.size = W.heap.size + 1 := by simp
      refine h _ _ (.inr ⟨g, cap, _, fz, by rw [hn], hb, hset, hfz, by rw [hn]; exact hroom, hcm, by simp [hcs], ?_⟩) ⟨rfl, rfl, rfl, ?_, fun k hk _ hr => ?_, .inl rfl⟩
      · rw [hn, nums_append, nums_one, Array.toList_setIfInBounds, List.take_add_one, List.take_set_of_le (Nat.le_refl _), htk, List.getElem?_set_self (by simpa using (show xs.length < cur.size by omega))]
        rfl
      · show W.heap.size ≤ ((W.alloc (.cells #[.int .u8 b] e)).setCell ⟨g, xs.length, none⟩ (.int .u8 b)).heap.size
        rw [hs1]; omega
      · show ((W.alloc (.cells #[.int .u8 b] e)).setCell ⟨g, xs.length, none⟩ (.int .u8 b)).heap[k]? = W.heap[k]?
        rw [Below.heap_setCell _ _ _ k (fun e1 => hr (by rw [e1]; rfl)), heap_alloc_old W _ hk]
    · have e1 : nums .u8 xs ++ [Value.int .u8 b] = nums .u8 (xs ++ [b]) := by rw [nums_append, nums_one]
      rw [e1] at hown
      have hw : w1.ownsRow base e 1 v1 (xs ++ [b]).length (nums .u8 (xs ++ [b])) := by rw [hn]; exact own_weaken hown (by simp; omega)
      refine h v1 w1 (.inl hw) ⟨hg.os, hg.tape, hg.output, Nat.le_trans (by simp) hg.size, fun k hk hk2 hr => ?_, ?_⟩
      · rw [hg.block k (by simp; omega) (by simp), heap_alloc_old W _ hk]
      · rcases hown.2 with ⟨_, h0⟩ | ⟨g', c', cu', rfl, hb', _⟩
        · omega
        · exact .inr ⟨g', rfl, by simp at hb'; omega⟩
theorem RowM.string {P : Program} {w : World} {base : Nat} {src dst e' e : TypeId} {v : Value} {xs : List Int} (hs : P.underlying src = some (.slice e)) (he : P.underlying e = some (.int .u8)) (hd : P.underlying dst = some .string) (h : RowM e' w base v xs) : (convert src dst v).run P w = .ok (.string (strOfNums xs)) w := by
  rcases h with h | ⟨g, cap, cur, fz, rfl, hb, hh, hfz, hlc, hcm, hcs, htk⟩
  · exact own_string hs he hd h
  · refine run_convert_bytes_arg w src e hs he g 0 xs.length cap xs rfl (fun i hi => ?_) dst hd
    have h1 : (nums .u8 xs)[i]? = some (.int .u8 (xs.getD i 0)) := by simp [nums, List.getElem?_eq_getElem hi, List.getD_eq_getElem?_getD]
    rw [← htk, List.getElem?_take_of_lt hi, Array.getElem?_toList] at h1
    simp only [World.cell?, hh]
    simpa using h1
theorem Fr.store {w w1 : World} {p : Nat} {r : Option Nat} {v1 : Value} (h : Fr w w1 w.heap.size r v1.ownBlock) (hp : p < w.heap.size) : Fr w (w1.setCell ⟨p, 0, none⟩ v1) p r v1.ownBlock :=
  ⟨h.os, h.tape, h.output, by simpa using h.size, fun k hk hkp hr => by
    rw [Below.heap_setCell _ _ _ k hkp]; exact h.block k hk (by omega) hr, h.goes⟩
theorem RowM.bytes (w : World) (e : TypeId) (s : ByteArray) (base : Nat) (hb : base ≤ w.heap.size) (hs : s.size ≤ maxLen) : RowM e (Lib.bytesWorld w e s) base (.slice (some ⟨w.heap.size, 0, none⟩) s.size (grownCap w s.size 0 e)) (bytesOf s) := by
  have hg := grownCap_ge w s.size 0 e
  have hz : (Lib.bytesCells w e s).size = grownCap w s.size 0 e := by simp [Lib.bytesCells]; have : s.data.size = s.size := rfl; omega
  refine .inr ⟨w.heap.size, _, _, _, by rw [bytesOf_length], hb, Lib.bytesWorld_at_new w e s, by rw [hz]; exact Nat.le_refl _, by rw [bytesOf_length]; exact hg, grownCap_le_maxLen w s.size 0 e hs, hz, ?_⟩
  rw [bytesOf_length]
  unfold Lib.bytesCells nums bytesOf
  rw [Array.toList_append, List.take_append_of_le_length (by simp), List.take_of_length_le (by simp)]
  simp
structure BW (e t : TypeId) (w wr : World) (b p : Nat) (box : Array Value) (tb : TypeId) (v : Value) (xs : List Int) : Prop where
  box : wr.heap[b]? = some (.cells box tb (0, 0))
  ptr : wr.heap[p]? = some (.cells #[v] t (0, 0))
  row : RowM e wr w.heap.size v xs
  below : Below w.heap.size w wr
  lo : w.heap.size ≤ b
  lp : w.heap.size ≤ p
  ne : b ≠ p
theorem BW.step {e t : TypeId} {w wr w' : World} {b p : Nat} {box : Array Value} {tb : TypeId} {v v' : Value} {xs ys : List Int} (h : BW e t w wr b p box tb v xs) (he : e ≠ tb) (hp : w'.heap[p]? = some (.cells #[v'] t (0, 0))) (hv : RowM e w' w.heap.size v' ys) (hf : Fr wr w' p v.ownBlock v'.ownBlock) : BW e t w w' b p box tb v' ys := by
  refine ⟨(hf.block b (Array.getElem?_eq_some_iff.1 h.box).1 h.ne (fun e1 => ?_)).trans h.box, hp, hv, hf.below h.below h.below.size h.lp (fun k hk => (h.row.typed hk).1), h.lo, h.lp, h.ne⟩
  obtain ⟨_, _, cur, fz, hc⟩ := h.row.typed e1.symm
  rw [h.box] at hc
  injection hc with hc
  injection hc with _ hc
  exact he hc.symm
theorem RowM.nil (e : TypeId) (w : World) (base : Nat) : RowM e w base (.slice none 0 0) [] := .inl (own_nil w base e 1)
end Go.Proofs.Ytdoclpgciadjaaa.P

namespace Go.Proofs.Ytdoclpgciadjaaa.P
open Go Go.RowKit Go.Proofs.YtdoclpgciadjaaaW.PrintWords
set_option linter.unusedVariables false
def crcN (r b : Nat) : Nat := if (r / 16384) ^^^ b = 1 then (2 * r % 32768) ^^^ 17817 else 2 * r % 32768
theorem bits_xor_i64 (a b : Nat) (ha : a < 2 ^ 62) (hb : b < 2 ^ 62) : bits .xor .i64 (a : Int) (b : Int) = ((a ^^^ b : Nat) : Int) := by
  have hp : (2 : Nat) ^ 62 ≤ 2 ^ IntKind.i64.bits := Nat.pow_le_pow_right (by decide) (by decide)
  have ha' : a % 2 ^ IntKind.i64.bits = a := Nat.mod_eq_of_lt (Nat.lt_of_lt_of_le ha hp)
  have hb' : b % 2 ^ IntKind.i64.bits = b := Nat.mod_eq_of_lt (Nat.lt_of_lt_of_le hb hp)
  simp only [bits, BitVec.ofInt_natCast, BitVec.toNat_xor, BitVec.toNat_ofNat, ha', hb']
  have h := Nat.xor_lt_two_pow ha hb
  rw [IntKind.wrap_i64]
  omega
theorem bits_and_i64 (a b : Nat) (ha : a < 2 ^ 62) (hb : b < 2 ^ 62) : bits .and .i64 (a : Int) (b : Int) = ((a &&& b : Nat) : Int) :=
  (bits_nat .i64 62 (by decide) (fun n h0 h1 => by rw [IntKind.wrap_i64]; omega) a b ha hb).1
theorem crcI_nat (r b : Nat) (hr : r < 32768) (hb : b ≤ 1) : crcI r b = crcN r b := by
  have h1 : ((r : Int) / 16384) = ((r / 16384 : Nat) : Int) := by omega
  have h2 : bits .and .i64 ((r : Int) / 16384) 1 = ((r / 16384 : Nat) : Int) := by
    rw [h1]
    have := bits_and_i64 (r / 16384) 1 (by omega) (by decide)
    rw [show ((1 : Nat) : Int) = 1 from rfl] at this
    rw [this, Nat.and_one_is_mod]
    omega
  have h3 : bits .and .i64 (wrap64 ((r : Int) * 2)) 32767 = ((2 * r % 32768 : Nat) : Int) := by
    have hw : wrap64 ((r : Int) * 2) = ((2 * r : Nat) : Int) := by unfold wrap64; omega
    rw [hw]
    have := bits_and_i64 (2 * r) 32767 (by omega) (by decide)
    rw [show ((32767 : Nat) : Int) = 32767 from rfl] at this
    rw [this, show (32767 : Nat) = 2 ^ 15 - 1 from rfl, Nat.and_two_pow_sub_one_eq_mod]
  have h4 : bits .xor .i64 ((r / 16384 : Nat) : Int) (b : Int) = ((r / 16384 ^^^ b : Nat) : Int) := bits_xor_i64 _ _ (by omega) (by omega)
  have h5 : bits .xor .i64 ((2 * r % 32768 : Nat) : Int) 17817 = ((2 * r % 32768 ^^^ 17817 : Nat) : Int) := bits_xor_i64 _ 17817 (by omega) (by decide)
  unfold crcI crcN
  rw [h2, h3, h4, h5]
  by_cases c : r / 16384 ^^^ b = 1
  · rw [if_pos c, if_pos (by rw [c]; rfl)]
  · rw [if_neg c, if_neg (by omega)]
theorem crcN_lt (r b : Nat) : crcN r b < 32768 := by
  unfold crcN
  split
  · exact Nat.xor_lt_two_pow (n := 15) (by omega) (by decide)
  · omega
def bitN (c : Int) : Nat := if c = 49 then 1 else 0
def bitB (c : Int) : Bool := decide (c = 49)
def crcL (l : List Int) : Nat := l.foldl (fun r c => crcN r (bitN c)) 0
theorem crcL_snoc (l : List Int) (c : Int) : crcL (l ++ [c]) = crcN (crcL l) (bitN c) := by
  unfold crcL; rw [List.foldl_append]; rfl
theorem snoc_ind {α : Type} {p : List α → Prop} (h0 : p []) (h1 : ∀ l c, p l → p (l ++ [c])) (l : List α) : p l := by
  have key : ∀ m : List α, p m.reverse := by
    intro m
    induction m with
    | nil => exact h0
    | cons a m ih => rw [List.reverse_cons]; exact h1 _ _ ih
  have := key l.reverse
  rwa [List.reverse_reverse] at this
theorem crcL_lt (l : List Int) : crcL l < 32768 := by
  induction l using snoc_ind with
  | h0 => decide
  | h1 l c _ => rw [crcL_snoc]; exact crcN_lt _ _
theorem crcI_list (l : List Int) (hl : ∀ c ∈ l, c = 48 ∨ c = 49) : l.foldl (fun r c => crcI r (c - 48)) 0 = (crcL l : Int) := by
  induction l using snoc_ind with
  | h0 => rfl
  | h1 l c ih =>
    rw [List.foldl_append, ih (fun x hx => hl x (List.mem_append_left _ hx)), crcL_snoc, List.foldl_cons, List.foldl_nil]
    rcases hl c (by simp) with rfl | rfl
    · exact crcI_nat _ 0 (crcL_lt l) (by decide)
    · exact crcI_nat _ 1 (crcL_lt l) (by decide)
theorem crcN_testBit (r b : Nat) (hr : r < 32768) (hb : b ≤ 1) (j : Nat) (hj : j < 15) :
    (crcN r b).testBit j = (((decide (0 < j)) && r.testBit (j - 1)) ^^ ((r.testBit 14 ^^ decide (b = 1)) && Nat.testBit 17817 j)) := by
  have h14 : r.testBit 14 = decide (r / 16384 = 1) := by
    rw [Nat.testBit_eq_decide_div_mod_eq]
    congr 1
    have : r / 2 ^ 14 % 2 = r / 16384 := by omega
    rw [this]
  have hy : (2 * r % 32768).testBit j = (decide (0 < j) && r.testBit (j - 1)) := by
    rw [show (32768 : Nat) = 2 ^ 15 from rfl, Nat.testBit_mod_two_pow, show 2 * r = r <<< 1 by omega, Nat.testBit_shiftLeft]
    simp [hj]
    rfl
  have hx : (r / 16384 ^^^ b = 1) ↔ (r.testBit 14 ^^ decide (b = 1)) = true := by
    rw [h14]
    have h0 : r / 16384 = 0 ∨ r / 16384 = 1 := by omega
    have h1 : b = 0 ∨ b = 1 := by omega
    rcases h0 with h0 | h0 <;> rcases h1 with h1 | h1 <;> rw [h0, h1] <;> decide
  unfold crcN
  by_cases c : r / 16384 ^^^ b = 1
  · rw [if_pos c, Nat.testBit_xor, hy, hx.1 c, Bool.true_and]
  · rw [if_neg c, hy]
    have : (r.testBit 14 ^^ decide (b = 1)) = false := by
      cases h : (r.testBit 14 ^^ decide (b = 1)) with
      | false => rfl
      | true => exact absurd (hx.2 h) c
    rw [this]; simp
end Go.Proofs.Ytdoclpgciadjaaa.P

namespace Go.Proofs.Ytdoclpgciadjaaa.P
open Go Go.RowKit Go.Proofs.YtdoclpgciadjaaaW.PrintWords
set_option linter.unusedVariables false
theorem text_ext {a b : ByteArray} (h : a.data.toList = b.data.toList) : a = b := by
  cases a; cases b
  exact congrArg ByteArray.mk (Array.toList_inj.1 h)
theorem str_append (a b : List Int) : strOfNums (a ++ b) = strOfNums a ++ strOfNums b := by
  apply text_ext
  rw [Joins.data_append, strOfNums_data, strOfNums_data, strOfNums_data, List.map_append]
theorem bytes_str (l : List Int) (h : ∀ x ∈ l, 0 ≤ x ∧ x < 256) : bytesOf (strOfNums l) = l := by
  unfold bytesOf
  rw [strOfNums_data, List.map_map]
  conv => rhs; rw [← List.map_id l]
  refine List.map_congr_left fun x hx => ?_
  have := h x hx
  simp only [Function.comp, id]
  rw [UInt8.toNat_ofNat_of_lt' (show x.toNat < UInt8.size by simp [UInt8.size]; omega)]
  omega
def Bits (l : List Int) : Prop := ∀ x ∈ l, x = 48 ∨ x = 49
theorem Bits.range {l : List Int} (h : Bits l) : ∀ x ∈ l, 0 ≤ x ∧ x < 256 := fun x hx => by rcases h x hx with rfl | rfl <;> omega
theorem Bits.append {a b : List Int} (h : Bits a) (k : Bits b) : Bits (a ++ b) := fun x hx => (List.mem_append.1 hx).elim (h x) (k x)
theorem isBits_str {l : List Int} (h : Bits l) : isBits (strOfNums l) = true := by
  unfold isBits
  rw [strOfNums_data, List.all_map, List.all_eq_true]
  intro x hx
  rcases h x hx with rfl | rfl <;> rfl
end Go.Proofs.Ytdoclpgciadjaaa.P

namespace Go.Proofs.Ytdoclpgciadjaaa.P
open Go Go.RowKit Go.Proofs.YtdoclpgciadjaaaW.PrintWords
set_option linter.unusedVariables false
@[elab_as_elim] theorem revInd {Q : List Int → Prop} (nil : Q []) (snoc : ∀ l c, Q l → Q (l ++ [c])) : ∀ l, Q l := by
  intro l
  rw [← List.reverse_reverse l]
  induction l.reverse with
  | nil => exact nil
  | cons c t ih => rw [List.reverse_cons]; exact snoc _ _ ih
def V (l : List Int) : Int := l.foldl (fun v c => 2 * v + (c - 48)) 0
theorem V_nil : V [] = 0 := rfl
theorem V_snoc (l : List Int) (c : Int) : V (l ++ [c]) = 2 * V l + (c - 48) := by unfold V; rw [List.foldl_append]; rfl
theorem V_range {l : List Int} (h : Bits l) : 0 ≤ V l ∧ V l < 2 ^ l.length := by
  induction l using revInd with
  | nil => exact ⟨by decide, by decide⟩
  | snoc l c ih =>
    obtain ⟨h1, h2⟩ := ih (fun x hx => h x (List.mem_append_left _ hx))
    have hc := h c (by simp)
    rw [V_snoc, List.length_append, List.length_singleton, Int.pow_succ]
    constructor <;> rcases hc with rfl | rfl <;> omega
theorem V_lt {l : List Int} (h : Bits l) {n : Nat} (hn : l.length ≤ n) {m : Int} (hm : (2 : Int) ^ n = m) : V l < m := by
  have h1 := (V_range h).2
  have h2 : (2 : Int) ^ l.length ≤ 2 ^ n := by
    have := Nat.pow_le_pow_right (show 0 < 2 by decide) hn
    exact_mod_cast this
  omega
def byteStep (st : List Int × Nat) (c : Int) : List Int × Nat := (if st.2 % 8 = 0 then st.1 ++ [(c - 48) % 256] else st.1.set (st.1.length - 1) ((2 * rd st.1 ((st.1.length : Int) - 1) + (c - 48)) % 256), st.2 + 1)
def bytesB (l : List Int) : List Int := (l.foldl byteStep ([], 0)).1
theorem bytesB_count (l : List Int) : (l.foldl byteStep ([], 0)).2 = l.length := by
  induction l using revInd with
  | nil => rfl
  | snoc l c ih => rw [List.foldl_append, List.length_append, List.length_singleton, ← ih]; rfl
theorem bytesB_snoc (l : List Int) (c : Int) : bytesB (l ++ [c]) = if l.length % 8 = 0 then bytesB l ++ [(c - 48) % 256] else (bytesB l).set ((bytesB l).length - 1) ((2 * rd (bytesB l) (((bytesB l).length : Int) - 1) + (c - 48)) % 256) := by
  have := bytesB_count l
  unfold bytesB
  rw [List.foldl_append, List.foldl_cons, List.foldl_nil, byteStep, this]
theorem bytesB_length (l : List Int) : (bytesB l).length = (l.length + 7) / 8 := by
  induction l using revInd with
  | nil => rfl
  | snoc l c ih =>
    rw [bytesB_snoc, List.length_append, List.length_singleton]
    split
    · rw [List.length_append, List.length_singleton, ih]; omega
    · rw [List.length_set, ih]; omega
theorem bytesB_range (l : List Int) : ∀ x ∈ bytesB l, 0 ≤ x ∧ x < 256 := by
  induction l using revInd with
  | nil => intro x hx; cases hx
  | snoc l c ih =>
    intro x hx
    rw [bytesB_snoc] at hx
    split at hx
    · rcases List.mem_append.1 hx with h | h
      · exact ih x h
      · rw [List.mem_singleton] at h; omega
    · rcases List.mem_or_eq_of_mem_set hx with h | h
      · exact ih x h
      · omega
def crcS (l : List Int) : Int := l.foldl (fun r c => crcI r (c - 48)) 0
theorem crcS_snoc (l : List Int) (c : Int) : crcS (l ++ [c]) = crcI (crcS l) (c - 48) := by unfold crcS; rw [List.foldl_append]; rfl
inductive Hd : List Int → Bool → Bool → Int → Prop
  | base (a r z : Int) (I : List Int) (h : I.length = 11) : Hd (a :: I ++ [r, 48, z]) false (r == 49) (V I)
  | ext (a r q z y : Int) (I J : List Int) (h : I.length = 11) (k : J.length = 18) : Hd (a :: I ++ [r, 49] ++ J ++ [q, z, y]) true (q == 49) (V (I ++ J))
def core (s : WS) : Int × Int × Int × Bool × Int × Bool × Int × List Int := (s.field, s.left, s.got, s.ext, s.id, s.rtr, s.dlc, s.data)
inductive Ph : List Int → Int × Int × Int × Bool × Int × Bool × Int × List Int → Int → Prop
  | sof : Ph [] (1, 1, 0, false, 0, false, 0, []) 0
  | ida (a : Int) (I : List Int) (h : I.length < 11) : Ph (a :: I) (2, 11 - I.length, 0, false, V I, false, 0, []) (crcS (a :: I))
  | rtr (a : Int) (I : List Int) (h : I.length = 11) : Ph (a :: I) (3, 1, 0, false, V I, false, 0, []) (crcS (a :: I))
  | ide (a r : Int) (I : List Int) (h : I.length = 11) : Ph (a :: I ++ [r]) (4, 1, 0, false, V I, r == 49, 0, []) (crcS (a :: I ++ [r]))
  | idb (a r : Int) (I J : List Int) (h : I.length = 11) (k : J.length < 18) : Ph (a :: I ++ [r, 49] ++ J) (5, 18 - J.length, 0, true, V (I ++ J), r == 49, 0, []) (crcS (a :: I ++ [r, 49] ++ J))
  | rtrx (a r : Int) (I J : List Int) (h : I.length = 11) (k : J.length = 18) : Ph (a :: I ++ [r, 49] ++ J) (6, 1, 0, true, V (I ++ J), r == 49, 0, []) (crcS (a :: I ++ [r, 49] ++ J))
  | resx (a r q : Int) (I J Z : List Int) (h : I.length = 11) (k : J.length = 18) (z : Z.length < 2) : Ph (a :: I ++ [r, 49] ++ J ++ [q] ++ Z) (7, 2 - Z.length, 0, true, V (I ++ J), q == 49, 0, []) (crcS (a :: I ++ [r, 49] ++ J ++ [q] ++ Z))
  | resb (a r : Int) (I : List Int) (h : I.length = 11) : Ph (a :: I ++ [r, 48]) (7, 1, 0, false, V I, r == 49, 0, []) (crcS (a :: I ++ [r, 48]))
  | dlc (H D : List Int) (e r : Bool) (i : Int) (h : Hd H e r i) (d : D.length < 4) : Ph (H ++ D) (8, 4 - D.length, 0, e, i, r, V D, []) (crcS (H ++ D))
  | data (H D X : List Int) (e r : Bool) (i : Int) (h : Hd H e r i) (d : D.length = 4) (x : (X.length : Int) < 8 * dataB r (V D)) : Ph (H ++ D ++ X) (9, 8 * dataB r (V D) - X.length, 0, e, i, r, V D, bytesB X) (crcS (H ++ D ++ X))
  | crc (H D X C : List Int) (e r : Bool) (i : Int) (h : Hd H e r i) (d : D.length = 4) (x : (X.length : Int) = 8 * dataB r (V D)) (c : C.length < 15) : Ph (H ++ D ++ X ++ C) (10, 15 - C.length, V C, e, i, r, V D, bytesB X) (crcS (H ++ D ++ X))
  | del (H D X C T : List Int) (e r : Bool) (i : Int) (h : Hd H e r i) (d : D.length = 4) (x : (X.length : Int) = 8 * dataB r (V D)) (c : C.length = 15) (t : T.length < 3) : Ph (H ++ D ++ X ++ C ++ T) (11 + T.length, 1, V C, e, i, r, V D, bytesB X) (crcS (H ++ D ++ X))
  | eof (H D X C T : List Int) (e r : Bool) (i : Int) (h : Hd H e r i) (d : D.length = 4) (x : (X.length : Int) = 8 * dataB r (V D)) (c : C.length = 15) (t3 : 3 ≤ T.length) (t : T.length < 10) : Ph (H ++ D ++ X ++ C ++ T) (14, 10 - T.length, V C, e, i, r, V D, bytesB X) (crcS (H ++ D ++ X))
theorem dataB_range {r : Bool} {d : Int} (h : 0 ≤ d) : 0 ≤ dataB r d ∧ dataB r d ≤ 8 := by unfold dataB; split <;> (try split) <;> omega
structure CoreIs (s : WS) (f l g : Int) (e : Bool) (i : Int) (r : Bool) (d : Int) (x : List Int) (m : Int) : Prop where
  f : s.field = f
  l : s.left = l
  g : s.got = g
  e : s.ext = e
  i : s.id = i
  r : s.rtr = r
  d : s.dlc = d
  x : s.data = x
  m : s.sum = m
theorem CoreIs.core {s : WS} {f l g : Int} {e : Bool} {i : Int} {r : Bool} {d : Int} {x : List Int} {m : Int} (h : CoreIs s f l g e i r d x m) : core s = (f, l, g, e, i, r, d, x) ∧ s.sum = m := by
  obtain ⟨rfl, rfl, rfl, rfl, rfl, rfl, rfl, rfl, rfl⟩ := h
  exact ⟨rfl, rfl⟩
theorem core_is {s : WS} {f l g : Int} {e : Bool} {i : Int} {r : Bool} {d : Int} {x : List Int} {m : Int} (h : core s = (f, l, g, e, i, r, d, x)) (hm : s.sum = m) : CoreIs s f l g e i r d x m := by
  unfold P.core at h
  simp only [Prod.mk.injEq] at h
  obtain ⟨h1, h2, h3, h4, h5, h6, h7, h8⟩ := h
  exact ⟨h1, h2, h3, h4, h5, h6, h7, h8, hm⟩
theorem next_is {s : WS} {f l g : Int} {e : Bool} {i : Int} {r : Bool} {d : Int} {x : List Int} {m : Int} (h : CoreIs s f l g e i r d x m) {f' l' : Int} (hn : nextP s = (f', l')) : CoreIs (nextW s) f' l' g e i r d x m := by
  rw [nextW_eq, hn]
  exact ⟨rfl, rfl, h.g, h.e, h.i, h.r, h.d, h.x, h.m⟩
theorem next_more {s : WS} {l : Int} (h : s.left = l) (hl : 1 < l) : nextP s = (s.field, l - 1) := by unfold nextP; rw [if_pos (by omega), h]
theorem next_over {s : WS} {f l : Int} (h : s.left = 1) (hf : s.field = f) (h4 : f ≠ 4 ∨ s.ext = true) (h9 : f + 1 ≠ 9 ∨ dataB s.rtr s.dlc ≠ 0) (hl : enterL s (f + 1) = l) : nextP s = (f + 1, l) := by
  unfold nextP enterP
  rw [if_neg (by omega), if_neg (by rintro ⟨a, b⟩; rcases h4 with h4 | h4; exact h4 (by omega); rw [b] at h4; cases h4), hf, if_neg (by rintro ⟨a, b⟩; rcases h9 with h9 | h9; exact h9 a; exact h9 b), hl]
end Go.Proofs.Ytdoclpgciadjaaa.P

namespace Go.Proofs.Ytdoclpgciadjaaa.P
open Go Go.RowKit Go.Proofs.YtdoclpgciadjaaaW.PrintWords
set_option linter.unusedVariables false
def tk (s : WS) (b : Int) : WS := takeW (sumW s b) b
section
variable {s : WS} {f l g : Int} {e : Bool} {i : Int} {r : Bool} {d : Int} {x : List Int} {m : Int}
theorem CoreIs.of (h : CoreIs s f l g e i r d x m) {f' l' g' : Int} {e' : Bool} {i' : Int} {r' : Bool} {d' : Int} {x' : List Int} {m' : Int} (h1 : f = f') (h2 : l = l') (h3 : g = g') (h4 : e = e') (h5 : i = i') (h6 : r = r') (h7 : d = d') (h8 : x = x') (h9 : m = m') : CoreIs s f' l' g' e' i' r' d' x' m' := by
  subst h1 h2 h3 h4 h5 h6 h7 h8 h9; exact h
theorem sum_in (h : CoreIs s f l g e i r d x m) (hf : f ≤ 9) (b : Int) : sumW s b = { s with sum := crcI s.sum b } := by unfold sumW; rw [if_pos (by have := h.f; omega)]
theorem sum_out (h : CoreIs s f l g e i r d x m) (hf : 9 < f) (b : Int) : sumW s b = s := by unfold sumW; rw [if_neg (by have := h.f; omega)]
theorem tk_sof (h : CoreIs s 1 l g e i r d x m) (b : Int) : CoreIs (tk s b) 1 l g e i r d x (crcI m b) := by
  have h0 := h.f
  have e1 : core (tk s b) = core s ∧ (tk s b).sum = crcI s.sum b := by
    unfold tk takeW; rw [sum_in h (by omega), if_pos (show s.field = 1 from h0)]
    split <;> exact ⟨rfl, rfl⟩
  refine core_is (e1.1.trans h.core.1) (e1.2.trans (by rw [h.m]))
theorem tk_id (h : CoreIs s f l g e i r d x m) (hf : f = 2 ∨ f = 5) (b : Int) : CoreIs (tk s b) f l g e ((2 * i + b) % 4294967296) r d x (crcI m b) := by
  have h0 := h.f
  have e1 : tk s b = { s with sum := crcI s.sum b, id := (2 * s.id + b) % 4294967296 } := by
    unfold tk takeW; rw [sum_in h (by omega), if_neg (show ¬ s.field = 1 by omega), if_pos (show s.field = 2 ∨ s.field = 5 by omega)]
  rw [e1]
  exact ⟨h.f, h.l, h.g, h.e, by simp only [h.i], h.r, h.d, h.x, by simp only [h.m]⟩
theorem tk_rtr (h : CoreIs s f l g e i r d x m) (hf : f = 3 ∨ f = 6) (b : Int) : CoreIs (tk s b) f l g e i (b == 1) d x (crcI m b) := by
  have h0 := h.f
  have e1 : tk s b = { s with sum := crcI s.sum b, rtr := b == 1 } := by
    unfold tk takeW; rw [sum_in h (by omega), if_neg (show ¬ s.field = 1 by omega), if_neg (show ¬ (s.field = 2 ∨ s.field = 5) by omega), if_pos (show s.field = 3 ∨ s.field = 6 by omega)]
  rw [e1]
  exact ⟨h.f, h.l, h.g, h.e, h.i, rfl, h.d, h.x, by simp only [h.m]⟩
theorem tk_ide (h : CoreIs s 4 l g e i r d x m) (b : Int) : CoreIs (tk s b) 4 l g (b == 1) i r d x (crcI m b) := by
  have h0 := h.f
  have e1 : tk s b = { s with sum := crcI s.sum b, ext := b == 1 } := by
    unfold tk takeW; rw [sum_in h (by omega), if_neg (show ¬ s.field = 1 by omega), if_neg (show ¬ (s.field = 2 ∨ s.field = 5) by omega), if_neg (show ¬ (s.field = 3 ∨ s.field = 6) by omega), if_pos (show s.field = 4 from h0)]
  rw [e1]
  exact ⟨h.f, h.l, h.g, rfl, h.i, h.r, h.d, h.x, by simp only [h.m]⟩
theorem tk_res (h : CoreIs s 7 l g e i r d x m) (b : Int) : CoreIs (tk s b) 7 l g e i r d x (crcI m b) := by
  have h0 := h.f
  have e1 : tk s b = { s with sum := crcI s.sum b } := by
    unfold tk takeW; rw [sum_in h (by omega), if_neg (show ¬ s.field = 1 by omega), if_neg (show ¬ (s.field = 2 ∨ s.field = 5) by omega), if_neg (show ¬ (s.field = 3 ∨ s.field = 6) by omega), if_neg (show ¬ s.field = 4 by omega), if_neg (show ¬ s.field = 8 by omega), if_neg (show ¬ s.field = 9 by omega), if_neg (show ¬ s.field = 10 by omega), if_neg (show ¬ s.field = 11 by omega), if_neg (show ¬ s.field = 13 by omega), if_neg (show ¬ s.field = 14 by omega)]
  rw [e1]
  exact ⟨h.f, h.l, h.g, h.e, h.i, h.r, h.d, h.x, by simp only [h.m]⟩
theorem tk_dlc (h : CoreIs s 8 l g e i r d x m) (b : Int) : CoreIs (tk s b) 8 l g e i r (2 * d + b) x (crcI m b) := by
  have h0 := h.f
  have e1 : tk s b = { s with sum := crcI s.sum b, dlc := 2 * s.dlc + b } := by
    unfold tk takeW; rw [sum_in h (by omega), if_neg (show ¬ s.field = 1 by omega), if_neg (show ¬ (s.field = 2 ∨ s.field = 5) by omega), if_neg (show ¬ (s.field = 3 ∨ s.field = 6) by omega), if_neg (show ¬ s.field = 4 by omega), if_pos (show s.field = 8 from h0)]
  rw [e1]
  exact ⟨h.f, h.l, h.g, h.e, h.i, h.r, by simp only [h.d], h.x, by simp only [h.m]⟩
theorem tk_data (h : CoreIs s 9 l g e i r d x m) (b : Int) : CoreIs (tk s b) 9 l g e i r d (dataW s b) (crcI m b) := by
  have h0 := h.f
  have e1 : tk s b = { s with sum := crcI s.sum b, data := dataW s b } := by
    unfold tk; rw [sum_in h (by omega), takeW9 ({ s with sum := crcI s.sum b }) b h0]; rfl
  rw [e1]
  exact ⟨h.f, h.l, h.g, h.e, h.i, h.r, h.d, rfl, by simp only [h.m]⟩
theorem tk_got (h : CoreIs s 10 l g e i r d x m) (b : Int) : CoreIs (tk s b) 10 l (2 * g + b) e i r d x m := by
  have h0 := h.f
  have e1 : tk s b = { s with got := 2 * s.got + b } := by
    unfold tk takeW; rw [sum_out h (by omega), if_neg (show ¬ s.field = 1 by omega), if_neg (show ¬ (s.field = 2 ∨ s.field = 5) by omega), if_neg (show ¬ (s.field = 3 ∨ s.field = 6) by omega), if_neg (show ¬ s.field = 4 by omega), if_neg (show ¬ s.field = 8 by omega), if_neg (show ¬ s.field = 9 by omega), if_pos (show s.field = 10 from h0)]
  rw [e1]
  exact ⟨h.f, h.l, by simp only [h.g], h.e, h.i, h.r, h.d, h.x, h.m⟩
theorem endW_core (s : WS) (b : Int) : core (endW s b) = core s ∧ (endW s b).sum = s.sum := by unfold endW; (repeat' split) <;> exact ⟨rfl, rfl⟩
theorem tk_late (h : CoreIs s f l g e i r d x m) (hf : 11 ≤ f) (b : Int) : CoreIs (tk s b) f l g e i r d x m := by
  have h0 := h.f
  have e1 : core (tk s b) = core s ∧ (tk s b).sum = s.sum := by
    unfold tk takeW; rw [sum_out h (by omega), if_neg (show ¬ s.field = 1 by omega), if_neg (show ¬ (s.field = 2 ∨ s.field = 5) by omega), if_neg (show ¬ (s.field = 3 ∨ s.field = 6) by omega), if_neg (show ¬ s.field = 4 by omega), if_neg (show ¬ s.field = 8 by omega), if_neg (show ¬ s.field = 9 by omega), if_neg (show ¬ s.field = 10 by omega)]
    have := endW_core s b
    (repeat' split) <;> first | exact ⟨rfl, rfl⟩ | exact this
  exact core_is (e1.1.trans h.core.1) (e1.2.trans h.m)
end
theorem bits_len {p : List Int} (h : Bits p) (q : List Int) (hq : ∀ x ∈ q, x ∈ p) : Bits q := fun x hx => h x (hq x hx)
theorem dataW_eq {s : WS} {X : List Int} {n : Int} (b : Int) (hx : s.data = bytesB X) (hl : s.left = 8 * n - X.length) (hb : b = 48 ∨ b = 49) : dataW s (b - 48) = bytesB (X ++ [b]) := by
  have hlen := bytesB_length X
  unfold dataW
  rw [bytesB_snoc, hx]
  by_cases c : X.length % 8 = 0
  · rw [if_pos c, if_pos (by omega)]
    have hl2 : (bytesB X ++ [(0 : Int)]).length - 1 = (bytesB X).length := by simp
    have hr : rd (bytesB X ++ [(0 : Int)]) (((bytesB X ++ [(0 : Int)]).length : Int) - 1) = 0 := by
      rw [List.length_append, List.length_singleton, show (((bytesB X).length + 1 : Nat) : Int) - 1 = ((bytesB X).length : Int) by omega, rd_snoc, if_neg (by omega), if_pos rfl]
    simp only [hl2, hr]
    rw [List.set_append_right _ _ (Nat.le_refl _), Nat.sub_self]
    simp
  · rw [if_neg c, if_neg (by omega)]
theorem ph_step {p : List Int} {c : Int × Int × Int × Bool × Int × Bool × Int × List Int} {m : Int} (h : Ph p c m) (s : WS) (hs : core s = c) (hm : s.sum = m) (b : Int) (hb : b = 48 ∨ b = 49) (hp : Bits p) (hend : ¬ (s.field = 14 ∧ s.left = 1)) :
    ∃ c' m', Ph (p ++ [b]) c' m' ∧ core (plainW s (b - 48)) = c' ∧ (plainW s (b - 48)).sum = m' := by
  have fin : ∀ {q : List Int} {f l g : Int} {e : Bool} {i : Int} {r : Bool} {d : Int} {x : List Int} {m' : Int}, p ++ [b] = q → Ph q (f, l, g, e, i, r, d, x) m' → CoreIs (plainW s (b - 48)) f l g e i r d x m' → ∃ c' m', Ph (p ++ [b]) c' m' ∧ core (plainW s (b - 48)) = c' ∧ (plainW s (b - 48)).sum = m' := by
    intro q f l g e i r d x m' hq hP hC
    exact ⟨_, _, hq ▸ hP, hC.core.1, hC.core.2⟩
  have b1 : ((b - 48 : Int) == 1) = (b == 49) := by rcases hb with rfl | rfl <;> rfl
  have hpl : plainW s (b - 48) = nextW (tk s (b - 48)) := rfl
  rw [hpl] at fin ⊢
  cases h with
  | sof =>
    have C := core_is hs hm
    have T := tk_sof C (b - 48)
    exact fin rfl (Ph.ida b [] (by decide)) ((next_is T (next_over T.l T.f (.inl (by omega)) (.inl (by omega)) rfl)).of rfl rfl rfl rfl rfl rfl rfl rfl (by rw [show [b] = [] ++ [b] from rfl, crcS_snoc]; rfl))
  | ida a I h =>
    have C := core_is hs hm
    have T := tk_id C (.inl rfl) (b - 48)
    have hI := V_lt (bits_len hp I (fun x hx => List.mem_cons_of_mem _ hx)) (n := 20) (by omega) rfl
    have hI0 := (V_range (bits_len hp I (fun x hx => List.mem_cons_of_mem _ hx))).1
    have hv : (2 * V I + (b - 48)) % 4294967296 = V (I ++ [b]) := by rw [V_snoc]; omega
    by_cases c : I.length = 10
    · exact fin rfl (Ph.rtr a (I ++ [b]) (by simp; omega)) ((next_is T (next_over (by rw [T.l]; omega) T.f (.inl (by omega)) (.inl (by omega)) rfl)).of rfl rfl rfl rfl hv rfl rfl rfl (crcS_snoc _ _).symm)
    · exact fin rfl (Ph.ida a (I ++ [b]) (by simp; omega)) ((next_is T (next_more T.l (by omega))).of T.f (by simp; omega) rfl rfl hv rfl rfl rfl (crcS_snoc _ _).symm)
  | rtr a I h =>
    have C := core_is hs hm
    have T := tk_rtr C (.inl rfl) (b - 48)
    exact fin rfl (Ph.ide a b I h) ((next_is T (next_over T.l T.f (.inl (by omega)) (.inl (by omega)) rfl)).of rfl rfl rfl rfl rfl b1 rfl rfl (crcS_snoc _ _).symm)
  | ide a r I h =>
    have C := core_is hs hm
    have T := tk_ide C (b - 48)
    rcases hb with rfl | rfl
    · refine fin (q := a :: I ++ [r, 48]) (by simp) (Ph.resb a r I h) ((next_is (f' := 7) (l' := 1) T ?_).of rfl rfl rfl rfl rfl rfl rfl rfl (by rw [← crcS_snoc]; simp))
      unfold nextP enterP
      rw [if_neg (by rw [T.l]; omega), if_pos ⟨T.f, T.e⟩, if_neg (fun h => by have := h.1; omega)]
      unfold enterL
      rw [T.e]; rfl
    · exact fin (q := a :: I ++ [r, 49] ++ []) (by simp) (Ph.idb a r I [] h (by decide)) ((next_is T (next_over T.l T.f (.inr T.e) (.inl (by omega)) rfl)).of rfl rfl rfl rfl (by simp) rfl rfl rfl (by rw [← crcS_snoc]; simp))
  | idb a r I J h k =>
    have C := core_is hs hm
    have T := tk_id C (.inr rfl) (b - 48)
    have hbij : Bits (I ++ J) := bits_len hp _ (fun x hx => by rcases List.mem_append.1 hx with h2 | h2 <;> simp [h2])
    have hI := V_lt hbij (n := 29) (by simp; omega) rfl
    have hI0 := (V_range hbij).1
    have hv : (2 * V (I ++ J) + (b - 48)) % 4294967296 = V (I ++ (J ++ [b])) := by rw [← List.append_assoc, V_snoc]; omega
    have hcr : crcI (crcS (a :: I ++ [r, 49] ++ J)) (b - 48) = crcS (a :: I ++ [r, 49] ++ (J ++ [b])) := by rw [← crcS_snoc]; simp
    by_cases c : J.length = 17
    · exact fin (q := a :: I ++ [r, 49] ++ (J ++ [b])) (by simp) (Ph.rtrx a r I (J ++ [b]) h (by simp; omega)) ((next_is T (next_over (by rw [T.l]; omega) T.f (.inl (by omega)) (.inl (by omega)) rfl)).of rfl rfl rfl rfl hv rfl rfl rfl hcr)
    · exact fin (q := a :: I ++ [r, 49] ++ (J ++ [b])) (by simp) (Ph.idb a r I (J ++ [b]) h (by simp; omega)) ((next_is T (next_more T.l (by omega))).of T.f (by simp; omega) rfl rfl hv rfl rfl rfl hcr)
  | rtrx a r I J h k =>
    have C := core_is hs hm
    have T := tk_rtr C (.inr rfl) (b - 48)
    refine fin (q := a :: I ++ [r, 49] ++ J ++ [b] ++ []) (by simp) (Ph.resx a r b I J [] h k (by decide)) ((next_is (f' := 7) (l' := 2) T ?_).of rfl rfl rfl rfl rfl b1 rfl rfl (by rw [← crcS_snoc]; simp))
    refine next_over (f := 6) T.l T.f (.inl (by omega)) (.inl (by omega)) ?_
    show enterL _ 7 = 2
    unfold enterL
    rw [T.e]; rfl
  | resx a r q I J Z h k z =>
    have C := core_is hs hm
    have T := tk_res C (b - 48)
    by_cases c : Z.length = 0
    · obtain rfl := List.eq_nil_of_length_eq_zero c
      exact fin (q := a :: I ++ [r, 49] ++ J ++ [q] ++ [b]) (by simp) (Ph.resx a r q I J [b] h k (by simp)) ((next_is T (next_more T.l (by simp))).of T.f (by simp) rfl rfl rfl rfl rfl rfl (by rw [← crcS_snoc]; simp))
    · obtain ⟨z0, rfl⟩ : ∃ z0, Z = [z0] := List.length_eq_one_iff.1 (by omega)
      exact fin (q := (a :: I ++ [r, 49] ++ J ++ [q, z0, b]) ++ []) (by simp) (Ph.dlc _ [] true (q == 49) _ (Hd.ext a r q z0 b I J h k) (by decide)) ((next_is T (next_over (by rw [T.l]; rfl) T.f (.inl (by omega)) (.inl (by omega)) rfl)).of rfl rfl rfl rfl rfl rfl rfl rfl (by rw [← crcS_snoc]; simp))
  | resb a r I h =>
    have C := core_is hs hm
    have T := tk_res C (b - 48)
    exact fin (q := (a :: I ++ [r, 48, b]) ++ []) (by simp) (Ph.dlc _ [] false (r == 49) _ (Hd.base a r b I h) (by decide)) ((next_is T (next_over T.l T.f (.inl (by omega)) (.inl (by omega)) rfl)).of rfl rfl rfl rfl rfl rfl rfl rfl (by rw [← crcS_snoc]; simp))
  | dlc H D e r i h d =>
    have C := core_is hs hm
    have T := tk_dlc C (b - 48)
    have hv : 2 * V D + (b - 48) = V (D ++ [b]) := (V_snoc _ _).symm
    have hcr : crcI (crcS (H ++ D)) (b - 48) = crcS (H ++ (D ++ [b])) := by rw [← crcS_snoc]; simp
    have hd0 : 0 ≤ V (D ++ [b]) := (V_range (l := D ++ [b]) (fun x hx => by rcases List.mem_append.1 hx with h2 | h2; exact hp x (List.mem_append_right _ h2); rw [List.mem_singleton] at h2; rw [h2]; exact hb)).1
    by_cases c : D.length = 3
    · have hd4 : (D ++ [b]).length = 4 := by simp; omega
      by_cases cz : dataB r (V (D ++ [b])) = 0
      · refine fin (q := H ++ (D ++ [b]) ++ [] ++ []) (by simp) (Ph.crc H (D ++ [b]) [] [] e r i h hd4 (by rw [cz]; rfl) (by decide)) ((next_is (f' := 10) (l' := 15) T ?_).of rfl rfl rfl rfl rfl rfl hv rfl (by rw [hcr]; simp))
        unfold nextP enterP
        rw [if_neg (by rw [T.l]; omega), if_neg (by rw [T.f]; omega), if_pos ⟨by rw [T.f]; rfl, by rw [T.r, T.d, hv]; exact cz⟩]
      · have hr := dataB_range (r := r) hd0
        refine fin (q := H ++ (D ++ [b]) ++ []) (by simp) (Ph.data H (D ++ [b]) [] e r i h hd4 (by simp; omega)) ((next_is (f' := 9) (l' := 8 * dataB r (V (D ++ [b]))) T ?_).of rfl (by simp) rfl rfl rfl rfl hv rfl (by rw [hcr]; simp))
        refine next_over (f := 8) (by rw [T.l]; omega) T.f (.inl (by omega)) (.inr (by rw [T.r, T.d, hv]; exact cz)) ?_
        show enterL _ 9 = _
        unfold enterL
        rw [T.r, T.d, hv]; rfl
    · exact fin (q := H ++ (D ++ [b])) (by simp) (Ph.dlc H (D ++ [b]) e r i h (by simp; omega)) ((next_is T (next_more T.l (by omega))).of T.f (by simp; omega) rfl rfl rfl rfl hv rfl hcr)
  | data H D X e r i h d x =>
    have C := core_is hs hm
    have T := tk_data C (b - 48)
    have hx := dataW_eq (s := s) (n := dataB r (V D)) b C.x C.l hb
    have hcr : crcI (crcS (H ++ D ++ X)) (b - 48) = crcS (H ++ D ++ (X ++ [b])) := by rw [← crcS_snoc]; simp
    by_cases c : (X.length : Int) + 1 = 8 * dataB r (V D)
    · exact fin (q := H ++ D ++ (X ++ [b]) ++ []) (by simp) (Ph.crc H D (X ++ [b]) [] e r i h d (by simp; omega) (by decide)) ((next_is T (next_over (by rw [T.l]; omega) T.f (.inl (by omega)) (.inl (by omega)) rfl)).of rfl rfl rfl rfl rfl rfl rfl hx hcr)
    · exact fin (q := H ++ D ++ (X ++ [b])) (by simp) (Ph.data H D (X ++ [b]) e r i h d (by simp; omega)) ((next_is T (next_more T.l (by omega))).of T.f (by simp; omega) rfl rfl rfl rfl rfl hx hcr)
  | crc H D X C0 e r i h d x c =>
    have C := core_is hs hm
    have T := tk_got C (b - 48)
    have hv : 2 * V C0 + (b - 48) = V (C0 ++ [b]) := (V_snoc _ _).symm
    by_cases cc : C0.length = 14
    · exact fin (q := H ++ D ++ X ++ (C0 ++ [b]) ++ []) (by simp) (Ph.del H D X (C0 ++ [b]) [] e r i h d x (by simp; omega) (by decide)) ((next_is T (next_over (by rw [T.l]; omega) T.f (.inl (by omega)) (.inl (by omega)) rfl)).of rfl rfl hv rfl rfl rfl rfl rfl rfl)
    · exact fin (q := H ++ D ++ X ++ (C0 ++ [b])) (by simp) (Ph.crc H D X (C0 ++ [b]) e r i h d x (by simp; omega)) ((next_is T (next_more T.l (by omega))).of T.f (by simp; omega) hv rfl rfl rfl rfl rfl rfl)
  | del H D X C0 T0 e r i h d x c t =>
    have C := core_is hs hm
    have T := tk_late C (by omega) (b - 48)
    by_cases cc : T0.length = 2
    · refine fin (q := H ++ D ++ X ++ C0 ++ (T0 ++ [b])) (by simp) (Ph.eof H D X C0 (T0 ++ [b]) e r i h d x c (by simp; omega) (by simp; omega)) ((next_is (f' := 14) (l' := 7) T ?_).of rfl (by simp; omega) rfl rfl rfl rfl rfl rfl rfl)
      refine (next_over (f := 13) T.l (by rw [T.f]; omega) (.inl (by omega)) (.inl (by omega)) ?_)
      rfl
    · refine fin (q := H ++ D ++ X ++ C0 ++ (T0 ++ [b])) (by simp) (Ph.del H D X C0 (T0 ++ [b]) e r i h d x c (by simp; omega)) ((next_is (f' := 11 + T0.length + 1) (l' := 1) T ?_).of (by simp; omega) rfl rfl rfl rfl rfl rfl rfl rfl)
      refine (next_over (f := 11 + T0.length) T.l T.f (.inl (by omega)) (.inl (by omega)) ?_)
      unfold enterL
      rw [if_neg (by omega), if_neg (by omega), if_neg (by omega), if_neg (by omega), if_neg (by omega), if_neg (by omega), if_neg (by omega)]
  | eof H D X C0 T0 e r i h d x c t3 t =>
    have C := core_is hs hm
    have T := tk_late C (by omega) (b - 48)
    have hl := C.l
    have hf := C.f
    exact fin (q := H ++ D ++ X ++ C0 ++ (T0 ++ [b])) (by simp) (Ph.eof H D X C0 (T0 ++ [b]) e r i h d x c (by simp; omega) (by simp; omega)) ((next_is T (next_more T.l (by omega))).of T.f (by simp; omega) rfl rfl rfl rfl rfl rfl rfl)
end Go.Proofs.Ytdoclpgciadjaaa.P

namespace Go.Proofs.Ytdoclpgciadjaaa.P
open Go Go.RowKit Go.Proofs.YtdoclpgciadjaaaW.PrintWords
set_option linter.unusedVariables false
structure Trail (l : List Int) (n run : Nat) (last : Int) : Prop where
  le : n ≤ l.length
  run_le : run ≤ n
  same : ∀ j, n - run ≤ j → j < n → rd l (j : Int) = last
  other : run < n → rd l ((n - run - 1 : Nat) : Int) ≠ last
  pos : 0 < n → 0 < run
theorem Trail.zero (l : List Int) (last : Int) : Trail l 0 0 last := ⟨Nat.zero_le _, Nat.le_refl _, fun j _ h => absurd h (Nat.not_lt_zero j), fun h => absurd h (Nat.lt_irrefl _), fun h => absurd h (Nat.lt_irrefl _)⟩
theorem Trail.next {l : List Int} {n run : Nat} {last : Int} (h : Trail l n run last) (hn : n < l.length) : Trail l (n + 1) (if rd l (n : Int) = last then run + 1 else 1) (rd l (n : Int)) := by
  have hr := h.run_le
  by_cases c : rd l (n : Int) = last
  · rw [if_pos c]
    refine ⟨by omega, by omega, fun j h1 h2 => ?_, fun h1 => ?_, fun _ => by omega⟩
    · by_cases e : j = n
      · rw [e]
      · rw [h.same j (by omega) (by omega), c]
    · rw [show n + 1 - (run + 1) - 1 = n - run - 1 by omega, c]
      exact h.other (by omega)
  · rw [if_neg c]
    refine ⟨by omega, by omega, fun j h1 h2 => ?_, fun h1 => ?_, fun _ => by omega⟩
    · rw [show j = n by omega]
    · rw [show n + 1 - 1 - 1 = n - 1 by omega]
      have hp := h.pos (by omega)
      rw [h.same (n - 1) (by omega) (by omega)]
      exact fun e => c e.symm
theorem rd_append (l m : List Int) (j : Nat) (h : j < l.length) : rd (l ++ m) (j : Int) = rd l (j : Int) := by
  unfold rd
  rw [Int.toNat_natCast, List.getD_eq_getElem?_getD, List.getD_eq_getElem?_getD, List.getElem?_append_left h]
theorem rd_last (l : List Int) (c : Int) : rd (l ++ [c]) (l.length : Int) = c := by
  rw [rd_snoc, if_neg (Nat.lt_irrefl _), if_pos rfl]
theorem Trail.append {l : List Int} {n run : Nat} {last : Int} (h : Trail l n run last) (m : List Int) : Trail (l ++ m) n run last := by
  have := h.le
  refine ⟨by rw [List.length_append]; omega, h.run_le, fun j h1 h2 => ?_, fun h1 => ?_, h.pos⟩
  · rw [rd_append l m j (by omega)]; exact h.same j h1 h2
  · rw [rd_append l m _ (by omega)]; exact h.other h1
theorem Trail.snoc {l : List Int} {run : Nat} {last : Int} (h : Trail l l.length run last) (c : Int) : Trail (l ++ [c]) (l.length + 1) (if c = last then run + 1 else 1) c := by
  have h1 := (h.append [c]).next (by simp)
  rw [rd_last] at h1
  exact h1
theorem Trail.five {l : List Int} {n run : Nat} {last : Int} (h : Trail l n run last) (h5 : run ≤ 5) (hn : 5 ≤ n) :
    (run = 5 ↔ (rd l ((n - 1 : Nat) : Int) = rd l ((n - 2 : Nat) : Int) ∧ rd l ((n - 2 : Nat) : Int) = rd l ((n - 3 : Nat) : Int) ∧ rd l ((n - 3 : Nat) : Int) = rd l ((n - 4 : Nat) : Int) ∧ rd l ((n - 4 : Nat) : Int) = rd l ((n - 5 : Nat) : Int))) := by
  have hp := h.pos (by omega)
  have e1 := h.same (n - 1) (by omega) (by omega)
  constructor
  · intro e
    subst e
    have e2 := h.same (n - 2) (by omega) (by omega)
    have e3 := h.same (n - 3) (by omega) (by omega)
    have e4 := h.same (n - 4) (by omega) (by omega)
    have e5 := h.same (n - 5) (by omega) (by omega)
    rw [e1, e2, e3, e4, e5]
    exact ⟨rfl, rfl, rfl, rfl⟩
  · rintro ⟨a1, a2, a3, a4⟩
    rcases Nat.lt_or_ge run 5 with hlt | hge
    · exfalso
      have ho := h.other (by omega)
      have hc : run = 1 ∨ run = 2 ∨ run = 3 ∨ run = 4 := by omega
      rcases hc with rfl | rfl | rfl | rfl
      · exact ho (by rw [show n - 1 - 1 = n - 2 by omega, ← a1, e1])
      · exact ho (by rw [show n - 2 - 1 = n - 3 by omega, ← a2, ← a1, e1])
      · exact ho (by rw [show n - 3 - 1 = n - 4 by omega, ← a3, ← a2, ← a1, e1])
      · exact ho (by rw [show n - 4 - 1 = n - 5 by omega, ← a4, ← a3, ← a2, ← a1, e1])
    · omega
end Go.Proofs.Ytdoclpgciadjaaa.P

namespace Go.Proofs.Ytdoclpgciadjaaa.P
open Go.RowKit Go.Proofs.YtdoclpgciadjaaaW.PrintWords Go.Proofs.YtdoclpgciadjaaaW.PrintLast Go.Proofs.YtdoclpgciadjaaaW.PrintMore
set_option linter.unusedVariables false
set_option linter.unusedSimpArgs false
def spec_l1due.f (l0 : List Int) (a1 : Int) : Option (Bool) := if a1 < 5 then (some false) else (if 0 ≤ (wrap64 (a1 - 1)) then (if (wrap64 (a1 - 1)) < (l0.length : Int) then (if 0 ≤ (wrap64 (a1 - 2)) then (if (wrap64 (a1 - 2)) < (l0.length : Int) then (if (rd l0 (wrap64 (a1 - 1))) = (rd l0 (wrap64 (a1 - 2))) then (if 0 ≤ (wrap64 (a1 - 3)) then (if (wrap64 (a1 - 3)) < (l0.length : Int) then (if (rd l0 (wrap64 (a1 - 2))) = (rd l0 (wrap64 (a1 - 3))) then (if 0 ≤ (wrap64 (a1 - 4)) then (if (wrap64 (a1 - 4)) < (l0.length : Int) then (if (rd l0 (wrap64 (a1 - 3))) = (rd l0 (wrap64 (a1 - 4))) then (if 0 ≤ (wrap64 (a1 - 5)) then (if (wrap64 (a1 - 5)) < (l0.length : Int) then (some ((rd l0 (wrap64 (a1 - 4))) == (rd l0 (wrap64 (a1 - 5))))) else (none)) else (none)) else (some false)) else (none)) else (none)) else (some false)) else (none)) else (none)) else (some false)) else (none)) else (none)) else (none)) else (none))
set_option maxHeartbeats 8000000 in
set_option maxRecDepth 100000 in
theorem spec_l1due.calls (A0 : Option Addr) (c0 : Nat) (l0 : List Int) (a1 : Int) (r : Bool) (w : World) (hr0 : Kd.C (Kd.int .u8) w A0 l0.length l0) (hc0 : l0.length ≤ c0) (h : spec_l1due.f l0 a1 = some r) :
    Calls Try.prog 139 #[.slice A0 l0.length c0, .int .i64 a1] w fun e w' => e = .returned (.bool r) ∧ Drawn0 w w' := by
  have HR0 := Aside0.mk hr0
  have HC0 := Aside0.mk hc0
  clear hr0 hc0
  have H : (if a1 < 5 then (some false) else (if 0 ≤ (wrap64 (a1 - 1)) then (if (wrap64 (a1 - 1)) < (l0.length : Int) then (if 0 ≤ (wrap64 (a1 - 2)) then (if (wrap64 (a1 - 2)) < (l0.length : Int) then (if (rd l0 (wrap64 (a1 - 1))) = (rd l0 (wrap64 (a1 - 2))) then (if 0 ≤ (wrap64 (a1 - 3)) then (if (wrap64 (a1 - 3)) < (l0.length : Int) then (if (rd l0 (wrap64 (a1 - 2))) = (rd l0 (wrap64 (a1 - 3))) then (if 0 ≤ (wrap64 (a1 - 4)) then (if (wrap64 (a1 - 4)) < (l0.length : Int) then (if (rd l0 (wrap64 (a1 - 3))) = (rd l0 (wrap64 (a1 - 4))) then (if 0 ≤ (wrap64 (a1 - 5)) then (if (wrap64 (a1 - 5)) < (l0.length : Int) then (some ((rd l0 (wrap64 (a1 - 4))) == (rd l0 (wrap64 (a1 - 5))))) else (none)) else (none)) else (some false)) else (none)) else (none)) else (some false)) else (none)) else (none)) else (some false)) else (none)) else (none)) else (none)) else (none))) = some r := h
  clear h
  by_cases c3 : a1 < 5
  · rw [if_pos c3] at H
    have c3b0 : decide (a1 < 5) = true := decide_eq_true c3
    clear c3
    obtain rfl := Option.some.inj H
    go_enter Try.func139, Try.ntmps139
    go_wp2
    repeat (go_quiet (fail); try go_wp2)
    go_ret
    exact ⟨by first | rfl | (simp; done) | (simp [*]; done), by repeat (first | exact Drawn0.refl _ | apply Drawn0.step)⟩
  · rw [if_neg c3] at H
    have c3b0 : decide (a1 < 5) = false := decide_eq_false c3
    clear c3
    obtain ⟨ji4, hji4⟩ : ∃ j_ : Int, (wrap64 (a1 - 1)) = j_ := ⟨_, rfl⟩
    replace H : (if 0 ≤ (ji4) then (if (ji4) < (l0.length : Int) then (if 0 ≤ (wrap64 (a1 - 2)) then (if (wrap64 (a1 - 2)) < (l0.length : Int) then (if (rd l0 (ji4)) = (rd l0 (wrap64 (a1 - 2))) then (if 0 ≤ (wrap64 (a1 - 3)) then (if (wrap64 (a1 - 3)) < (l0.length : Int) then (if (rd l0 (wrap64 (a1 - 2))) = (rd l0 (wrap64 (a1 - 3))) then (if 0 ≤ (wrap64 (a1 - 4)) then (if (wrap64 (a1 - 4)) < (l0.length : Int) then (if (rd l0 (wrap64 (a1 - 3))) = (rd l0 (wrap64 (a1 - 4))) then (if 0 ≤ (wrap64 (a1 - 5)) then (if (wrap64 (a1 - 5)) < (l0.length : Int) then (some ((rd l0 (wrap64 (a1 - 4))) == (rd l0 (wrap64 (a1 - 5))))) else (none)) else (none)) else (some false)) else (none)) else (none)) else (some false)) else (none)) else (none)) else (some false)) else (none)) else (none)) else (none)) else (none)) = some r := by first | (rw [hji4] at H; exact H) | (simp only [hji4] at H ⊢; exact H)
    have hji4w : (IntKind.i64.wrap (a1 - 1)) = ji4 := (i64_w _).trans hji4
    by_cases c5 : 0 ≤ (ji4)
    · rw [if_pos c5] at H
      have c5b0 : decide (0 ≤ (ji4)) = true := decide_eq_true c5
      clear c5
      by_cases c6 : (ji4) < (l0.length : Int)
      · rw [if_pos c6] at H
        have c6b0 : decide ((ji4) < (l0.length : Int)) = true := decide_eq_true c6
        clear c6
        obtain ⟨ji7, hji7⟩ : ∃ j_ : Int, (wrap64 (a1 - 2)) = j_ := ⟨_, rfl⟩
        replace H : (if 0 ≤ (ji7) then (if (ji7) < (l0.length : Int) then (if (rd l0 (ji4)) = (rd l0 (ji7)) then (if 0 ≤ (wrap64 (a1 - 3)) then (if (wrap64 (a1 - 3)) < (l0.length : Int) then (if (rd l0 (ji7)) = (rd l0 (wrap64 (a1 - 3))) then (if 0 ≤ (wrap64 (a1 - 4)) then (if (wrap64 (a1 - 4)) < (l0.length : Int) then (if (rd l0 (wrap64 (a1 - 3))) = (rd l0 (wrap64 (a1 - 4))) then (if 0 ≤ (wrap64 (a1 - 5)) then (if (wrap64 (a1 - 5)) < (l0.length : Int) then (some ((rd l0 (wrap64 (a1 - 4))) == (rd l0 (wrap64 (a1 - 5))))) else (none)) else (none)) else (some false)) else (none)) else (none)) else (some false)) else (none)) else (none)) else (some false)) else (none)) else (none)) = some r := by first | (rw [hji7] at H; exact H) | (simp only [hji7] at H ⊢; exact H)
        have hji7w : (IntKind.i64.wrap (a1 - 2)) = ji7 := (i64_w _).trans hji7
        by_cases c8 : 0 ≤ (ji7)
        · rw [if_pos c8] at H
          have c8b0 : decide (0 ≤ (ji7)) = true := decide_eq_true c8
          clear c8
          by_cases c9 : (ji7) < (l0.length : Int)
          · rw [if_pos c9] at H
            have c9b0 : decide ((ji7) < (l0.length : Int)) = true := decide_eq_true c9
            clear c9
            by_cases c10 : (rd l0 (ji4)) = (rd l0 (ji7))
            · rw [if_pos c10] at H
              have c10b0 : ((rd l0 (ji4)) == (rd l0 (ji7))) = true := beq_iff_eq.mpr c10
              have c10b1 : ((rd l0 (ji4)) != (rd l0 (ji7))) = false := bne_eq_false_iff_eq.mpr c10
              clear c10
              obtain ⟨ji11, hji11⟩ : ∃ j_ : Int, (wrap64 (a1 - 3)) = j_ := ⟨_, rfl⟩
              replace H : (if 0 ≤ (ji11) then (if (ji11) < (l0.length : Int) then (if (rd l0 (ji7)) = (rd l0 (ji11)) then (if 0 ≤ (wrap64 (a1 - 4)) then (if (wrap64 (a1 - 4)) < (l0.length : Int) then (if (rd l0 (ji11)) = (rd l0 (wrap64 (a1 - 4))) then (if 0 ≤ (wrap64 (a1 - 5)) then (if (wrap64 (a1 - 5)) < (l0.length : Int) then (some ((rd l0 (wrap64 (a1 - 4))) == (rd l0 (wrap64 (a1 - 5))))) else (none)) else (none)) else (some false)) else (none)) else (none)) else (some false)) else (none)) else (none)) = some r := by first | (rw [hji11] at H; exact H) | (simp only [hji11] at H ⊢; exact H)
              have hji11w : (IntKind.i64.wrap (a1 - 3)) = ji11 := (i64_w _).trans hji11
              by_cases c12 : 0 ≤ (ji11)
              · rw [if_pos c12] at H
                have c12b0 : decide (0 ≤ (ji11)) = true := decide_eq_true c12
                clear c12
                by_cases c13 : (ji11) < (l0.length : Int)
                · rw [if_pos c13] at H
                  have c13b0 : decide ((ji11) < (l0.length : Int)) = true := decide_eq_true c13
                  clear c13
                  by_cases c14 : (rd l0 (ji7)) = (rd l0 (ji11))
                  · rw [if_pos c14] at H
                    have c14b0 : ((rd l0 (ji7)) == (rd l0 (ji11))) = true := beq_iff_eq.mpr c14
                    have c14b1 : ((rd l0 (ji7)) != (rd l0 (ji11))) = false := bne_eq_false_iff_eq.mpr c14
                    clear c14
                    obtain ⟨ji15, hji15⟩ : ∃ j_ : Int, (wrap64 (a1 - 4)) = j_ := ⟨_, rfl⟩
                    replace H : (if 0 ≤ (ji15) then (if (ji15) < (l0.length : Int) then (if (rd l0 (ji11)) = (rd l0 (ji15)) then (if 0 ≤ (wrap64 (a1 - 5)) then (if (wrap64 (a1 - 5)) < (l0.length : Int) then (some ((rd l0 (ji15)) == (rd l0 (wrap64 (a1 - 5))))) else (none)) else (none)) else (some false)) else (none)) else (none)) = some r := by first | (rw [hji15] at H; exact H) | (simp only [hji15] at H ⊢; exact H)
                    have hji15w : (IntKind.i64.wrap (a1 - 4)) = ji15 := (i64_w _).trans hji15
                    by_cases c16 : 0 ≤ (ji15)
                    · rw [if_pos c16] at H
                      have c16b0 : decide (0 ≤ (ji15)) = true := decide_eq_true c16
                      clear c16
                      by_cases c17 : (ji15) < (l0.length : Int)
                      · rw [if_pos c17] at H
                        have c17b0 : decide ((ji15) < (l0.length : Int)) = true := decide_eq_true c17
                        clear c17
                        by_cases c18 : (rd l0 (ji11)) = (rd l0 (ji15))
                        · rw [if_pos c18] at H
                          have c18b0 : ((rd l0 (ji11)) == (rd l0 (ji15))) = true := beq_iff_eq.mpr c18
                          have c18b1 : ((rd l0 (ji11)) != (rd l0 (ji15))) = false := bne_eq_false_iff_eq.mpr c18
                          clear c18
                          obtain ⟨ji19, hji19⟩ : ∃ j_ : Int, (wrap64 (a1 - 5)) = j_ := ⟨_, rfl⟩
                          replace H : (if 0 ≤ (ji19) then (if (ji19) < (l0.length : Int) then (some ((rd l0 (ji15)) == (rd l0 (ji19)))) else (none)) else (none)) = some r := by first | (rw [hji19] at H; exact H) | (simp only [hji19] at H ⊢; exact H)
                          have hji19w : (IntKind.i64.wrap (a1 - 5)) = ji19 := (i64_w _).trans hji19
                          by_cases c20 : 0 ≤ (ji19)
                          · rw [if_pos c20] at H
                            have c20b0 : decide (0 ≤ (ji19)) = true := decide_eq_true c20
                            clear c20
                            by_cases c21 : (ji19) < (l0.length : Int)
                            · rw [if_pos c21] at H
                              have c21b0 : decide ((ji19) < (l0.length : Int)) = true := decide_eq_true c21
                              clear c21
                              obtain rfl := Option.some.inj H
                              have p179 : 0 ≤ ((ji4) : Int) := of_decide_eq_true (by first | (with_reducible assumption) | assumption)
                              have q179 : (ji4) < (l0.length : Int) := of_decide_eq_true (by first | (with_reducible assumption) | assumption)
                              obtain ⟨ad179, e179, hx179_0⟩ := Kd.at_int HR0.out (ji4) p179 q179
                              cases e179
                              replace p179 := eq_true p179
                              replace q179 := eq_true q179
                              have p180 : 0 ≤ ((ji7) : Int) := of_decide_eq_true (by first | (with_reducible assumption) | assumption)
                              have q180 : (ji7) < (l0.length : Int) := of_decide_eq_true (by first | (with_reducible assumption) | assumption)
                              obtain ⟨ad180, e180, hx180_0⟩ := Kd.at_int HR0.out (ji7) p180 q180
                              obtain rfl : ad179 = ad180 := (by injection e180)
                              replace p180 := eq_true p180
                              replace q180 := eq_true q180
                              have p181 : 0 ≤ ((ji7) : Int) := of_decide_eq_true (by first | (with_reducible assumption) | assumption)
                              have q181 : (ji7) < (l0.length : Int) := of_decide_eq_true (by first | (with_reducible assumption) | assumption)
                              obtain ⟨ad181, e181, hx181_0⟩ := Kd.at_int HR0.out (ji7) p181 q181
                              obtain rfl : ad179 = ad181 := (by injection e181)
                              replace p181 := eq_true p181
                              replace q181 := eq_true q181
                              have p182 : 0 ≤ ((ji11) : Int) := of_decide_eq_true (by first | (with_reducible assumption) | assumption)
                              have q182 : (ji11) < (l0.length : Int) := of_decide_eq_true (by first | (with_reducible assumption) | assumption)
                              obtain ⟨ad182, e182, hx182_0⟩ := Kd.at_int HR0.out (ji11) p182 q182
                              obtain rfl : ad179 = ad182 := (by injection e182)
                              replace p182 := eq_true p182
                              replace q182 := eq_true q182
                              have p183 : 0 ≤ ((ji11) : Int) := of_decide_eq_true (by first | (with_reducible assumption) | assumption)
                              have q183 : (ji11) < (l0.length : Int) := of_decide_eq_true (by first | (with_reducible assumption) | assumption)
                              obtain ⟨ad183, e183, hx183_0⟩ := Kd.at_int HR0.out (ji11) p183 q183
                              obtain rfl : ad179 = ad183 := (by injection e183)
                              replace p183 := eq_true p183
                              replace q183 := eq_true q183
                              have p184 : 0 ≤ ((ji15) : Int) := of_decide_eq_true (by first | (with_reducible assumption) | assumption)
                              have q184 : (ji15) < (l0.length : Int) := of_decide_eq_true (by first | (with_reducible assumption) | assumption)
                              obtain ⟨ad184, e184, hx184_0⟩ := Kd.at_int HR0.out (ji15) p184 q184
                              obtain rfl : ad179 = ad184 := (by injection e184)
                              replace p184 := eq_true p184
                              replace q184 := eq_true q184
                              have p185 : 0 ≤ ((ji15) : Int) := of_decide_eq_true (by first | (with_reducible assumption) | assumption)
                              have q185 : (ji15) < (l0.length : Int) := of_decide_eq_true (by first | (with_reducible assumption) | assumption)
                              obtain ⟨ad185, e185, hx185_0⟩ := Kd.at_int HR0.out (ji15) p185 q185
                              obtain rfl : ad179 = ad185 := (by injection e185)
                              replace p185 := eq_true p185
                              replace q185 := eq_true q185
                              have p186 : 0 ≤ ((ji19) : Int) := of_decide_eq_true (by first | (with_reducible assumption) | assumption)
                              have q186 : (ji19) < (l0.length : Int) := of_decide_eq_true (by first | (with_reducible assumption) | assumption)
                              obtain ⟨ad186, e186, hx186_0⟩ := Kd.at_int HR0.out (ji19) p186 q186
                              obtain rfl : ad179 = ad186 := (by injection e186)
                              replace p186 := eq_true p186
                              replace q186 := eq_true q186
                              go_enter Try.func139, Try.ntmps139
                              go_wp2
                              repeat (go_quiet (fail); try go_wp2)
                              go_ret
                              exact ⟨by first | rfl | (simp; done) | (simp only [← hji4, ← hji7, ← hji11, ← hji15, ← hji19] <;> (first | rfl | simp)) | (simp [*]; done), by repeat (first | exact Drawn0.refl _ | apply Drawn0.step)⟩
                            · rw [if_neg c21] at H
                              exact absurd H (by simp)
                          · rw [if_neg c20] at H
                            exact absurd H (by simp)
                        · rw [if_neg c18] at H
                          have c18b0 : ((rd l0 (ji11)) == (rd l0 (ji15))) = false := beq_eq_false_iff_ne.mpr c18
                          have c18b1 : ((rd l0 (ji11)) != (rd l0 (ji15))) = true := bne_iff_ne.mpr c18
                          obtain rfl := Option.some.inj H
                          have p179 : 0 ≤ ((ji4) : Int) := of_decide_eq_true (by first | (with_reducible assumption) | assumption)
                          have q179 : (ji4) < (l0.length : Int) := of_decide_eq_true (by first | (with_reducible assumption) | assumption)
                          obtain ⟨ad179, e179, hx179_0⟩ := Kd.at_int HR0.out (ji4) p179 q179
                          cases e179
                          replace p179 := eq_true p179
                          replace q179 := eq_true q179
                          have p180 : 0 ≤ ((ji7) : Int) := of_decide_eq_true (by first | (with_reducible assumption) | assumption)
                          have q180 : (ji7) < (l0.length : Int) := of_decide_eq_true (by first | (with_reducible assumption) | assumption)
                          obtain ⟨ad180, e180, hx180_0⟩ := Kd.at_int HR0.out (ji7) p180 q180
                          obtain rfl : ad179 = ad180 := (by injection e180)
                          replace p180 := eq_true p180
                          replace q180 := eq_true q180
                          have p181 : 0 ≤ ((ji7) : Int) := of_decide_eq_true (by first | (with_reducible assumption) | assumption)
                          have q181 : (ji7) < (l0.length : Int) := of_decide_eq_true (by first | (with_reducible assumption) | assumption)
                          obtain ⟨ad181, e181, hx181_0⟩ := Kd.at_int HR0.out (ji7) p181 q181
                          obtain rfl : ad179 = ad181 := (by injection e181)
                          replace p181 := eq_true p181
                          replace q181 := eq_true q181
                          have p182 : 0 ≤ ((ji11) : Int) := of_decide_eq_true (by first | (with_reducible assumption) | assumption)
                          have q182 : (ji11) < (l0.length : Int) := of_decide_eq_true (by first | (with_reducible assumption) | assumption)
                          obtain ⟨ad182, e182, hx182_0⟩ := Kd.at_int HR0.out (ji11) p182 q182
                          obtain rfl : ad179 = ad182 := (by injection e182)
                          replace p182 := eq_true p182
                          replace q182 := eq_true q182
                          have p183 : 0 ≤ ((ji11) : Int) := of_decide_eq_true (by first | (with_reducible assumption) | assumption)
                          have q183 : (ji11) < (l0.length : Int) := of_decide_eq_true (by first | (with_reducible assumption) | assumption)
                          obtain ⟨ad183, e183, hx183_0⟩ := Kd.at_int HR0.out (ji11) p183 q183
                          obtain rfl : ad179 = ad183 := (by injection e183)
                          replace p183 := eq_true p183
                          replace q183 := eq_true q183
                          have p184 : 0 ≤ ((ji15) : Int) := of_decide_eq_true (by first | (with_reducible assumption) | assumption)
                          have q184 : (ji15) < (l0.length : Int) := of_decide_eq_true (by first | (with_reducible assumption) | assumption)
                          obtain ⟨ad184, e184, hx184_0⟩ := Kd.at_int HR0.out (ji15) p184 q184
                          obtain rfl : ad179 = ad184 := (by injection e184)
                          replace p184 := eq_true p184
                          replace q184 := eq_true q184
                          go_enter Try.func139, Try.ntmps139
                          go_wp2
                          repeat (go_quiet (fail); try go_wp2)
                          go_ret
                          exact ⟨by first | rfl | (simp; done) | (simp only [← hji4, ← hji7, ← hji11, ← hji15] <;> (first | rfl | simp)) | (simp [*]; done), by repeat (first | exact Drawn0.refl _ | apply Drawn0.step)⟩
                      · rw [if_neg c17] at H
                        exact absurd H (by simp)
                    · rw [if_neg c16] at H
                      exact absurd H (by simp)
                  · rw [if_neg c14] at H
                    have c14b0 : ((rd l0 (ji7)) == (rd l0 (ji11))) = false := beq_eq_false_iff_ne.mpr c14
                    have c14b1 : ((rd l0 (ji7)) != (rd l0 (ji11))) = true := bne_iff_ne.mpr c14
                    obtain rfl := Option.some.inj H
                    have p179 : 0 ≤ ((ji4) : Int) := of_decide_eq_true (by first | (with_reducible assumption) | assumption)
                    have q179 : (ji4) < (l0.length : Int) := of_decide_eq_true (by first | (with_reducible assumption) | assumption)
                    obtain ⟨ad179, e179, hx179_0⟩ := Kd.at_int HR0.out (ji4) p179 q179
                    cases e179
                    replace p179 := eq_true p179
                    replace q179 := eq_true q179
                    have p180 : 0 ≤ ((ji7) : Int) := of_decide_eq_true (by first | (with_reducible assumption) | assumption)
                    have q180 : (ji7) < (l0.length : Int) := of_decide_eq_true (by first | (with_reducible assumption) | assumption)
                    obtain ⟨ad180, e180, hx180_0⟩ := Kd.at_int HR0.out (ji7) p180 q180
                    obtain rfl : ad179 = ad180 := (by injection e180)
                    replace p180 := eq_true p180
                    replace q180 := eq_true q180
                    have p181 : 0 ≤ ((ji7) : Int) := of_decide_eq_true (by first | (with_reducible assumption) | assumption)
                    have q181 : (ji7) < (l0.length : Int) := of_decide_eq_true (by first | (with_reducible assumption) | assumption)
                    obtain ⟨ad181, e181, hx181_0⟩ := Kd.at_int HR0.out (ji7) p181 q181
                    obtain rfl : ad179 = ad181 := (by injection e181)
                    replace p181 := eq_true p181
                    replace q181 := eq_true q181
                    have p182 : 0 ≤ ((ji11) : Int) := of_decide_eq_true (by first | (with_reducible assumption) | assumption)
                    have q182 : (ji11) < (l0.length : Int) := of_decide_eq_true (by first | (with_reducible assumption) | assumption)
                    obtain ⟨ad182, e182, hx182_0⟩ := Kd.at_int HR0.out (ji11) p182 q182
                    obtain rfl : ad179 = ad182 := (by injection e182)
                    replace p182 := eq_true p182
                    replace q182 := eq_true q182
                    go_enter Try.func139, Try.ntmps139
                    go_wp2
                    repeat (go_quiet (fail); try go_wp2)
                    go_ret
                    exact ⟨by first | rfl | (simp; done) | (simp only [← hji4, ← hji7, ← hji11] <;> (first | rfl | simp)) | (simp [*]; done), by repeat (first | exact Drawn0.refl _ | apply Drawn0.step)⟩
                · rw [if_neg c13] at H
                  exact absurd H (by simp)
              · rw [if_neg c12] at H
                exact absurd H (by simp)
            · rw [if_neg c10] at H
              have c10b0 : ((rd l0 (ji4)) == (rd l0 (ji7))) = false := beq_eq_false_iff_ne.mpr c10
              have c10b1 : ((rd l0 (ji4)) != (rd l0 (ji7))) = true := bne_iff_ne.mpr c10
              obtain rfl := Option.some.inj H
              have p179 : 0 ≤ ((ji4) : Int) := of_decide_eq_true (by first | (with_reducible assumption) | assumption)
              have q179 : (ji4) < (l0.length : Int) := of_decide_eq_true (by first | (with_reducible assumption) | assumption)
              obtain ⟨ad179, e179, hx179_0⟩ := Kd.at_int HR0.out (ji4) p179 q179
              cases e179
              replace p179 := eq_true p179
              replace q179 := eq_true q179
              have p180 : 0 ≤ ((ji7) : Int) := of_decide_eq_true (by first | (with_reducible assumption) | assumption)
              have q180 : (ji7) < (l0.length : Int) := of_decide_eq_true (by first | (with_reducible assumption) | assumption)
              obtain ⟨ad180, e180, hx180_0⟩ := Kd.at_int HR0.out (ji7) p180 q180
              obtain rfl : ad179 = ad180 := (by injection e180)
              replace p180 := eq_true p180
              replace q180 := eq_true q180
              go_enter Try.func139, Try.ntmps139
              go_wp2
              repeat (go_quiet (fail); try go_wp2)
              go_ret
              exact ⟨by first | rfl | (simp; done) | (simp only [← hji4, ← hji7] <;> (first | rfl | simp)) | (simp [*]; done), by repeat (first | exact Drawn0.refl _ | apply Drawn0.step)⟩
          · rw [if_neg c9] at H
            exact absurd H (by simp)
        · rw [if_neg c8] at H
          exact absurd H (by simp)
      · rw [if_neg c6] at H
        exact absurd H (by simp)
    · rw [if_neg c5] at H
      exact absurd H (by simp)
end Go.Proofs.Ytdoclpgciadjaaa.P

namespace Go.Proofs.Ytdoclpgciadjaaa.P
open Go Go.RowKit Go.Proofs.YtdoclpgciadjaaaW.PrintWords
set_option linter.unusedVariables false
theorem due_eq {l : List Int} {n run : Nat} {last : Int} (h : Trail l n run last) (h5 : run ≤ 5) (hn : n < 100000000) : spec_l1due.f l (n : Int) = some (decide (run = 5)) := by
  have hle := h.le
  have hr := h.run_le
  unfold spec_l1due.f
  by_cases c : n < 5
  · rw [if_pos (by omega), decide_eq_false (by omega)]
  · have hf := h.five h5 (by omega)
    have w1 : wrap64 ((n : Int) - 1) = ((n - 1 : Nat) : Int) := by unfold wrap64; omega
    have w2 : wrap64 ((n : Int) - 2) = ((n - 2 : Nat) : Int) := by unfold wrap64; omega
    have w3 : wrap64 ((n : Int) - 3) = ((n - 3 : Nat) : Int) := by unfold wrap64; omega
    have w4 : wrap64 ((n : Int) - 4) = ((n - 4 : Nat) : Int) := by unfold wrap64; omega
    have w5 : wrap64 ((n : Int) - 5) = ((n - 5 : Nat) : Int) := by unfold wrap64; omega
    rw [if_neg (by omega), w1, w2, w3, w4, w5, if_pos (by omega), if_pos (by omega), if_pos (by omega), if_pos (by omega)]
    by_cases a1 : rd l ((n - 1 : Nat) : Int) = rd l ((n - 2 : Nat) : Int)
    · rw [if_pos a1, if_pos (by omega), if_pos (by omega)]
      by_cases a2 : rd l ((n - 2 : Nat) : Int) = rd l ((n - 3 : Nat) : Int)
      · rw [if_pos a2, if_pos (by omega), if_pos (by omega)]
        by_cases a3 : rd l ((n - 3 : Nat) : Int) = rd l ((n - 4 : Nat) : Int)
        · rw [if_pos a3, if_pos (by omega), if_pos (by omega)]
          by_cases a4 : rd l ((n - 4 : Nat) : Int) = rd l ((n - 5 : Nat) : Int)
          · rw [decide_eq_true (hf.2 ⟨a1, a2, a3, a4⟩), a4]; simp
          · rw [decide_eq_false (fun e => a4 (hf.1 e).2.2.2)]; simp [a4]
        · rw [if_neg a3, decide_eq_false (fun e => a3 (hf.1 e).2.2.1)]
      · rw [if_neg a2, decide_eq_false (fun e => a2 (hf.1 e).2.1)]
    · rw [if_neg a1, decide_eq_false (fun e => a1 (hf.1 e).1)]
end Go.Proofs.Ytdoclpgciadjaaa.P

namespace Go.Proofs.Ytdoclpgciadjaaa.P
open Go.RowKit Go.Proofs.YtdoclpgciadjaaaW.PrintWords Go.Proofs.YtdoclpgciadjaaaW.PrintLast Go.Proofs.YtdoclpgciadjaaaW.PrintMore
set_option linter.unusedVariables false
set_option linter.unusedSimpArgs false
def spec_l1okBits.l0 : Nat → ByteArray → Int → Option (Bool)
  | 0, _, _ => none
  | k + 1, x0, x5 => if x5 < (x0.size : Int) then (if 0 ≤ x5 then (if (bt x0 x5) = 48 then (spec_l1okBits.l0 k x0 (wrap64 (x5 + 1))) else (if (bt x0 x5) = 49 then (spec_l1okBits.l0 k x0 (wrap64 (x5 + 1))) else (some false))) else (none)) else (some true)
def spec_l1okBits.f (k : Nat) (a0 : ByteArray) (a1 : Int) : Option (Bool) := if (a0.size : Int) > a1 then (some false) else (spec_l1okBits.l0 k a0 0)
theorem spec_l1okBits.mono_l : ∀ k, (∀ y0 y1, LeO (spec_l1okBits.l0 k y0 y1) (spec_l1okBits.l0 (k + 1) y0 y1))
  | 0 => fun _ _ r h => by simp [spec_l1okBits.l0] at h
  | k + 1 => by
    have ih0 := spec_l1okBits.mono_l k
    · intro y0 y1
      unfold spec_l1okBits.l0
      repeat' first
      | (with_reducible exact ih0 _ _)
      | (with_reducible exact LeO.refl _)
      | (with_reducible exact LeO.none _)
      | (with_reducible refine LeO.ite ?_ ?_)
      | (with_reducible refine LeO.bind ?_ (fun _ => ?_))
      | exact ih0 _ _
      | exact LeO.none _
      | refine LeO.ite ?_ ?_
      | refine LeO.bind ?_ (fun _ => ?_)
theorem spec_l1okBits.mono : ∀ a0 a1 k, LeO (spec_l1okBits.f k a0 a1) (spec_l1okBits.f (k + 1) a0 a1) := by
  intro a0 a1 k
  have ih0 := spec_l1okBits.mono_l k
  unfold spec_l1okBits.f
  repeat' first
      | (with_reducible exact ih0 _ _)
      | (with_reducible exact LeO.refl _)
      | (with_reducible exact LeO.none _)
      | (with_reducible refine LeO.ite ?_ ?_)
      | (with_reducible refine LeO.bind ?_ (fun _ => ?_))
      | exact ih0 _ _
      | exact LeO.none _
      | refine LeO.ite ?_ ?_
      | refine LeO.bind ?_ (fun _ => ?_)
set_option maxHeartbeats 8000000 in
set_option maxRecDepth 100000 in
theorem spec_l1okBits.calls (k : Nat) (a0 : ByteArray) (a1 : Int) (r : Bool) (w : World) (h : spec_l1okBits.f k a0 a1 = some r) :
    Calls Try.prog 128 #[.string a0, .int .i64 a1] w fun e w' => e = .returned (.bool r) ∧ Drawn0 w w' := by
  have H : (if (a0.size : Int) > a1 then (some false) else (spec_l1okBits.l0 k a0 0)) = some r := h
  clear h
  by_cases c3 : (a0.size : Int) > a1
  · rw [if_pos c3] at H
    have c3b0 : decide (a1 < (a0.size : Int)) = true := decide_eq_true c3
    clear c3
    obtain rfl := Option.some.inj H
    go_enter Try.func128, Try.ntmps128
    go_wp2
    go_ret
    exact ⟨by first | rfl | (simp; done) | (simp [*]; done), by repeat (first | exact Drawn0.refl _ | apply Drawn0.step)⟩
  · rw [if_neg c3] at H
    have c3b0 : decide (a1 < (a0.size : Int)) = false := decide_eq_false c3
    clear c3
    have H' := Aside0.mk H
    clear H
    go_enter Try.func128, Try.ntmps128
    go_wp2
    go_loopg [5] k (fun kq v5 w' => ∃ (x5_1 : Int), v5 = .int .i64 x5_1 ∧ Aside0 (spec_l1okBits.l0 kq a0 x5_1 = some r) ∧ Aside0 (kq ≤ k) ∧ Drawn0 w w')
    case atStart => exact ⟨(0), (by first | rfl | (simp; done) | (simp [*]; done)), H', ⟨Nat.le_refl _⟩, by repeat (first | exact Drawn0.refl _ | apply Drawn0.step)⟩
    case round =>
      clear H'
      try clear c1
      try clear p2
      try clear c3
      try clear c3b0
      obtain ⟨x5_1, rfl, HA, HK1, ⟨m1, rfl⟩⟩ := hrel
      cases gk with
      | zero => exact absurd HA.out (by simp [spec_l1okBits.l0])
      | succ k1 =>
        have H := HA.out
        clear HA
        simp only [spec_l1okBits.l0] at H
        by_cases c4 : x5_1 < (a0.size : Int)
        · rw [if_pos c4] at H
          have c4b0 : decide (x5_1 < (a0.size : Int)) = true := decide_eq_true c4
          clear c4
          by_cases c5 : 0 ≤ x5_1
          · rw [if_pos c5] at H
            have c5b0 : decide (0 ≤ x5_1) = true := decide_eq_true c5
            clear c5
            by_cases c7 : (bt a0 x5_1) = 48
            · rw [if_pos c7] at H
              have c7b0 : ((bt a0 x5_1) == 48) = true := beq_iff_eq.mpr c7
              have c7b1 : ((bt a0 x5_1) != 48) = false := bne_eq_false_iff_eq.mpr c7
              clear c7
              have H' := Aside0.mk H
              clear H
              have p6 : 0 ≤ (x5_1 : Int) := of_decide_eq_true (by first | (with_reducible assumption) | assumption)
              have q6 : x5_1 < (a0.size : Int) := of_decide_eq_true (by first | (with_reducible assumption) | assumption)
              have hx6 := bt_at a0 x5_1
              replace p6 := eq_true p6
              replace q6 := eq_true q6
              go_wp2
              go_roundg k1
              case measure => have := HK1.out; omega
              case rel => exact ⟨(wrap64 (x5_1 + 1)), (by first | rfl | (simp; done) | (simp [*]; done)), H', ⟨by have := HK1.out; omega⟩, by repeat (first | exact Drawn0.refl _ | apply Drawn0.step)⟩
            · rw [if_neg c7] at H
              have c7b0 : ((bt a0 x5_1) == 48) = false := beq_eq_false_iff_ne.mpr c7
              have c7b1 : ((bt a0 x5_1) != 48) = true := bne_iff_ne.mpr c7
              by_cases c9 : (bt a0 x5_1) = 49
              · rw [if_pos c9] at H
                have c9b0 : ((bt a0 x5_1) == 49) = true := beq_iff_eq.mpr c9
                have c9b1 : ((bt a0 x5_1) != 49) = false := bne_eq_false_iff_eq.mpr c9
                clear c9
                have H' := Aside0.mk H
                clear H
                have p6 : 0 ≤ (x5_1 : Int) := of_decide_eq_true (by first | (with_reducible assumption) | assumption)
                have q6 : x5_1 < (a0.size : Int) := of_decide_eq_true (by first | (with_reducible assumption) | assumption)
                have hx6 := bt_at a0 x5_1
                replace p6 := eq_true p6
                replace q6 := eq_true q6
                have p8 : 0 ≤ (x5_1 : Int) := of_decide_eq_true (by first | (with_reducible assumption) | assumption)
                have q8 : x5_1 < (a0.size : Int) := of_decide_eq_true (by first | (with_reducible assumption) | assumption)
                have hx8 := bt_at a0 x5_1
                replace p8 := eq_true p8
                replace q8 := eq_true q8
                go_wp2
                go_roundg k1
                case measure => have := HK1.out; omega
                case rel => exact ⟨(wrap64 (x5_1 + 1)), (by first | rfl | (simp; done) | (simp [*]; done)), H', ⟨by have := HK1.out; omega⟩, by repeat (first | exact Drawn0.refl _ | apply Drawn0.step)⟩
              · rw [if_neg c9] at H
                have c9b0 : ((bt a0 x5_1) == 49) = false := beq_eq_false_iff_ne.mpr c9
                have c9b1 : ((bt a0 x5_1) != 49) = true := bne_iff_ne.mpr c9
                obtain rfl := Option.some.inj H
                have p6 : 0 ≤ (x5_1 : Int) := of_decide_eq_true (by first | (with_reducible assumption) | assumption)
                have q6 : x5_1 < (a0.size : Int) := of_decide_eq_true (by first | (with_reducible assumption) | assumption)
                have hx6 := bt_at a0 x5_1
                replace p6 := eq_true p6
                replace q6 := eq_true q6
                have p8 : 0 ≤ (x5_1 : Int) := of_decide_eq_true (by first | (with_reducible assumption) | assumption)
                have q8 : x5_1 < (a0.size : Int) := of_decide_eq_true (by first | (with_reducible assumption) | assumption)
                have hx8 := bt_at a0 x5_1
                replace p8 := eq_true p8
                replace q8 := eq_true q8
                go_wp2
                go_ret
                exact ⟨by first | rfl | (simp; done) | (simp [*]; done), by repeat (first | exact Drawn0.refl _ | apply Drawn0.step)⟩
          · rw [if_neg c5] at H
            exact absurd H (by simp)
        · rw [if_neg c4] at H
          have c4b0 : decide (x5_1 < (a0.size : Int)) = false := decide_eq_false c4
          clear c4
          obtain rfl := Option.some.inj H
          go_wp2
          go_ret
          exact ⟨by first | rfl | (simp; done) | (simp [*]; done), by repeat (first | exact Drawn0.refl _ | apply Drawn0.step)⟩
end Go.Proofs.Ytdoclpgciadjaaa.P

namespace Go.Proofs.Ytdoclpgciadjaaa.P
open Go Go.RowKit Go.Proofs.YtdoclpgciadjaaaW.PrintWords
set_option linter.unusedVariables false
theorem bt_eq (s : ByteArray) (i : Nat) (h : i < s.size) : bt s (i : Int) = ((s[i]'h).toNat : Int) := by
  unfold bt; rw [dif_pos (show (i : Int).toNat < s.size from h)]; rfl
theorem bytesOf_get (s : ByteArray) (i : Nat) (h : i < (bytesOf s).length) : (bytesOf s)[i]'h = bt s (i : Int) := by
  have hs : i < s.size := by rw [bytesOf_length] at h; exact h
  have h2 : (bytesOf s)[i]? = some (bt s (i : Int)) := by
    unfold bytesOf
    rw [List.getElem?_map, Array.getElem?_toList, Array.getElem?_eq_getElem (show i < s.data.size from hs), bt_eq s i hs]
    rfl
  rw [List.getElem?_eq_getElem h] at h2
  exact Option.some.inj h2
theorem okBits_ev (s : ByteArray) (lim : Nat) (hlim : lim < 100000000) :
    Ev (fun k => spec_l1okBits.f k s (lim : Int)) (decide (s.size ≤ lim) && isBits s) := by
  have loop : s.size ≤ lim → ∀ (d i : Nat), i + d = s.size → BitsTo s i → Ev (fun k => spec_l1okBits.l0 k s (i : Int)) (isBits s) := by
    intro hl d
    induction d with
    | zero =>
      intro i hi hb
      refine Ev.step (f := fun _ => some (isBits s)) (fun k => ?_) (Ev.now _)
      simp only [spec_l1okBits.l0]
      rw [if_neg (by omega), isBits_of s hb (by omega)]
    | succ d ih =>
      intro i hi hb
      have hp : i < s.size := by omega
      cases hbit : isBit (s[i]'hp) with
      | true =>
        refine Ev.step (f := fun k => spec_l1okBits.l0 k s ((i + 1 : Nat) : Int)) (fun k => ?_) (ih (i + 1) (by omega) (bitsTo_succ hb hp hbit))
        simp only [spec_l1okBits.l0]
        rw [if_pos (by omega), if_pos (by omega), bt_eq s i hp, w64 (by omega) (by omega)]
        rcases isBit_cases hbit with e | e <;> rw [e]
        · rw [if_pos (by decide)]; rfl
        · rw [if_neg (by decide), if_pos (by decide)]; rfl
      | false =>
        refine Ev.step (f := fun _ => some (isBits s)) (fun k => ?_) (Ev.now _)
        simp only [spec_l1okBits.l0]
        obtain ⟨h1, h2⟩ := not_bit hbit
        rw [if_pos (by omega), if_pos (by omega), bt_eq s i hp, if_neg (by omega), if_neg (by omega), isBits_not s hp hbit]
  by_cases c : s.size ≤ lim
  · rw [decide_eq_true c, Bool.true_and]
    refine Ev.congr (fun k => ?_) (loop c s.size 0 (by omega) (bitsTo_zero s))
    unfold spec_l1okBits.f
    rw [if_neg (by omega)]; rfl
  · rw [decide_eq_false c, Bool.false_and]
    refine Ev.congr (f := fun _ => some false) (fun k => ?_) (Ev.now _)
    unfold spec_l1okBits.f
    rw [if_pos (by omega)]
end Go.Proofs.Ytdoclpgciadjaaa.P
