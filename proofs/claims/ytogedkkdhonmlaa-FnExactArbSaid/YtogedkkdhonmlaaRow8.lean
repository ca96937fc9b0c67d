import Derived.Test.YtogedkkdhonmlaaWorld
import Derived.Test.YtogedkkdhonmlaaInts
import Derived.ArgAppend
import Derived.Test.YtogedkkdhonmlaaWQPut
import Derived.Laws.BitsAllLaws
namespace Go.Proofs.Ytogedkkdhonmlaa.P
open Go Go.RowKit Go.Proofs.YtogedkkdhonmlaaW.PrintWords
set_option linter.unusedVariables false
/-! ### A row of bytes of the call's own, with or without a conversion's mark -/
def RowM (e : TypeId) (w : World) (base : Nat) (v : Value) (xs : List Int) : Prop :=
  w.ownsRow base e 1 v xs.length (nums .u8 xs) ∨
  ∃ g cap cur fz, v = .slice (some ⟨g, 0, none⟩) xs.length cap ∧ base ≤ g ∧ w.heap[g]? = some (.cells cur e fz) ∧ cap ≤ fz.1 ∧ xs.length ≤ cap ∧ cap ≤ maxLen ∧ cur.size = cap ∧ cur.toList.take xs.length = nums .u8 xs
theorem RowM.typed {e : TypeId} {w : World} {base : Nat} {v : Value} {xs : List Int} (h : RowM e w base v xs) {k : Nat} (hk : v.ownBlock = some k) : base ≤ k ∧ k < w.heap.size ∧ ∃ cur fz, w.heap[k]? = some (.cells cur e fz) := by
  rcases h with h | ⟨g, cap, cur, fz, rfl, hb, hh, _⟩
  · obtain ⟨cells, hc⟩ := own_typed h k hk
    exact ⟨own_base h k hk, own_lt h k hk, cells, _, hc⟩
  · obtain rfl : g = k := Option.some.inj hk
    exact ⟨hb, (Array.getElem?_eq_some_iff.1 hh).1, cur, fz, hh⟩
theorem RowM.slice {e : TypeId} {w : World} {base : Nat} {v : Value} {xs : List Int} (h : RowM e w base v xs) : ∃ A n c, v = .slice A n c := by
  rcases h with h | ⟨g, cap, cur, fz, rfl, _⟩
  · obtain ⟨A, c, e⟩ := own_slice h
    exact ⟨A, _, c, e⟩
  · exact ⟨_, _, _, rfl⟩
theorem RowM.move {e : TypeId} {w w1 : World} {base : Nat} {v : Value} {xs : List Int} (h : RowM e w base v xs) (hm : ∀ k, v.ownBlock = some k → w1.heap[k]? = w.heap[k]?) : RowM e w1 base v xs := by
  rcases h with h | ⟨g, cap, cur, fz, rfl, hb, hh, r⟩
  · exact .inl (own_move h hm)
  · exact .inr ⟨g, cap, cur, fz, rfl, hb, (hm g rfl).trans hh, r⟩
/-- What a call may turn: one block, one row; where the row may go. -/
structure Fr (w w' : World) (p : Nat) (row row' : Option Nat) : Prop where
  os : w'.os = w.os
  tape : w'.tape = w.tape
  output : w'.output = w.output
  size : w.heap.size ≤ w'.heap.size
  block : ∀ k, k < w.heap.size → k ≠ p → some k ≠ row → w'.heap[k]? = w.heap[k]?
  goes : row' = row ∨ ∃ b, row' = some b ∧ w.heap.size ≤ b
theorem Fr.refl (w : World) (p : Nat) (row : Option Nat) : Fr w w p row row := ⟨rfl, rfl, rfl, Nat.le_refl _, fun _ _ _ _ => rfl, .inl rfl⟩
theorem Fr.trans {w w1 w2 : World} {p : Nat} {r r1 r2 : Option Nat} (h : Fr w w1 p r r1) (k : Fr w1 w2 p r1 r2) : Fr w w2 p r r2 := by
  refine ⟨k.os.trans h.os, k.tape.trans h.tape, k.output.trans h.output, Nat.le_trans h.size k.size, fun j hj hp hr => ?_, ?_⟩
  · refine (k.block j (Nat.lt_of_lt_of_le hj h.size) hp ?_).trans (h.block j hj hp hr)
    rcases h.goes with e | ⟨b, e, hb⟩
    · rw [e]; exact hr
    · rw [e]; intro e2; have := Option.some.inj e2; omega
  · rcases k.goes with e | ⟨b, e, hb⟩
    · rw [e]; exact h.goes
    · exact .inr ⟨b, e, Nat.le_trans h.size hb⟩
theorem Fr.below {B : Nat} {w0 w w' : World} {p : Nat} {r r' : Option Nat} (h : Fr w w' p r r') (hb : Below B w0 w) (hB : B ≤ w.heap.size) (hp : B ≤ p) (hr : ∀ k, r = some k → B ≤ k) : Below B w0 w' :=
  hb.trans ⟨h.os, h.tape, h.output, h.size, fun k hk => h.block k (by omega) (by omega) (fun e => by have := hr k e.symm; omega)⟩
theorem nums_one (x : Int) : nums .u8 [x] = [.int .u8 x] := rfl
theorem RowM.append {P : Program} {ops : Array Oper} {rest : List Oper} {o : Oper} {a : Act} {Q : Exit → Act → World → Prop} {W : World} (base : Nat) (hgd : o.guard = none) (s x : Operand) (t e : TypeId)
    (ho : o.op = .call { callee := .builtin .append, args := #[s, x], argTypes := #[t, t] })
    (ht : P.underlying t = some (.slice e)) (hinfo : (P.info? e).map (fun i => (i.zero, i.size, i.bytes)) = some (some (.int .u8 0), 1, 1))
    (v : Value) (xs : List Int) (b : Int) (hs : a.eval s = v) (hx : a.eval x = .slice (some ⟨W.heap.size, 0, none⟩) 1 1)
    (HO : RowM e W base v xs) (hbase : base ≤ W.heap.size) (hl : xs.length + 1 ≤ 1000000)
    (h : ∀ v1 w1, RowM e w1 base v1 (xs ++ [b]) → Fr W w1 W.heap.size v.ownBlock v1.ownBlock → wpList P ops Q rest (a.put o.dst v1) w1) :
    wpList P ops Q (o :: rest) a (W.alloc (.cells #[.int .u8 b] e)) := by
  have hn : (xs ++ [b]).length = xs.length + 1 := by simp
  rcases HO with HO | ⟨g, cap, cur, fz, rfl, hb, hh, hfz, hlc, hcm, hcs, htk⟩
  · refine print_append_cells (w0 := W) (ys := [.int .u8 b]) base hgd s x t e (.int .u8 0) 1 1 ho ht hinfo rfl (by decide) (by decide) v xs.length (nums .u8 xs) hs hx rfl (by simp [Value.oneCell']) HO (Below.refl _ _) hbase (by omega) ?_
    intro v1 w1 hown _ hg hat
    refine h v1 w1 (.inl (by rw [hn, nums_append]; exact hown)) ⟨hg.os, hg.tape, hg.output, hg.size, fun k hk _ hr => hg.block k hk hr, ?_⟩
    rcases hat with e1 | ⟨c, e1, hc⟩
    · exact .inl e1
    · exact .inr ⟨c, e1, hc⟩
  · obtain ⟨i0, hi, hzz⟩ := Option.map_eq_some_iff.1 hinfo
    simp only [Prod.mk.injEq] at hzz
    obtain ⟨hz0, hz1, hz2⟩ := hzz
    have hgl : g < W.heap.size := (Array.getElem?_eq_some_iff.1 hh).1
    have hhA : (W.alloc (.cells #[.int .u8 b] e)).heap[g]? = some (.cells cur e fz) := (heap_alloc_old W _ hgl).trans hh
    have hcell : ∀ j, (W.alloc (.cells #[.int .u8 b] e)).cell? ⟨g, j, none⟩ = cur[j]? := fun j => by simp only [World.cell?, hhA]; simp
    have hol : (nums .u8 xs).length = xs.length * 1 := by rw [nums_length, Nat.mul_one]
    refine wpList_append_arg (W.alloc (.cells #[.int .u8 b] e)) hgd s x t ho e i0 (.int .u8 0) 1 1 ht hi hz0 hz1 hz2 rfl (by decide) g 0 xs.length cap (nums .u8 xs) hs hol (fun j u hj => ?_) ⟨W.heap.size, 0, none⟩ 1 1 [.int .u8 b] hx rfl
      (by simpa using World.news_of_block (cs := #[.int .u8 b]) (t := e) (fr := (0, 0)) (heap_alloc_new W (.cells #[.int .u8 b] e))) (by simp [Value.oneCell']) (fun hroom j hj => ⟨?_, ?_⟩) (by simp only [maxLen]; omega) (by omega) (fun hroom => ?_) (fun _ v1 w1 hown hg => ?_)
    · rw [Nat.zero_add, hcell]
      have hjl : j < xs.length := by have := (List.getElem?_eq_some_iff.1 hj).1; rw [nums_length] at this; exact this
      rw [← htk, List.getElem?_take_of_lt hjl, Array.getElem?_toList] at hj
      exact hj
    · have hj1 : j < 1 := hj
      rw [hcell, Array.getElem?_eq_getElem (by omega)]; rfl
    · have hj1 : j < 1 := hj
      obtain ⟨lo, hi'⟩ := fz
      simp only [World.frozen?, hhA]
      have hlo : cap ≤ lo := hfz
      rw [decide_eq_false (show ¬ lo ≤ 0 + xs.length * 1 + j by omega), Bool.false_and]
    · have e0 : 0 + xs.length * 1 = xs.length := by omega
      rw [e0]
      have hset : ((W.alloc (.cells #[.int .u8 b] e)).setCell ⟨g, xs.length, none⟩ (.int .u8 b)).heap[g]? = some (.cells (cur.setIfInBounds xs.length (.int .u8 b)) e fz) := by
        simp only [World.setCell, Array.getElem?_modify, hhA]
        simp
      have hs1 : ((W.alloc (.cells #[.int .u8 b] e)).setCell ⟨g, xs.length, none⟩ (.int .u8 b)).heap.size = W.heap.size + 1 := by simp
      refine h _ _ (.inr ⟨g, cap, _, fz, by rw [hn], hb, hset, hfz, by rw [hn]; exact hroom, hcm, by simp [hcs], ?_⟩) ⟨rfl, rfl, rfl, ?_, fun k hk _ hr => ?_, .inl rfl⟩
      · rw [hn, nums_append, nums_one, Array.toList_setIfInBounds, List.take_add_one, List.take_set_of_le (Nat.le_refl _), htk, List.getElem?_set_self (by simpa using (show xs.length < cur.size by omega))]
        rfl
      · show W.heap.size ≤ ((W.alloc (.cells #[.int .u8 b] e)).setCell ⟨g, xs.length, none⟩ (.int .u8 b)).heap.size
        rw [hs1]; omega
      · show ((W.alloc (.cells #[.int .u8 b] e)).setCell ⟨g, xs.length, none⟩ (.int .u8 b)).heap[k]? = W.heap[k]?
        rw [Below.heap_setCell _ _ _ k (fun e1 => hr (by rw [e1]; rfl)), heap_alloc_old W _ hk]
    · have e1 : nums .u8 xs ++ [Value.int .u8 b] = nums .u8 (xs ++ [b]) := by rw [nums_append, nums_one]
      rw [e1] at hown
      have hw : w1.ownsRow base e 1 v1 (xs ++ [b]).length (nums .u8 (xs ++ [b])) := by rw [hn]; exact own_weaken hown (by simp; omega)
      refine h v1 w1 (.inl hw) ⟨hg.os, hg.tape, hg.output, Nat.le_trans (by simp) hg.size, fun k hk hk2 hr => ?_, ?_⟩
      · rw [hg.block k (by simp; omega) (by simp), heap_alloc_old W _ hk]
      · rcases hown.2 with ⟨_, h0⟩ | ⟨g', c', cu', rfl, hb', _⟩
        · omega
        · exact .inr ⟨g', rfl, by simp at hb'; omega⟩
/-- The bytes of a row as a text. -/
theorem RowM.string {P : Program} {w : World} {base : Nat} {src dst e' e : TypeId} {v : Value} {xs : List Int} (hs : P.underlying src = some (.slice e)) (he : P.underlying e = some (.int .u8)) (hd : P.underlying dst = some .string) (h : RowM e' w base v xs) : (convert src dst v).run P w = .ok (.string (strOfNums xs)) w := by
  rcases h with h | ⟨g, cap, cur, fz, rfl, hb, hh, hfz, hlc, hcm, hcs, htk⟩
  · exact own_string hs he hd h
  · refine run_convert_bytes_arg w src e hs he g 0 xs.length cap xs rfl (fun i hi => ?_) dst hd
    have h1 : (nums .u8 xs)[i]? = some (.int .u8 (xs.getD i 0)) := by simp [nums, List.getElem?_eq_getElem hi, List.getD_eq_getElem?_getD]
    rw [← htk, List.getElem?_take_of_lt hi, Array.getElem?_toList] at h1
    simp only [World.cell?, hh]
    simpa using h1
/-! ### Numbers as letters -/
def numL (u : Nat) : Nat → List Int
  | 0 => []
  | n + 1 => (48 + ((u / 2 ^ n % 2 : Nat) : Int)) :: numL u n
theorem numL_length (u : Nat) : ∀ n, (numL u n).length = n
  | 0 => rfl
  | n + 1 => by rw [numL, List.length_cons, numL_length u n]
theorem Fr.store {w w1 : World} {p : Nat} {r : Option Nat} {v1 : Value} (h : Fr w w1 w.heap.size r v1.ownBlock) (hp : p < w.heap.size) : Fr w (w1.setCell ⟨p, 0, none⟩ v1) p r v1.ownBlock :=
  ⟨h.os, h.tape, h.output, by simpa using h.size, fun k hk hkp hr => by
    rw [Below.heap_setCell _ _ _ k hkp]; exact h.block k hk (by omega) hr, h.goes⟩
theorem cell_block {w : World} {p : Nat} {v : Value} {t : TypeId} (h : w.heap[p]? = some (.cells #[v] t (0, 0))) : w.cell? ⟨p, 0, none⟩ = some v := by simp only [World.cell?, h]; simp
theorem frozen_block {w : World} {p : Nat} {v : Value} {t : TypeId} (h : w.heap[p]? = some (.cells #[v] t (0, 0))) (j : Nat) : w.frozen? ⟨p, j, none⟩ = false := by simp only [World.frozen?, h]; simp
theorem set_block {w : World} {p : Nat} {v u : Value} {t : TypeId} (h : w.heap[p]? = some (.cells #[v] t (0, 0))) : (w.setCell ⟨p, 0, none⟩ u).heap[p]? = some (.cells #[u] t (0, 0)) := by
  simp only [World.setCell, Array.getElem?_modify, h]
  simp
theorem RowM.bytes (w : World) (e : TypeId) (s : ByteArray) (base : Nat) (hb : base ≤ w.heap.size) (hs : s.size ≤ maxLen) : RowM e (Lib.bytesWorld w e s) base (.slice (some ⟨w.heap.size, 0, none⟩) s.size (grownCap w s.size 0 e)) (bytesOf s) := by
  have hg := grownCap_ge w s.size 0 e
  have hz : (Lib.bytesCells w e s).size = grownCap w s.size 0 e := by simp [Lib.bytesCells]; have : s.data.size = s.size := rfl; omega
  refine .inr ⟨w.heap.size, _, _, _, by rw [bytesOf_length], hb, Lib.bytesWorld_at_new w e s, by rw [hz]; exact Nat.le_refl _, by rw [bytesOf_length]; exact hg, grownCap_le_maxLen w s.size 0 e hs, hz, ?_⟩
  rw [bytesOf_length]
  unfold Lib.bytesCells nums bytesOf
  rw [Array.toList_append, List.take_append_of_le_length (by simp), List.take_of_length_le (by simp)]
  simp
/-- A box, a pointer's cell and its row, in a world that grew from w. -/
structure BW (e t : TypeId) (w wr : World) (b p : Nat) (box : Array Value) (tb : TypeId) (v : Value) (xs : List Int) : Prop where
  box : wr.heap[b]? = some (.cells box tb (0, 0))
  ptr : wr.heap[p]? = some (.cells #[v] t (0, 0))
  row : RowM e wr w.heap.size v xs
  below : Below w.heap.size w wr
  lo : w.heap.size ≤ b
  lp : w.heap.size ≤ p
  ne : b ≠ p
theorem BW.step {e t : TypeId} {w wr w' : World} {b p : Nat} {box : Array Value} {tb : TypeId} {v v' : Value} {xs ys : List Int} (h : BW e t w wr b p box tb v xs) (he : e ≠ tb) (hp : w'.heap[p]? = some (.cells #[v'] t (0, 0))) (hv : RowM e w' w.heap.size v' ys) (hf : Fr wr w' p v.ownBlock v'.ownBlock) : BW e t w w' b p box tb v' ys := by
  refine ⟨(hf.block b (Array.getElem?_eq_some_iff.1 h.box).1 h.ne (fun e1 => ?_)).trans h.box, hp, hv, hf.below h.below h.below.size h.lp (fun k hk => (h.row.typed hk).1), h.lo, h.lp, h.ne⟩
  obtain ⟨_, _, cur, fz, hc⟩ := h.row.typed e1.symm
  rw [h.box] at hc
  injection hc with hc
  injection hc with _ hc
  exact he hc.symm
theorem RowM.nil (e : TypeId) (w : World) (base : Nat) : RowM e w base (.slice none 0 0) [] := .inl (own_nil w base e 1)
/-- The letters of a frame's body. -/
def flagL (b : Bool) : List Int := [48 + b2 b]
def dataL (l : List Int) : List Int := l.flatMap fun x => numL x.toNat 8
def headL (ext : Bool) (id : Int) (rtr : Bool) : List Int :=
  if ext = true then numL 0 1 ++ numL (id.toNat / 262144) 11 ++ numL 3 2 ++ numL id.toNat 18 ++ flagL rtr ++ numL 0 2 else numL 0 1 ++ numL id.toNat 11 ++ flagL rtr ++ numL 0 2
def bodyL (ext : Bool) (id : Int) (rtr : Bool) (dlc : Int) (data : List Int) : List Int := headL ext id rtr ++ numL dlc.toNat 4 ++ dataL data
theorem headL_length (ext : Bool) (id : Int) (rtr : Bool) : (headL ext id rtr).length ≤ 35 := by
  cases ext <;> simp [headL, numL_length, flagL]
theorem dataL_length (l : List Int) : (dataL l).length = 8 * l.length := by
  induction l with
  | nil => rfl
  | cons a l ih => rw [dataL, List.flatMap_cons, List.length_append, numL_length, List.length_cons]; unfold dataL at ih; omega
theorem dataL_snoc (l : List Int) (x : Int) : dataL (l ++ [x]) = dataL l ++ numL x.toNat 8 := by simp [dataL, List.flatMap_append]
end Go.Proofs.Ytogedkkdhonmlaa.P
