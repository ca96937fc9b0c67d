/- Texts of the proof of FnExactSpans, joined. -/
import Derived.Test.YtdoclpgciadjaaaSFnExactSpans26
import Derived.Test.YtdoclpgciadjaaaSFnExactSpans23
import Derived.Test.YtdoclpgciadjaaaSFnExactSpans24
import Derived.Test.YtdoclpgciadjaaaSFnExactSpans22
import Derived.Test.YtdoclpgciadjaaaSFnExactSpans21
import Derived.Test.YtdoclpgciadjaaaSFnExactSpans25
namespace Go.Proofs.Ytdoclpgciadjaaa.P
open Go Go.RowKit Go.Proofs.YtdoclpgciadjaaaW.PrintWords
set_option linter.unusedVariables false
theorem due_eq {l : List Int} {n run : Nat} {last : Int} (h : Trail l n run last) (h5 : run ≤ 5) (hn : n < 100000000) : spec_l1due.f l (n : Int) = some (decide (run = 5)):=by
 have hle:=h.le
 have hr:=h.run_le
 unfold spec_l1due.f
 by_cases c : n < 5
 ·rw [if_pos (by omega),decide_eq_false (by omega)]
 ·have hf:=h.five h5 (by omega)
  have w1 : wrap64 ((n : Int) - 1) = ((n - 1 : Nat) : Int):=by unfold wrap64;omega
  have w2 : wrap64 ((n : Int) - 2) = ((n - 2 : Nat) : Int):=by unfold wrap64;omega
  have w3 : wrap64 ((n : Int) - 3) = ((n - 3 : Nat) : Int):=by unfold wrap64;omega
  have w4 : wrap64 ((n : Int) - 4) = ((n - 4 : Nat) : Int):=by unfold wrap64;omega
  have w5 : wrap64 ((n : Int) - 5) = ((n - 5 : Nat) : Int):=by unfold wrap64;omega
  rw [if_neg (by omega),w1,w2,w3,w4,w5,if_pos (by omega),if_pos (by omega),if_pos (by omega),if_pos (by omega)]
  by_cases a1 : rd l ((n - 1 : Nat) : Int) = rd l ((n - 2 : Nat) : Int)
  ·rw [if_pos a1,if_pos (by omega),if_pos (by omega)]
   by_cases a2 : rd l ((n - 2 : Nat) : Int) = rd l ((n - 3 : Nat) : Int)
   ·rw [if_pos a2,if_pos (by omega),if_pos (by omega)]
    by_cases a3 : rd l ((n - 3 : Nat) : Int) = rd l ((n - 4 : Nat) : Int)
    ·rw [if_pos a3,if_pos (by omega),if_pos (by omega)]
     by_cases a4 : rd l ((n - 4 : Nat) : Int) = rd l ((n - 5 : Nat) : Int)
     ·rw [decide_eq_true (hf.2 ⟨a1,a2,a3,a4⟩),a4];simp
     ·rw [decide_eq_false (fun e => a4 (hf.1 e).2.2.2)];simp [a4]
    ·rw [if_neg a3,decide_eq_false (fun e => a3 (hf.1 e).2.2.1)]
   ·rw [if_neg a2,decide_eq_false (fun e => a2 (hf.1 e).2.1)]
  ·rw [if_neg a1,decide_eq_false (fun e => a1 (hf.1 e).1)]
end Go.Proofs.Ytdoclpgciadjaaa.P

namespace Go.Proofs.Ytdoclpgciadjaaa.P
open Go Go.RowKit Go.Proofs.YtdoclpgciadjaaaW.PrintWords
set_option linter.unusedVariables false
theorem b2_xor (a b : Bool) : bits .xor .u8 (b2 a) (b2 b) = b2 (a ^^ b):=by cases a <;> cases b <;> decide
theorem gtext (j : Nat) (h : j < 16) : (bt (⟨#[49,49,48,48,48,49,48,49,49,48,48,49,49,48,48,49]⟩ : ByteArray) (j : Int) - 48) % 256 = b2 (Nat.testBit 50585 (15 - j)):=by
 have : ∀ j : Fin 16,(bt (⟨#[49,49,48,48,48,49,48,49,49,48,48,49,49,48,48,49]⟩ : ByteArray) ((j.val : Nat) : Int) - 48) % 256 = b2 (Nat.testBit 50585 (15 - j.val)):=by decide +kernel
 exact this ⟨j,h⟩
def phi (s : ByteArray) (i t : Nat) : Bool:=(decide (t < i + 15) && (crcL ((bytesOf s).take i)).testBit (14 - (t - i))) ^^ (decide (t < s.size) && bitB (bt s (t : Int)))
def Holds (v : List Int) (n : Nat) (from_ : Nat) (φ : Nat → Bool) : Prop:=v.length = n ∧ ∀ t,from_ ≤ t → t < n → rd v (t : Int) = b2 (φ t)
set_option linter.unusedSectionVars false
section
variable (s : ByteArray) (hs : s.size ≤ 2000) (hb : isBits s = true)
include hs hb
omit hs in
theorem bit_at (t : Nat) (ht : t < s.size) : bt s (t : Int) = 48 ∨ bt s (t : Int) = 49:=by
 rw [bt_eq s t ht]
 rcases isBit_cases (isBits_at hb ht) with e | e <;> rw [e]
 ·exact .inl rfl
 ·exact .inr rfl
omit hs hb in
theorem phi_step (i t : Nat) (hi : i < s.size) (ht : i + 1 ≤ t) (ht2 : t < s.size + 15) :
  phi s (i + 1) t = (phi s i t ^^ (phi s i i && decide (t < i + 16) && Nat.testBit 50585 (15 - (t - i)))):=by
 have hl : i < (bytesOf s).length:=by rw [bytesOf_length];exact hi
 have h1 : crcL ((bytesOf s).take (i + 1)) = crcN (crcL ((bytesOf s).take i)) (bitN (bt s (i : Int))):=by
  rw [List.take_succ_eq_append_getElem hl,crcL_snoc,bytesOf_get]
 have hb1 : bitN (bt s (i : Int)) ≤ 1:=by unfold bitN;split <;> omega
 have hbd : decide (bitN (bt s (i : Int)) = 1) = bitB (bt s (i : Int)):=by unfold bitN bitB;split <;> simp [*]
 unfold phi
 rw [h1]
 have hR : crcL ((bytesOf s).take i) < 32768:=crcL_lt _
 generalize crcL ((bytesOf s).take i) = R at *
 rw [decide_eq_true (show i < i + 15 by omega),decide_eq_true hi,Nat.sub_self,Bool.true_and,Bool.true_and]
 by_cases h : t < i + 16
 ·obtain ⟨j,hj,hj15⟩ : ∃ j,t = i + 15 - j ∧ j < 15:=⟨i + 15 - t,by omega,by omega⟩
  subst hj
  rw [show 14 - (i + 15 - j - (i + 1)) = j by omega,crcN_testBit R _ hR hb1 j hj15,hbd,show 15 - (i + 15 - j - i) = j by omega,decide_eq_true (show i + 15 - j < i + 1 + 15 by omega)]
  have hg : Nat.testBit 50585 j = Nat.testBit 17817 j:=by
   have : ∀ j : Fin 15,Nat.testBit 50585 j.val = Nat.testBit 17817 j.val:=by decide
   exact this ⟨j,hj15⟩
  rw [hg]
  by_cases h0 : 0 < j
  ·rw [decide_eq_true h0,decide_eq_true (show i + 15 - j < i + 15 by omega),show 14 - (i + 15 - j - i) = j - 1 by omega]
   simp only [Bool.true_and,Bool.and_true]
   cases R.testBit (j - 1) <;> cases R.testBit 14 <;> cases bitB (bt s (i : Int)) <;> cases Nat.testBit 17817 j <;> simp
  ·rw [decide_eq_false h0,decide_eq_false (show ¬ i + 15 - j < i + 15 by omega)]
   simp only [Bool.true_and,Bool.and_true,Bool.false_and]
   cases R.testBit 14 <;> cases bitB (bt s (i : Int)) <;> cases Nat.testBit 17817 j <;> simp
 ·rw [decide_eq_false (show ¬ t < i + 1 + 15 by omega),decide_eq_false (show ¬ t < i + 15 by omega)]
  simp
theorem l4_ev (v : List Int) (R : Nat) (hR : R < 32768) (hv : Holds v (s.size + 15) s.size (fun t => R.testBit (14 - (t - s.size)))) :
  ∀ (d j : Nat),j + d = 15 → Ev (fun k => spec_Crc15.l4 k v ((R >>> (15 - j) : Nat) : Int) ((s.size + j : Nat) : Int)) (R : Int):=by
 obtain ⟨hl,hv⟩:=hv
 intro d
 induction d with
 | zero =>
  intro j hj
  refine Ev.step (f:=fun _ => some (R : Int)) (fun k => ?_) (Ev.now _)
  simp only [spec_Crc15.l4]
  rw [if_neg (by omega),show 15 - j = 0 by omega,Nat.shiftRight_zero]
 | succ d ih =>
  intro j hj
  refine Ev.step (f:=fun k => spec_Crc15.l4 k v ((R >>> (15 - (j + 1)) : Nat) : Int) ((s.size + (j + 1) : Nat) : Int)) (fun k => ?_) (ih (j + 1) (by omega))
  have hb0 : (R >>> (15 - j)) < 32768:=Nat.lt_of_le_of_lt (Nat.shiftRight_le _ _) hR
  have hx : R >>> (15 - (j + 1)) = 2 * (R >>> (15 - j)) + (R.testBit (14 - j)).toNat:=by
   have e : 15 - j = (14 - j) + 1:=by omega
   rw [show 15 - (j + 1) = 14 - j by omega,e,Nat.shiftRight_succ,Nat.testBit_eq_decide_div_mod_eq,Nat.shiftRight_eq_div_pow]
   generalize R / 2 ^ (14 - j) = q
   by_cases h : q % 2 = 1
   ·rw [decide_eq_true h];simp;omega
   ·rw [decide_eq_false h];simp;omega
  have hr : rd v ((s.size + j : Nat) : Int) = (((R.testBit (14 - j)).toNat : Nat) : Int):=by
   rw [hv (s.size + j) (by omega) (by omega)];dsimp only;rw [show s.size + j - s.size = j by omega]
   unfold b2
   cases R.testBit (14 - j) <;> rfl
  have ht : (R.testBit (14 - j)).toNat ≤ 1:=Bool.toNat_le _
  simp only [spec_Crc15.l4]
  rw [if_pos (by omega),if_pos (by omega),hr,w64 (x:=2 * _) (by omega) (by omega),w64 (x:=(((R.testBit (14 - j)).toNat : Nat) : Int)) (by omega) (by omega),w64 (by omega) (by omega),w64 (by omega) (by omega),hx]
  push_cast
  rfl
theorem l3_ev (i : Nat) (hi : i < s.size) (φ : Nat → Bool) (r : Int)
  (next : ∀ v,Holds v (s.size + 15) (i + 1) (fun t => φ t ^^ (decide (t < i + 16) && Nat.testBit 50585 (15 - (t - i)))) → Ev (fun k => spec_Crc15.l2 k v (⟨#[49,49,48,48,48,49,48,49,49,48,48,49,49,48,48,49]⟩ : ByteArray) ((i + 1 : Nat) : Int)) r) :
  ∀ (d j : Nat) (v : List Int),j + d = 16 → Holds v (s.size + 15) i (fun t => φ t ^^ (decide (t < i + j) && Nat.testBit 50585 (15 - (t - i)))) → Ev (fun k => spec_Crc15.l3 k v (⟨#[49,49,48,48,48,49,48,49,49,48,48,49,49,48,48,49]⟩ : ByteArray) (i : Int) (j : Int)) r:=by
 intro d
 induction d with
 | zero =>
  intro j v hj hv
  obtain rfl : j = 16:=by omega
  refine Ev.step (f:=fun k => spec_Crc15.l2 k v (⟨#[49,49,48,48,48,49,48,49,49,48,48,49,49,48,48,49]⟩ : ByteArray) ((i + 1 : Nat) : Int)) (fun k => ?_) (next v ⟨hv.1,fun t h1 h2 => hv.2 t (by omega) h2⟩)
  simp only [spec_Crc15.l3]
  rw [if_neg (by omega),w64 (by omega) (by omega)]
  rfl
 | succ d ih =>
  intro j v hj hv
  obtain ⟨hl,hv⟩:=hv
  have hg:=gtext j (by omega)
  have hx : bits .xor .u8 (rd v ((i + j : Nat) : Int)) (b2 (Nat.testBit 50585 (15 - j))) = b2 (φ (i + j) ^^ Nat.testBit 50585 (15 - j)):=by
   rw [hv (i + j) (by omega) (by omega)];dsimp only;rw [decide_eq_false (show ¬ i + j < i + j by omega),Bool.false_and,Bool.xor_false,b2_xor]
  refine Ev.step (f:=fun k => spec_Crc15.l3 k (v.set (i + j) (b2 (φ (i + j) ^^ Nat.testBit 50585 (15 - j)))) (⟨#[49,49,48,48,48,49,48,49,49,48,48,49,49,48,48,49]⟩ : ByteArray) (i : Int) ((j + 1 : Nat) : Int)) (fun k => ?_) (ih (j + 1) _ (by omega) ⟨by rw [List.length_set];exact hl,fun t h1 h2 => ?_⟩)
  ·simp only [spec_Crc15.l3]
   rw [w64 (x:=(i : Int) + (j : Int)) (by omega) (by omega),show (i : Int) + (j : Int) = ((i + j : Nat) : Int) by omega,if_pos (by omega),if_pos (by omega),if_pos (by omega),if_pos (by omega),if_pos (by rw [show (ByteArray.size _ : Nat) = 16 from rfl];omega),hg,hx,w64 (by omega) (by omega)]
   rfl
  ·rw [rd_set v (i + j) _ t (by omega)]
   by_cases e : t = i + j
   ·subst e
    rw [if_pos rfl];dsimp only;rw [decide_eq_true (show i + j < i + (j + 1) by omega),Bool.true_and,show i + j - i = j by omega]
   ·rw [if_neg e,hv t h1 h2]
    dsimp only
    rw [show decide (t < i + j) = decide (t < i + (j + 1)) from decide_eq_decide.2 ⟨fun _ => by omega,fun _ => by omega⟩]
theorem l2_ev : ∀ (d i : Nat) (v : List Int),i + d = s.size → Holds v (s.size + 15) i (phi s i) → Ev (fun k => spec_Crc15.l2 k v (⟨#[49,49,48,48,48,49,48,49,49,48,48,49,49,48,48,49]⟩ : ByteArray) (i : Int)) (crcL (bytesOf s) : Int):=by
 intro d
 induction d with
 | zero =>
  intro i v hi hv
  obtain rfl : i = s.size:=by omega
  have h4:=l4_ev s hs hb (v:=v) (crcL (bytesOf s)) (crcL_lt _) ⟨hv.1,fun t h1 h2 => by
   rw [hv.2 t h1 h2];unfold phi;dsimp only
   rw [decide_eq_false (show ¬ t < s.size by omega),decide_eq_true (show t < s.size + 15 by omega),List.take_of_length_le (by rw [bytesOf_length];omega)];simp⟩ 15 0 (by omega)
  refine Ev.step (f:=fun k => spec_Crc15.l4 k v ((crcL (bytesOf s) >>> (15 - 0) : Nat) : Int) ((s.size + 0 : Nat) : Int)) (fun k => ?_) h4
  have hz : crcL (bytesOf s) >>> (15 - 0) = 0:=by rw [Nat.shiftRight_eq_div_pow];have:=crcL_lt (bytesOf s);omega
  have hl:=hv.1
  simp only [spec_Crc15.l2]
  rw [w64 (by omega) (by omega),if_neg (by omega),hz,hl,w64 (by omega) (by omega),show ((s.size + 15 : Nat) : Int) - 15 = ((s.size + 0 : Nat) : Int) by omega]
  rfl
 | succ d ih =>
  intro i v hi hv
  have hl:=hv.1
  have his : i < s.size:=by omega
  have hr : rd v (i : Int) = b2 (phi s i i):=hv.2 i (by omega) (by omega)
  cases hp : phi s i i with
  | true =>
   refine Ev.step (f:=fun k => spec_Crc15.l3 k v (⟨#[49,49,48,48,48,49,48,49,49,48,48,49,49,48,48,49]⟩ : ByteArray) (i : Int) ((0 : Nat) : Int)) (fun k => ?_) (l3_ev s hs hb i his (phi s i) _ (fun v' hv' => ih (i + 1) v' (by omega) ⟨hv'.1,fun t h1 h2 => ?_⟩) 16 0 v (by omega) ⟨hl,fun t h1 h2 => ?_⟩)
   ·simp only [spec_Crc15.l2]
    rw [w64 (by omega) (by omega),if_pos (by omega),if_pos (by omega),if_pos (by omega),hr,hp,if_pos (show b2 true = 1 from rfl)]
    rfl
   ·rw [hv'.2 t h1 h2];dsimp only;rw [phi_step s i t his h1 h2,hp,Bool.true_and]
   ·rw [hv.2 t h1 h2];dsimp only;rw [decide_eq_false (show ¬ t < i + 0 by omega),Bool.false_and,Bool.xor_false]
  | false =>
   refine Ev.step (f:=fun k => spec_Crc15.l2 k v (⟨#[49,49,48,48,48,49,48,49,49,48,48,49,49,48,48,49]⟩ : ByteArray) ((i + 1 : Nat) : Int)) (fun k => ?_) (ih (i + 1) v (by omega) ⟨hl,fun t h1 h2 => ?_⟩)
   ·simp only [spec_Crc15.l2]
    rw [w64 (x:=(i : Int) + 15) (by omega) (by omega),if_pos (by omega),if_pos (by omega),if_pos (by omega),hr,hp,if_neg (by decide),w64 (by omega) (by omega)]
    rfl
   ·rw [hv.2 t (by omega) h2,phi_step s i t his h1 h2,hp];simp
theorem l1_ev (φ : Nat → Bool) (hφ : ∀ t,s.size ≤ t → φ t = false) (r : Int) (next : ∀ v,Holds v (s.size + 15) 0 φ → Ev (fun k => spec_Crc15.l2 k v (⟨#[49,49,48,48,48,49,48,49,49,48,48,49,49,48,48,49]⟩ : ByteArray) 0) r) :
  ∀ (d j : Nat) (v : List Int),j + d = 15 → Holds v (s.size + j) 0 φ → Ev (fun k => spec_Crc15.l1 k v (j : Int)) r:=by
 intro d
 induction d with
 | zero =>
  intro j v hj hv
  obtain rfl : j = 15:=by omega
  refine Ev.step (fun k => ?_) (next v hv)
  simp only [spec_Crc15.l1]
  rw [if_neg (by omega)]
 | succ d ih =>
  intro j v hj hv
  obtain ⟨hl,hv⟩:=hv
  refine Ev.step (f:=fun k => spec_Crc15.l1 k (v ++ [0]) ((j + 1 : Nat) : Int)) (fun k => ?_) (ih (j + 1) _ (by omega) ⟨by rw [List.length_append,hl];simp;omega,fun t h1 h2 => ?_⟩)
  ·simp only [spec_Crc15.l1]
   rw [if_pos (by omega),if_pos (by omega),w64 (by omega) (by omega)]
   rfl
  ·rw [rd_snoc]
   by_cases h : t < v.length
   ·rw [if_pos h,hv t h1 (by omega)]
   ·rw [if_neg h,if_pos (by omega),hφ t (by omega)];rfl
theorem l0_ev (r : Int) (next : ∀ v,Holds v s.size 0 (fun t => decide (t < s.size) && bitB (bt s (t : Int))) → Ev (fun k => spec_Crc15.l1 k v 0) r) :
  ∀ (d i : Nat) (v : List Int),i + d = s.size → Holds v i 0 (fun t => decide (t < s.size) && bitB (bt s (t : Int))) → Ev (fun k => spec_Crc15.l0 k s v (i : Int)) r:=by
 intro d
 induction d with
 | zero =>
  intro i v hi hv
  obtain rfl : i = s.size:=by omega
  refine Ev.step (fun k => ?_) (next v hv)
  simp only [spec_Crc15.l0]
  rw [if_neg (by omega)]
 | succ d ih =>
  intro i v hi hv
  obtain ⟨hl,hv⟩:=hv
  have hx : (bt s (i : Int) - 48) % 256 = b2 (bitB (bt s (i : Int))):=by
   rcases bit_at s hb i (by omega) with e | e <;> rw [e] <;> decide
  refine Ev.step (f:=fun k => spec_Crc15.l0 k s (v ++ [b2 (bitB (bt s (i : Int)))]) ((i + 1 : Nat) : Int)) (fun k => ?_) (ih (i + 1) _ (by omega) ⟨by rw [List.length_append,hl];rfl,fun t h1 h2 => ?_⟩)
  ·simp only [spec_Crc15.l0]
   rw [if_pos (by omega),if_pos (by omega),if_pos (by omega),w64 (by omega) (by omega),hx]
   rfl
  ·rw [rd_snoc]
   by_cases h : t < v.length
   ·rw [if_pos h,hv t h1 (by omega)]
   ·obtain rfl : t = i:=by omega
    rw [if_neg h,if_pos hl.symm];dsimp only;rw [decide_eq_true (show t < s.size by omega),Bool.true_and]
end
def crcV (s : ByteArray) : Int:=if s.size ≤ 2000 ∧ isBits s = true then (crcL (bytesOf s) : Int) else -1
theorem specCrc15_ev (s : ByteArray) (h : s.size < 100000000) : Ev (fun k => spec_Crc15.f k s) (crcV s):=by
 have hk:=okBits_ev s 2000 (by omega)
 unfold crcV
 by_cases c : s.size ≤ 2000 ∧ isBits s = true
 ·rw [if_pos c]
  rw [c.2,decide_eq_true c.1] at hk
  refine Ev.congr (fun k => rfl) (Ev.bind (f:=fun k t => if t = true then spec_Crc15.l0 k s ([] : List Int) 0 else some (-1)) hk ?_)
  simp only [Bool.and_self,if_true]
  refine l0_ev s c.1 c.2 _ (fun v hv => l1_ev s c.1 c.2 _ (fun t ht => by rw [decide_eq_false (by omega)];rfl) _ (fun v' hv' => l2_ev s c.1 c.2 s.size 0 v' (by omega) ⟨hv'.1,fun t h1 h2 => ?_⟩) 15 0 v (by omega) hv) s.size 0 [] (by omega) ⟨rfl,fun t h1 h2 => by omega⟩
  rw [hv'.2 t h1 h2];dsimp only;unfold phi
  rw [List.take_zero]
  simp [crcL]
 ·rw [if_neg c]
  have hf : (decide (s.size ≤ 2000) && isBits s) = false:=by
   rw [Bool.and_eq_false_iff]
   by_cases hh : isBits s = true
   ·exact .inl (decide_eq_false fun h2 => c ⟨h2,hh⟩)
   ·exact .inr (by simpa using hh)
  rw [hf] at hk
  exact Ev.congr (fun k => rfl) (Ev.bind (f:=fun k t => if t = true then spec_Crc15.l0 k s ([] : List Int) 0 else some (-1)) hk (Ev.now _))
end Go.Proofs.Ytdoclpgciadjaaa.P

namespace Go.Proofs.Ytdoclpgciadjaaa.P
open Go Go.RowKit Go.Proofs.YtdoclpgciadjaaaW.PrintWords
set_option linter.unusedVariables false
theorem rd_app_at (S Y : List Int) (a : Int) : rd (S ++ a :: Y) (S.length : Int) = a:=by
 unfold rd
 rw [Int.toNat_natCast,List.getD_eq_getElem?_getD,List.getElem?_append_right (Nat.le_refl _),Nat.sub_self];rfl
theorem bt_str (l : List Int) (i : Nat) (h : i < l.length) (hb : ∀ x ∈ l,0 ≤ x ∧ x < 256) : bt (strOfNums l) (i : Int) = rd l (i : Int):=by
 have hs : i < (strOfNums l).size:=by rw [strOfNums_size];exact h
 rw [bt_eq _ i hs]
 have h2 : (bytesOf (strOfNums l))[i]? = some (((strOfNums l)[i]'hs).toNat : Int):=by
  unfold bytesOf
  rw [List.getElem?_map,Array.getElem?_toList,Array.getElem?_eq_getElem (show i < (strOfNums l).data.size from hs)]
  rfl
 rw [bytes_str l hb] at h2
 unfold rd
 rw [Int.toNat_natCast,List.getD_eq_getElem?_getD,h2]
 rfl
theorem val_ev (l : List Int) (hb : Bits l) (hl : l.length ≤ 40) : Ev (fun k => spec_l1val.f k (strOfNums l)) (V l):=by
 have loop : ∀ (d i : Nat),i + d = l.length → Ev (fun k => spec_l1val.l0 k (strOfNums l) (V (l.take i)) (i : Int)) (V l):=by
  intro d
  induction d with
  | zero =>
   intro i hi
   refine Ev.step (f:=fun _ => some (V l)) (fun k => ?_) (Ev.now _)
   simp only [spec_l1val.l0]
   rw [if_neg (by rw [strOfNums_size];omega),List.take_of_length_le (by omega)]
  | succ d ih =>
   intro i hi
   refine Ev.step (f:=fun k => spec_l1val.l0 k (strOfNums l) (V (l.take (i + 1))) ((i + 1 : Nat) : Int)) (fun k => ?_) (ih (i + 1) (by omega))
   have ht : l.take (i + 1) = l.take i ++ [rd l (i : Int)]:=by
    rw [List.take_succ_eq_append_getElem (by omega)]
    congr 2
    have:=rd_get l i (by omega)
    rw [List.getElem?_eq_getElem (by omega)] at this
    exact Option.some.inj this
   have hbt : Bits (l.take i):=fun x hx => hb x (List.mem_of_mem_take hx)
   have hv:=V_lt hbt (n:=40) (by rw [List.length_take];omega) (m:=1099511627776) (by decide)
   have hv0:=(V_range hbt).1
   have hm : rd l (i : Int) = 48 ∨ rd l (i : Int) = 49:=hb _ (by have:=rd_get l i (by omega);exact List.mem_of_getElem? this)
   rw [ht,V_snoc]
   simp only [spec_l1val.l0]
   have w2 : wrap64 (2 * V (l.take i)) = 2 * V (l.take i):=by unfold wrap64;omega
   have w3 : wrap64 (2 * V (l.take i) + 1) = 2 * V (l.take i) + 1:=by unfold wrap64;omega
   rw [if_pos (by rw [strOfNums_size];omega),if_pos (by omega),bt_str l i (by omega) hb.range,w2,w3,w64 (by omega) (by omega)]
   rcases hm with e | e
   ·rw [if_neg (by omega),e];simp
   ·rw [if_pos e,e];simp
 have h0:=loop l.length 0 (by omega)
 exact h0
theorem hd_len {H : List Int} {e r : Bool} {i : Int} (h : Hd H e r i) : H.length = if e = true then 35 else 15:=by
 cases h with
 | base a r z I h => simp [h]
 | ext a r q z y I J h k => simp [h,k]
theorem hd_13 {H : List Int} {e r : Bool} {i : Int} (h : Hd H e r i) (R : List Int) : rd (H ++ R) 13 = if e = true then 49 else 48:=by
 cases h with
 | base a r z I h =>
  have:=rd_app_at (a :: I ++ [r]) ([z] ++ R) 48
  rw [show (((a :: I ++ [r]).length : Nat) : Int) = 13 by simp [h]] at this
  rw [show a :: I ++ [r,48,z] ++ R = (a :: I ++ [r]) ++ 48 :: ([z] ++ R) by simp]
  exact this
 | ext a r q z y I J h k =>
  have:=rd_app_at (a :: I ++ [r]) (J ++ [q,z,y] ++ R) 49
  rw [show (((a :: I ++ [r]).length : Nat) : Int) = 13 by simp [h]] at this
  rw [show a :: I ++ [r,49] ++ J ++ [q,z,y] ++ R = (a :: I ++ [r]) ++ 49 :: (J ++ [q,z,y] ++ R) by simp]
  exact this
theorem hd_rtr {H : List Int} {e r : Bool} {i : Int} (h : Hd H e r i) (R : List Int) : (rd (H ++ R) (if e = true then 32 else 12) == 49) = r:=by
 cases h with
 | base a r z I h =>
  have:=rd_app_at (a :: I) ([48,z] ++ R) r
  rw [show (((a :: I).length : Nat) : Int) = 12 by simp [h]] at this
  rw [show a :: I ++ [r,48,z] ++ R = (a :: I) ++ r :: ([48,z] ++ R) by simp]
  simp only [Bool.false_eq_true,if_false]
  rw [this]
 | ext a r q z y I J h k =>
  have:=rd_app_at (a :: I ++ [r,49] ++ J) ([z,y] ++ R) q
  rw [show (((a :: I ++ [r,49] ++ J).length : Nat) : Int) = 32 by simp [h,k]] at this
  rw [show a :: I ++ [r,49] ++ J ++ [q,z,y] ++ R = (a :: I ++ [r,49] ++ J) ++ q :: ([z,y] ++ R) by simp]
  simp only [if_true]
  rw [this]
theorem lay_full {H D R : List Int} {e r : Bool} {i : Int} (h : Hd H e r i) (d : D.length = 4) (hb : Bits D) (hn : R.length ≤ 4000) :
  Ev (fun k => spec_l1lay.f k (H ++ D ++ R)) ((H.length : Int) + 4,(H.length : Int) + 4 + 8 * dataB r (V D)):=by
 have hl:=hd_len h
 have h13:=hd_13 h (D ++ R)
 have hr:=hd_rtr h (D ++ R)
 rw [← List.append_assoc] at h13 hr
 have hlen : (H ++ D ++ R).length = H.length + 4 + R.length:=by simp [d];omega
 have hv0:=(V_range hb).1
 have hv1:=V_lt hb (n:=4) (by omega) (m:=16) (by decide)
 have hsl : ((H ++ D ++ R).take (((H.length : Int) + 4).toNat)).drop (((H.length : Int) + 4 - 4).toNat) = D:=by
  rw [show ((H.length : Int) + 4).toNat = (H ++ D).length by simp [d];omega,List.take_left,show ((H.length : Int) + 4 - 4).toNat = H.length by omega,List.drop_left]
 have hval:=val_ev D hb (by omega)
 have j1 : Ev (fun k => spec_l1lay.j1 k (H ++ D ++ R) ((H.length : Int) + 4) r) ((H.length : Int) + 4,(H.length : Int) + 4 + 8 * dataB r (V D)):=by
  have hH : (H.length : Int) ≤ 35:=by rw [hl];split <;> omega
  have w1 : wrap64 ((H.length : Int) + 4 - 4) = (H.length : Int) + 4 - 4:=w64 (by omega) (by omega)
  refine Ev.step (f:=fun k => (spec_l1val.f k (strOfNums D)).bind fun t265 => (if t265 > 8 then (if r = true then (some ((H.length : Int) + 4,wrap64 ((H.length : Int) + 4 + (8 * 0)))) else (some ((H.length : Int) + 4,wrap64 ((H.length : Int) + 4 + (8 * 8))))) else (if r = true then (some ((H.length : Int) + 4,wrap64 ((H.length : Int) + 4 + (8 * 0)))) else (some ((H.length : Int) + 4,wrap64 ((H.length : Int) + 4 + (wrap64 (8 * t265)))))))) (fun k => ?_) (Ev.bind hval ?_)
  ·simp only [spec_l1lay.j1]
   rw [w1,if_pos (by omega),if_pos (by omega),if_pos (by omega),hsl]
  ·unfold dataB
   by_cases c8 : V D > 8
   ·refine ev_pos c8 ?_
    cases r with
    | true => refine ev_pos rfl ?_;rw [if_pos rfl,w64 (by omega) (by omega)];exact Ev.now _
    | false => refine ev_neg (by decide) ?_;rw [if_neg (by decide),if_pos c8,w64 (by omega) (by omega)];exact Ev.now _
   ·refine ev_neg c8 ?_
    cases r with
    | true => refine ev_pos rfl ?_;rw [if_pos rfl,w64 (by omega) (by omega)];exact Ev.now _
    | false => refine ev_neg (by decide) ?_;rw [if_neg (by decide),if_neg c8,w64 (x:=8 * V D) (by omega) (by omega),w64 (by omega) (by omega)];exact Ev.now _
 unfold spec_l1lay.f
 cases e with
 | true =>
  simp only [if_true] at hl h13 hr
  rw [hl] at j1 ⊢
  refine ev_neg (by omega) (ev_pos (by omega) (ev_pos h13 ?_))
  refine Ev.step (f:=fun k => spec_l1lay.j1 k (H ++ D ++ R) 39 r) (fun k => ?_) j1
  simp only [spec_l1lay.j0]
  rw [if_neg (by omega),if_pos (by omega),if_pos (by decide),if_pos (by omega),hr]
 | false =>
  simp only [Bool.false_eq_true,if_false] at hl h13 hr
  rw [hl] at j1 ⊢
  refine ev_neg (by omega) (ev_pos (by omega) (ev_neg (by omega) ?_))
  refine Ev.step (f:=fun k => spec_l1lay.j1 k (H ++ D ++ R) 19 r) (fun k => ?_) j1
  simp only [spec_l1lay.j0]
  rw [if_neg (by omega),if_pos (by omega),if_neg (by decide),hr]
theorem lay_part {p : List Int} {e : Bool} (h13 : rd p 13 = if e = true then 49 else 48) (hn : 14 ≤ p.length) (hl : p.length < if e = true then 39 else 19) : Ev (fun k => spec_l1lay.f k p) (if e = true then 39 else 19,0):=by
 unfold spec_l1lay.f
 cases e with
 | true =>
  simp only [if_true] at h13 hl ⊢
  refine ev_neg (by omega) (ev_pos (by omega) (ev_pos h13 ?_))
  refine Ev.step (f:=fun _ => some (39,0)) (fun k => ?_) (Ev.now _)
  simp only [spec_l1lay.j0]
  rw [if_pos (by omega)]
 | false =>
  simp only [Bool.false_eq_true,if_false] at h13 hl ⊢
  refine ev_neg (by omega) (ev_pos (by omega) (ev_neg (by omega) ?_))
  refine Ev.step (f:=fun _ => some (19,0)) (fun k => ?_) (Ev.now _)
  simp only [spec_l1lay.j0]
  rw [if_pos (by omega)]
theorem lay_few {p : List Int} (hn : p.length < 14) : Ev (fun k => spec_l1lay.f k p) (0,0):=by
 unfold spec_l1lay.f
 exact ev_pos (by omega) (Ev.now _)
theorem field_full {H D R : List Int} {e r : Bool} {i : Int} (h : Hd H e r i) (d : D.length = 4) (hb : Bits D) (hn : R.length ≤ 4000) :
  Ev (fun k => spec_l1field.f k (H ++ D ++ R)) (if (R.length : Int) < 8 * dataB r (V D) then 9 else if (R.length : Int) < 8 * dataB r (V D) + 15 then 10 else if (R.length : Int) < 8 * dataB r (V D) + 18 then 11 + ((R.length : Int) - 8 * dataB r (V D) - 15) else if (R.length : Int) < 8 * dataB r (V D) + 25 then 14 else 15):=by
 have hl:=hd_len h
 have hH : H.length = 15 ∨ H.length = 35:=by rw [hl];split <;> omega
 have hd:=dataB_range (r:=r) (V_range hb).1
 have hlen : (H ++ D ++ R).length = H.length + 4 + R.length:=by simp [d];omega
 unfold spec_l1field.f
 rw [hlen]
 refine ev_neg (by omega) (ev_neg (by omega) (ev_neg (by omega) (ev_neg (by omega) (Ev.bind (lay_full h d hb hn) (ev_neg (by simp only [];omega) ?_)))))
 simp only []
 rw [w64 (x:=(H.length : Int) + 4 + 8 * dataB r (V D) + 15) (by omega) (by omega),w64 (x:=(H.length : Int) + 4 + 8 * dataB r (V D) + 18) (by omega) (by omega),w64 (x:=(H.length : Int) + 4 + 8 * dataB r (V D) + 25) (by omega) (by omega)]
 by_cases c1 : (R.length : Int) < 8 * dataB r (V D)
 ·rw [if_pos c1];exact ev_pos (by omega) (Ev.now _)
 rw [if_neg c1];refine ev_neg (by omega) ?_
 by_cases c2 : (R.length : Int) < 8 * dataB r (V D) + 15
 ·rw [if_pos c2];exact ev_pos (by omega) (Ev.now _)
 rw [if_neg c2];refine ev_neg (by omega) ?_
 by_cases c3 : (R.length : Int) < 8 * dataB r (V D) + 18
 ·rw [if_pos c3];refine ev_pos (by omega) ?_
  have e : wrap64 (wrap64 (wrap64 (11 + ((H.length + 4 + R.length : Nat) : Int)) - ((H.length : Int) + 4 + 8 * dataB r (V D))) - 15) = 11 + ((R.length : Int) - 8 * dataB r (V D) - 15):=by unfold wrap64;omega
  rw [e];exact Ev.now _
 rw [if_neg c3];refine ev_neg (by omega) ?_
 by_cases c4 : (R.length : Int) < 8 * dataB r (V D) + 25
 ·rw [if_pos c4];exact ev_pos (by omega) (Ev.now _)
 ·rw [if_neg c4];exact ev_neg (by omega) (Ev.now _)
theorem field_part {p : List Int} {e : Bool} (h13 : rd p 13 = if e = true then 49 else 48) (hn : 14 ≤ p.length) (hl : p.length < if e = true then 39 else 19) :
  Ev (fun k => spec_l1field.f k p) (if e = true then (if p.length < 32 then 5 else if p.length = 32 then 6 else if p.length < 35 then 7 else 8) else (if p.length < 15 then 7 else 8)):=by
 unfold spec_l1field.f
 refine ev_neg (by omega) (ev_neg (by omega) (ev_neg (by omega) (ev_neg (by omega) (Ev.bind (lay_part h13 hn hl) ?_))))
 cases e with
 | true =>
  simp only [if_true] at hl ⊢
  rw [w64 (x:=(39 : Int) - 4) (by omega) (by omega)]
  refine ev_pos (by omega) ?_
  by_cases c : p.length < 32
  ·rw [if_pos c];exact ev_neg (by omega) (ev_neg (by omega) (ev_pos (by omega) (Ev.now _)))
  rw [if_neg c]
  by_cases c2 : p.length = 32
  ·rw [if_pos c2];exact ev_neg (by omega) (ev_neg (by omega) (ev_neg (by omega) (ev_pos (by omega) (Ev.now _))))
  rw [if_neg c2]
  by_cases c3 : p.length < 35
  ·rw [if_pos c3];exact ev_neg (by omega) (ev_neg (by omega) (ev_neg (by omega) (ev_neg (by omega) (Ev.now _))))
  ·rw [if_neg c3];exact ev_pos (by omega) (Ev.now _)
 | false =>
  simp only [Bool.false_eq_true,if_false] at hl ⊢
  rw [w64 (x:=(19 : Int) - 4) (by omega) (by omega)]
  refine ev_pos (by omega) ?_
  by_cases c : p.length < 15
  ·rw [if_pos c];exact ev_neg (by omega) (ev_pos (by decide) (Ev.now _))
  ·rw [if_neg c];exact ev_pos (by omega) (Ev.now _)
theorem field_ev {p : List Int} {c : Int × Int × Int × Bool × Int × Bool × Int × List Int} {m : Int} (h : Ph p c m) (hp : Bits p) : Ev (fun k => spec_l1field.f k p) c.1:=by
 have few : ∀ {q : List Int} {v : Int},(q.length = 0 ∧ v = 1 ∨ (0 < q.length ∧ q.length < 12) ∧ v = 2 ∨ q.length = 12 ∧ v = 3 ∨ q.length = 13 ∧ v = 4) → Ev (fun k => spec_l1field.f k q) v:=by
  intro q v hq
  unfold spec_l1field.f
  rcases hq with ⟨h,rfl⟩ | ⟨h,rfl⟩ | ⟨h,rfl⟩ | ⟨h,rfl⟩
  ·exact ev_pos (by omega) (Ev.now _)
  ·exact ev_neg (by omega) (ev_pos (by omega) (Ev.now _))
  ·exact ev_neg (by omega) (ev_neg (by omega) (ev_pos (by omega) (Ev.now _)))
  ·exact ev_neg (by omega) (ev_neg (by omega) (ev_neg (by omega) (ev_pos (by omega) (Ev.now _))))
 have r13 : ∀ (a r z : Int) (I R : List Int),I.length = 11 → rd (a :: I ++ [r] ++ z :: R) 13 = z:=by
  intro a r z I R h
  have:=rd_app_at (a :: I ++ [r]) R z
  rw [show (((a :: I ++ [r]).length : Nat) : Int) = 13 by simp [h]] at this
  exact this
 cases h with
 | sof => exact few (by simp)
 | ida a I h => exact few (by simp;omega)
 | rtr a I h => exact few (by simp;omega)
 | ide a r I h => exact few (by simp;omega)
 | idb a r I J h k =>
  have:=field_part (p:=a :: I ++ [r,49] ++ J) (e:=true) (by have:=r13 a r 49 I J h;simpa using this) (by simp;omega) (by simp;omega)
  simp only [if_true] at this
  rw [if_pos (by simp;omega)] at this
  exact this
 | rtrx a r I J h k =>
  have:=field_part (p:=a :: I ++ [r,49] ++ J) (e:=true) (by have:=r13 a r 49 I J h;simpa using this) (by simp;omega) (by simp;omega)
  simp only [if_true] at this
  rw [if_neg (by simp;omega),if_pos (by simp;omega)] at this
  exact this
 | resx a r q I J Z h k z =>
  have:=field_part (p:=a :: I ++ [r,49] ++ J ++ [q] ++ Z) (e:=true) (by have:=r13 a r 49 I (J ++ [q] ++ Z) h;simpa using this) (by simp;omega) (by simp;omega)
  simp only [if_true] at this
  rw [if_neg (by simp;omega),if_neg (by simp;omega),if_pos (by simp;omega)] at this
  exact this
 | resb a r I h =>
  have:=field_part (p:=a :: I ++ [r,48]) (e:=false) (by have:=r13 a r 48 I [] h;simpa using this) (by simp;omega) (by simp;omega)
  simp only [Bool.false_eq_true,if_false] at this
  rw [if_pos (by simp;omega)] at this
  exact this
 | dlc H D e r i h d =>
  have hl:=hd_len h
  have hlen : (H ++ D).length = H.length + D.length:=by simp
  have:=field_part (p:=H ++ D) (e:=e) (hd_13 h D) (by rw [hlen,hl];split <;> omega) (by rw [hlen,hl];split <;> omega)
  cases e with
  | true =>
   simp only [if_true] at this hl
   rw [hlen,if_neg (by omega),if_neg (by omega),if_neg (by omega)] at this
   exact this
  | false =>
   simp only [Bool.false_eq_true,if_false] at this hl
   rw [hlen,if_neg (by omega)] at this
   exact this
 | data H D X e r i h d x =>
  have hD : Bits D:=bits_len hp D (fun x hx => by simp [hx])
  have hr:=dataB_range (r:=r) (V_range hD).1
  have:=field_full (R:=X) h d hD (by omega)
  rw [if_pos x] at this
  exact this
 | crc H D X C e r i h d x c =>
  have hD : Bits D:=bits_len hp D (fun x hx => by simp [hx])
  have hr:=dataB_range (r:=r) (V_range hD).1
  have:=field_full (R:=X ++ C) h d hD (by simp;omega)
  rw [if_neg (by simp;omega),if_pos (by simp;omega), ← List.append_assoc] at this
  exact this
 | del H D X C T e r i h d x c t =>
  have hD : Bits D:=bits_len hp D (fun x hx => by simp [hx])
  have hr:=dataB_range (r:=r) (V_range hD).1
  have:=field_full (R:=X ++ C ++ T) h d hD (by simp;omega)
  rw [if_neg (by simp;omega),if_neg (by simp;omega),if_pos (by simp;omega), ← List.append_assoc, ← List.append_assoc,show 11 + (((X ++ C ++ T).length : Int) - 8 * dataB r (V D) - 15) = 11 + (T.length : Int) by simp;omega] at this
  exact this
 | eof H D X C T e r i h d x c t3 t =>
  have hD : Bits D:=bits_len hp D (fun x hx => by simp [hx])
  have hr:=dataB_range (r:=r) (V_range hD).1
  have:=field_full (R:=X ++ C ++ T) h d hD (by simp;omega)
  rw [if_neg (by simp;omega),if_neg (by simp;omega),if_neg (by simp;omega),if_pos (by simp;omega), ← List.append_assoc, ← List.append_assoc] at this
  exact this
end Go.Proofs.Ytdoclpgciadjaaa.P

namespace Go.Proofs.Ytdoclpgciadjaaa.P
open Go Go.RowKit Go.Proofs.YtdoclpgciadjaaaW.PrintWords
set_option linter.unusedVariables false
theorem ph_ok {p : List Int} {c : Int × Int × Int × Bool × Int × Bool × Int × List Int} {m : Int} (h : Ph p c m) (hp : Bits p) (s : WS) (hs : core s = c) (hr0 : 0 ≤ s.run) (hr1 : s.run ≤ 5) : WOk s:=by
 have mk : ∀ {f l g : Int} {e : Bool} {i : Int} {r : Bool} {d : Int} {x : List Int},CoreIs s f l g e i r d x s.sum → 1 ≤ f → f ≤ 14 → 1 ≤ l → l ≤ 64 → 0 ≤ d → d ≤ 15 → 0 ≤ g → g < 32768 → 0 ≤ i → i < 4294967296 → (f = 9 → l % 8 ≠ 0 → x ≠ []) → (∀ y ∈ x,0 ≤ y ∧ y < 256) → x.length ≤ 100 → WOk s:=by
  intro f l g e i r d x C a1 a2 a3 a4 a5 a6 a7 a8 a9 a10 a11 a12 a13
  obtain ⟨h1,h2,h3,h4,h5,h6,h7,h8, -⟩:=C
  subst h1 h2 h3 h5 h7 h8
  exact ⟨a1,a2,a3,a4,hr0,hr1,a5,a6,a7,a8,a9,a10,a11,a12,a13⟩
 have nob : ∀ y ∈ ([] : List Int),(0 : Int) ≤ y ∧ y < 256:=fun y hy => by cases hy
 have sub : ∀ {q : List Int},(∀ x ∈ q,x ∈ p) → Bits q:=fun hq x hx => hp x (hq x hx)
 have hdI : ∀ {H : List Int} {e r : Bool} {i : Int},Hd H e r i → (∀ x ∈ H,x ∈ p) → 0 ≤ i ∧ i < 4294967296:=by
  intro H e r i hh hq
  cases hh with
  | base a r z I h =>
   have hI : Bits I:=sub (fun x hx => hq x (by simp [hx]))
   exact ⟨(V_range hI).1,V_lt hI (n:=32) (by omega) (by decide)⟩
  | ext a r q z y I J h k =>
   have hI : Bits (I ++ J):=sub (fun x hx => hq x (by rcases List.mem_append.1 hx with h2 | h2 <;> simp [h2]))
   exact ⟨(V_range hI).1,V_lt hI (n:=32) (by simp;omega) (by decide)⟩
 have dB : ∀ {D : List Int},D.length ≤ 4 → (∀ x ∈ D,x ∈ p) → 0 ≤ V D ∧ V D ≤ 15:=by
  intro D hd hq
  have h1:=V_lt (sub hq) hd (m:=16) (by decide)
  exact ⟨(V_range (sub hq)).1,by omega⟩
 have gB : ∀ {C : List Int},C.length ≤ 15 → (∀ x ∈ C,x ∈ p) → 0 ≤ V C ∧ V C < 32768:=by
  intro C hd hq
  exact ⟨(V_range (sub hq)).1,V_lt (sub hq) hd (m:=32768) (by decide)⟩
 cases h with
 | sof => exact mk (core_is hs rfl) (by decide) (by decide) (by decide) (by decide) (by decide) (by decide) (by decide) (by decide) (by decide) (by decide) (fun h => absurd h (by decide)) nob (by simp)
 | ida a I h =>
  have hI : Bits I:=sub (fun x hx => by simp [hx])
  exact mk (core_is hs rfl) (by decide) (by decide) (by omega) (by omega) (by decide) (by decide) (by decide) (by decide) (V_range hI).1 (V_lt hI (n:=32) (by omega) (by decide)) (fun h => absurd h (by decide)) nob (by simp)
 | rtr a I h =>
  have hI : Bits I:=sub (fun x hx => by simp [hx])
  exact mk (core_is hs rfl) (by decide) (by decide) (by omega) (by omega) (by decide) (by decide) (by decide) (by decide) (V_range hI).1 (V_lt hI (n:=32) (by omega) (by decide)) (fun h => absurd h (by decide)) nob (by simp)
 | ide a r I h =>
  have hI : Bits I:=sub (fun x hx => by simp [hx])
  exact mk (core_is hs rfl) (by decide) (by decide) (by omega) (by omega) (by decide) (by decide) (by decide) (by decide) (V_range hI).1 (V_lt hI (n:=32) (by omega) (by decide)) (fun h => absurd h (by decide)) nob (by simp)
 | idb a r I J h k =>
  have hI : Bits (I ++ J):=sub (fun x hx => by rcases List.mem_append.1 hx with h2 | h2 <;> simp [h2])
  exact mk (core_is hs rfl) (by decide) (by decide) (by omega) (by omega) (by decide) (by decide) (by decide) (by decide) (V_range hI).1 (V_lt hI (n:=32) (by simp;omega) (by decide)) (fun h => absurd h (by decide)) nob (by simp)
 | rtrx a r I J h k =>
  have hI : Bits (I ++ J):=sub (fun x hx => by rcases List.mem_append.1 hx with h2 | h2 <;> simp [h2])
  exact mk (core_is hs rfl) (by decide) (by decide) (by omega) (by omega) (by decide) (by decide) (by decide) (by decide) (V_range hI).1 (V_lt hI (n:=32) (by simp;omega) (by decide)) (fun h => absurd h (by decide)) nob (by simp)
 | resx a r q I J Z h k z =>
  have hI : Bits (I ++ J):=sub (fun x hx => by rcases List.mem_append.1 hx with h2 | h2 <;> simp [h2])
  exact mk (core_is hs rfl) (by decide) (by decide) (by omega) (by omega) (by decide) (by decide) (by decide) (by decide) (V_range hI).1 (V_lt hI (n:=32) (by simp;omega) (by decide)) (fun h => absurd h (by decide)) nob (by simp)
 | resb a r I h =>
  have hI : Bits I:=sub (fun x hx => by simp [hx])
  exact mk (core_is hs rfl) (by decide) (by decide) (by omega) (by omega) (by decide) (by decide) (by decide) (by decide) (V_range hI).1 (V_lt hI (n:=32) (by omega) (by decide)) (fun h => absurd h (by decide)) nob (by simp)
 | dlc H D e r i h d =>
  obtain ⟨i0,i1⟩:=hdI h (fun x hx => by simp [hx])
  obtain ⟨d0,d1⟩:=dB (D:=D) (by omega) (fun x hx => by simp [hx])
  exact mk (core_is hs rfl) (by decide) (by decide) (by omega) (by omega) d0 d1 (by decide) (by decide) i0 i1 (fun h => absurd h (by decide)) nob (by simp)
 | data H D X e r i h d x =>
  obtain ⟨i0,i1⟩:=hdI h (fun x hx => by simp [hx])
  obtain ⟨d0,d1⟩:=dB (D:=D) (by omega) (fun x hx => by simp [hx])
  have hr:=dataB_range (r:=r) d0
  have hlen:=bytesB_length X
  exact mk (core_is hs rfl) (by decide) (by decide) (by omega) (by omega) d0 d1 (by decide) (by decide) i0 i1 (fun _ hne hx => by rw [hx] at hlen;simp at hlen;omega) (bytesB_range X) (by omega)
 | crc H D X C e r i h d x c =>
  obtain ⟨i0,i1⟩:=hdI h (fun x hx => by simp [hx])
  obtain ⟨d0,d1⟩:=dB (D:=D) (by omega) (fun x hx => by simp [hx])
  obtain ⟨g0,g1⟩:=gB (C:=C) (by omega) (fun x hx => by simp [hx])
  have hr:=dataB_range (r:=r) d0
  have hlen:=bytesB_length X
  exact mk (core_is hs rfl) (by decide) (by decide) (by omega) (by omega) d0 d1 g0 g1 i0 i1 (fun h => absurd h (by decide)) (bytesB_range X) (by omega)
 | del H D X C T e r i h d x c t =>
  obtain ⟨i0,i1⟩:=hdI h (fun x hx => by simp [hx])
  obtain ⟨d0,d1⟩:=dB (D:=D) (by omega) (fun x hx => by simp [hx])
  obtain ⟨g0,g1⟩:=gB (C:=C) (by omega) (fun x hx => by simp [hx])
  have hr:=dataB_range (r:=r) d0
  have hlen:=bytesB_length X
  exact mk (core_is hs rfl) (by omega) (by omega) (by omega) (by omega) d0 d1 g0 g1 i0 i1 (fun h => absurd h (by omega)) (bytesB_range X) (by omega)
 | eof H D X C T e r i h d x c t3 t =>
  obtain ⟨i0,i1⟩:=hdI h (fun x hx => by simp [hx])
  obtain ⟨d0,d1⟩:=dB (D:=D) (by omega) (fun x hx => by simp [hx])
  obtain ⟨g0,g1⟩:=gB (C:=C) (by omega) (fun x hx => by simp [hx])
  have hr:=dataB_range (r:=r) d0
  have hlen:=bytesB_length X
  exact mk (core_is hs rfl) (by omega) (by omega) (by omega) (by omega) d0 d1 g0 g1 i0 i1 (fun h => absurd h (by omega)) (bytesB_range X) (by omega)
def codeL (s : WS) (b : Int) : Int :=
 if s.field = 1 then (if b = 1 then 4 else 0)
 else if s.field = 11 then (if b = 0 then 4 else 0)
 else if s.field = 13 then (if b = 0 then 4 else if crcOkW s = true then 0 else 5)
 else if s.field = 14 then (if 1 < s.left ∧ b = 0 then 4 else if s.left = 2 then 1 else if s.left = 1 ∧ b = 0 then 6 else if s.left = 1 then 2 else 0)
 else 0
theorem code_plain (s : WS) (b : Int) (h0 : s.code = 0) : (plainW s b).code = codeL s b:=by
 have e1 : (sumW s b).code = 0 ∧ (sumW s b).field = s.field ∧ (sumW s b).left = s.left ∧ (10 < s.field → crcOkW (sumW s b) = crcOkW s):=by
  unfold sumW
  split
  ·exact ⟨h0,rfl,rfl,fun h => by omega⟩
  ·exact ⟨h0,rfl,rfl,fun _ => rfl⟩
 have e2 : (plainW s b).code = (takeW (sumW s b) b).code:=by unfold plainW;rw [nextW_eq]
 rw [e2]
 obtain ⟨a1,a2,a3,a4⟩:=e1
 generalize sumW s b = t at a1 a2 a3 a4 ⊢
 unfold takeW codeL endW
 rw [a2,a3]
 by_cases c1 : s.field = 1
 ·rw [if_pos c1,if_pos c1];split <;> first | rfl | exact a1
 rw [if_neg c1,if_neg c1]
 by_cases c2 : s.field = 2 ∨ s.field = 5
 ·rw [if_pos c2,if_neg (by omega),if_neg (by omega),if_neg (by omega)];exact a1
 rw [if_neg c2]
 by_cases c3 : s.field = 3 ∨ s.field = 6
 ·rw [if_pos c3,if_neg (by omega),if_neg (by omega),if_neg (by omega)];exact a1
 rw [if_neg c3]
 by_cases c4 : s.field = 4
 ·rw [if_pos c4,if_neg (by omega),if_neg (by omega),if_neg (by omega)];exact a1
 rw [if_neg c4]
 by_cases c8 : s.field = 8
 ·rw [if_pos c8,if_neg (by omega),if_neg (by omega),if_neg (by omega)];exact a1
 rw [if_neg c8]
 by_cases c9 : s.field = 9
 ·rw [if_pos c9,if_neg (by omega),if_neg (by omega),if_neg (by omega)];exact a1
 rw [if_neg c9]
 by_cases c10 : s.field = 10
 ·rw [if_pos c10,if_neg (by omega),if_neg (by omega),if_neg (by omega)];exact a1
 rw [if_neg c10]
 by_cases c11 : s.field = 11
 ·rw [if_pos c11,if_pos c11];split <;> first | rfl | exact a1
 rw [if_neg c11,if_neg c11]
 by_cases c13 : s.field = 13
 ·rw [if_pos c13,if_pos c13,a4 (by omega)]
  by_cases hb : b = 0
  ·rw [if_pos hb,if_pos hb]
  ·rw [if_neg hb,if_neg hb]
   by_cases hc : crcOkW s = true
   ·rw [if_pos hc,if_pos hc];exact a1
   ·rw [if_neg hc,if_neg hc]
 rw [if_neg c13,if_neg c13]
 by_cases c14 : s.field = 14
 ·rw [if_pos c14,if_pos c14]
  by_cases d1 : 1 < s.left ∧ b = 0
  ·rw [if_pos d1,if_pos d1]
  rw [if_neg d1,if_neg d1]
  by_cases d2 : s.left = 2
  ·rw [if_pos d2,if_pos d2]
  rw [if_neg d2,if_neg d2]
  by_cases d3 : s.left = 1 ∧ b = 0
  ·rw [if_pos d3,if_pos d3]
  rw [if_neg d3,if_neg d3]
  by_cases d4 : s.left = 1
  ·rw [if_pos d4,if_pos d4]
  ·rw [if_neg d4,if_neg d4];exact a1
 ·rw [if_neg c14,if_neg c14];exact a1
theorem crcS_crcL {l : List Int} (h : Bits l) : crcS l = (crcL l : Int):=crcI_list l h
theorem crcOk_full {H D X C T : List Int} {e r : Bool} {i : Int} (h : Hd H e r i) (d : D.length = 4) (x : (X.length : Int) = 8 * dataB r (V D)) (c : C.length = 15) (t : T.length ≤ 10) (hb : Bits (H ++ D ++ X ++ C ++ T)) :
  Ev (fun k => spec_l1crcOk.f k (H ++ D ++ X ++ C ++ T)) (crcS (H ++ D ++ X) == V C):=by
 have hD : Bits D:=bits_len hb D (fun x hx => by simp [hx])
 have hC : Bits C:=bits_len hb C (fun x hx => by simp [hx])
 have hB : Bits (H ++ D ++ X):=bits_len hb _ (fun x hx => by simp only [List.mem_append] at hx ⊢;exact .inl (.inl hx))
 have hl:=hd_len h
 have hH : H.length = 15 ∨ H.length = 35:=by rw [hl];split <;> omega
 have hr:=dataB_range (r:=r) (V_range hD).1
 have hlay:=lay_full (R:=X ++ C ++ T) h d hD (by simp;omega)
 rw [← List.append_assoc, ← List.append_assoc] at hlay
 have hlen : (H ++ D ++ X ++ C ++ T).length = (H ++ D ++ X).length + 15 + T.length:=by simp [c];omega
 have hlB : ((H ++ D ++ X).length : Int) = (H.length : Int) + 4 + 8 * dataB r (V D):=by simp [d];omega
 have hlB2 : (H ++ D ++ X).length ≤ 103:=by omega
 unfold spec_l1crcOk.f
 refine Ev.bind hlay ?_
 simp only []
 rw [← hlB]
 generalize hE : H ++ D ++ X = B at *
 have w15 : wrap64 ((B.length : Int) + 15) = (B.length : Int) + 15:=w64 (by omega) (by omega)
 refine ev_neg (by omega) ?_
 rw [w15,decide_eq_false (by omega)]
 have t1 : (B ++ C ++ T).take ((B.length : Int).toNat) = B:=by rw [Int.toNat_natCast,List.append_assoc,List.take_left]
 have t2 : ((B ++ C ++ T).take (((B.length : Int) + 15).toNat)).drop ((B.length : Int).toNat) = C:=by
  rw [show ((B.length : Int) + 15).toNat = (B ++ C).length by simp [c];omega,List.take_left,Int.toNat_natCast,List.drop_left]
 have hcrc : Ev (fun k => spec_Crc15.f k (strOfNums B)) (crcS B):=by
  have h2:=specCrc15_ev (strOfNums B) (by rw [strOfNums_size];omega)
  have : crcV (strOfNums B) = crcS B:=by
   unfold crcV
   rw [if_pos ⟨by rw [strOfNums_size];omega,isBits_str hB⟩,bytes_str B hB.range,crcS_crcL hB]
  rw [this] at h2
  exact h2
 refine Ev.step (f:=fun k => (spec_Crc15.f k (strOfNums B)).bind fun t285 => (spec_l1val.f k (strOfNums C)).bind fun t287 => some (t285 == t287)) (fun k => ?_) (Ev.bind hcrc (Ev.bind (val_ev C hC (by omega)) (Ev.now _)))
 simp only [spec_l1crcOk.j0]
 rw [if_neg (by decide),if_pos (by omega),if_pos (by omega),w15,t1]
 congr 1
 funext t285
 rw [if_pos (by omega),if_pos (by omega),t2]
theorem look_ev {p : List Int} {c : Int × Int × Int × Bool × Int × Bool × Int × List Int} {m : Int} (h : Ph p c m) (hp : Bits p) (s : WS) (hs : core s = c) (hm : s.sum = m) (b : Int) (hb : b = 48 ∨ b = 49) : Ev (fun k => spec_l1look.f k p b) (codeL s (b - 48)):=by
 have hf:=field_ev h hp
 have hfs : s.field = c.1:=by rw [← hs];rfl
 rw [← hfs] at hf
 unfold spec_l1look.f codeL
 refine Ev.bind hf ?_
 by_cases c1 : s.field = 1
 ·refine ev_pos c1 ?_
  rw [if_pos c1]
  rcases hb with rfl | rfl
  ·exact ev_neg (by decide) (Ev.now _)
  ·exact ev_pos rfl (Ev.now _)
 refine ev_neg c1 ?_
 rw [if_neg c1]
 by_cases c11 : s.field = 11
 ·refine ev_pos c11 ?_
  rw [if_pos c11]
  rcases hb with rfl | rfl
  ·exact ev_pos rfl (Ev.now _)
  ·exact ev_neg (by decide) (Ev.now _)
 refine ev_neg c11 ?_
 rw [if_neg c11]
 by_cases c13 : s.field = 13
 ·refine ev_pos c13 ?_
  rw [if_pos c13]
  rcases hb with rfl | rfl
  ·exact ev_pos rfl (Ev.now _)
  ·refine ev_neg (by decide) ?_
   have hk : Ev (fun k => spec_l1crcOk.f k p) (crcOkW s):=by
    cases h with
    | del H D X C T e r i h d x cc t =>
     have hC:=core_is hs hm
     have:=crcOk_full h d x cc (by omega) hp
     have e1 : crcOkW s = (crcS (H ++ D ++ X) == V C):=by unfold crcOkW;rw [hC.m,hC.g,c13];rfl
     rw [e1];exact this
    | _ => exfalso;first | (have:=(core_is hs hm).f;omega) | omega
   refine Ev.bind hk ?_
   cases hw : crcOkW s with
   | true => exact ev_pos rfl (Ev.now _)
   | false => exact ev_neg (by decide) (Ev.now _)
 refine ev_neg c13 ?_
 rw [if_neg c13]
 by_cases c14 : s.field = 14
 ·refine ev_pos c14 ?_
  rw [if_pos c14]
  cases h with
  | eof H D X C T e r i h d x cc t3 t =>
   have hC:=core_is hs hm
   have hD : Bits D:=bits_len hp D (fun x hx => by simp [hx])
   have hl:=hd_len h
   have hH : H.length = 15 ∨ H.length = 35:=by rw [hl];split <;> omega
   have hr:=dataB_range (r:=r) (V_range hD).1
   have hlay:=lay_full (R:=X ++ C ++ T) h d hD (by simp;omega)
   rw [← List.append_assoc, ← List.append_assoc] at hlay
   have hlen : ((H ++ D ++ X ++ C ++ T).length : Int) = (H.length : Int) + 4 + 8 * dataB r (V D) + 15 + T.length:=by simp [d,cc];omega
   have hleft:=hC.l
   refine Ev.bind hlay ?_
   simp only []
   have ew : wrap64 (wrap64 (((H ++ D ++ X ++ C ++ T).length : Int) - ((H.length : Int) + 4 + 8 * dataB r (V D))) - 18) = (T.length : Int) - 3:=by unfold wrap64;omega
   rw [ew]
   by_cases c6 : (T.length : Int) - 3 < 6
   ·refine ev_pos c6 ?_
    rcases hb with rfl | rfl
    ·refine Ev.step (f:=fun _ => some 4) (fun k => ?_) ?_
     ·simp only [spec_l1look.j0];rw [if_pos (by decide)]
     ·rw [if_pos ⟨by omega,by decide⟩];exact Ev.now _
    ·rw [if_neg (by omega)]
     by_cases c5 : (T.length : Int) - 3 = 5
     ·refine Ev.step (f:=fun _ => some 1) (fun k => ?_) ?_
      ·simp only [spec_l1look.j0];rw [if_neg (by decide),if_pos c5]
      ·rw [if_pos (by omega)];exact Ev.now _
     ·refine Ev.step (f:=fun k => spec_l1look.j1 k ((T.length : Int) - 3) false) (fun k => ?_) (Ev.step (f:=fun _ => some 0) (fun k => ?_) ?_)
      ·simp only [spec_l1look.j0];rw [if_neg (by decide),if_neg c5,if_neg (by omega)]
      ·simp only [spec_l1look.j1];rw [if_neg (by decide),if_neg (by omega)]
      ·rw [if_neg (by omega),if_neg (by omega),if_neg (by omega)];exact Ev.now _
   ·refine ev_neg c6 ?_
    have c7 : (T.length : Int) - 3 = 6:=by omega
    refine Ev.step (f:=fun k => spec_l1look.j1 k ((T.length : Int) - 3) (b == 48)) (fun k => ?_) ?_
    ·simp only [spec_l1look.j0];rw [if_neg (by decide),if_neg (by omega),if_pos c7]
    ·rcases hb with rfl | rfl
     ·refine Ev.step (f:=fun _ => some 6) (fun k => ?_) ?_
      ·simp only [spec_l1look.j1];rw [if_pos (by decide)]
      ·rw [if_neg (by omega),if_neg (by omega),if_pos ⟨by omega,by decide⟩];exact Ev.now _
     ·refine Ev.step (f:=fun _ => some 2) (fun k => ?_) ?_
      ·simp only [spec_l1look.j1];rw [if_neg (by decide),if_pos c7]
      ·rw [if_neg (by omega),if_neg (by omega),if_neg (by omega),if_pos (by omega)];exact Ev.now _
  | del H D X C T e r i h d x cc t => exfalso;have:=(core_is hs hm).f;omega
  | _ => exfalso;first | (have:=(core_is hs hm).f;omega) | omega
 ·refine ev_neg c14 ?_
  rw [if_neg c14]
  exact Ev.now _
end Go.Proofs.Ytdoclpgciadjaaa.P

namespace Go.Proofs.Ytdoclpgciadjaaa.P
open Go Go.RowKit Go.Proofs.YtdoclpgciadjaaaW.PrintWords
set_option linter.unusedVariables false
structure At (all : List Int) (i : Nat) (s : WS) (p : List Int) : Prop where
 code : s.code = 0 ∨ s.code = 1
 ph : Ph p (core s) s.sum
 bits : Bits p
 r0 : 0 ≤ s.run
 r1 : s.run ≤ 5
 len : p.length ≤ i
 trail : s.field ≤ 11 → ∃ (run : Nat) (last : Int),Trail all i run last ∧ s.run = run ∧ (0 < i → s.level = last)
theorem At.ok {all : List Int} {i : Nat} {s : WS} {p : List Int} (h : At all i s p) : WOk s:=ph_ok h.ph h.bits s rfl h.r0 h.r1
def zeroW : WS:=⟨0,0,0,0,0,0,0,false,0,false,0, []⟩
def startW : WS:=⟨0,1,1,0,0,0,0,false,0,false,0, []⟩
theorem At.start (all : List Int) : At all 0 startW []:=⟨.inl rfl,Ph.sof,(fun x hx => by cases hx),by decide,by decide,by simp,fun _ => ⟨0,0,Trail.zero _ _,rfl,fun h => by omega⟩⟩
theorem plainW_run (s : WS) (b : Int) : (plainW s b).run = s.run ∧ (plainW s b).level = s.level:=by
 have e1 : (sumW s b).run = s.run ∧ (sumW s b).level = s.level:=by unfold sumW;split <;> exact ⟨rfl,rfl⟩
 have e2 : (takeW (sumW s b) b).run = (sumW s b).run ∧ (takeW (sumW s b) b).level = (sumW s b).level:=by
  generalize sumW s b = t
  have e3 : (endW t b).run = t.run ∧ (endW t b).level = t.level:=by unfold endW;(repeat' split) <;> exact ⟨rfl,rfl⟩
  constructor
  ·unfold takeW
   simp only [apply_ite WS.run,e3.1,ite_self]
  ·unfold takeW
   simp only [apply_ite WS.level,e3.2,ite_self]
 unfold plainW
 rw [nextW_eq]
 exact ⟨e2.1.trans e1.1,e2.2.trans e1.2⟩
inductive Step (all : List Int) (i : Nat) (s : WS) (p : List Int) (c : Int) : Prop
 | stop (hd : dueW s = true) (hl : c = s.level) (hc : (hearW s c).code = 3)
 | skip (hd : dueW s = true) (hl : c ≠ s.level) (hc : (hearW s c).code = 0) (ha : At all (i + 1) (hearW s c) p)
 | take (hd : dueW s = false) (hc : (hearW s c).code = codeL s (c - 48)) (ha : (hearW s c).code = 0 ∨ (hearW s c).code = 1 → At all (i + 1) (hearW s c) (p ++ [c]))
theorem codeL_same {s t : WS} (b : Int) (h : core t = core s) (hm : t.sum = s.sum) : codeL t b = codeL s b:=by
 have C:=core_is (s:=t) (f:=s.field) (l:=s.left) (g:=s.got) (e:=s.ext) (i:=s.id) (r:=s.rtr) (d:=s.dlc) (x:=s.data) h hm
 unfold codeL crcOkW
 rw [C.f,C.l,C.g,C.m]
theorem at_step {all : List Int} {i : Nat} {s : WS} {p : List Int} (h : At all i s p) (hi : i < all.length) (hb : Bits all) : Step all i s p (rd all (i : Int)):=by
 have hc : rd all (i : Int) = 48 ∨ rd all (i : Int) = 49:=hb _ (by have:=rd_get all i hi;exact List.mem_of_getElem? this)
 generalize hcc : rd all (i : Int) = c at hc ⊢
 have hr0:=h.r0
 have hr1:=h.r1
 cases hd : dueW s with
 | true =>
  have hf : s.field ≤ 11:=by
   unfold dueW at hd
   simp only [Bool.and_eq_true,decide_eq_true_eq] at hd
   exact hd.2
  have hd0 : dueW { s with code:=0 } = true:=hd
  by_cases hl : c = s.level
  ·refine .stop hd hl ?_
   unfold hearW
   simp only []
   rw [if_pos hd0,if_pos hl]
  ·have e : hearW s c = { s with code:=0,run:=1,level:=c }:=by
    unfold hearW
    simp only []
    rw [if_pos hd0,if_neg hl]
   refine .skip hd hl (by rw [e]) ?_
   rw [e]
   refine ⟨.inl rfl,h.ph,h.bits,(show (0 : Int) ≤ 1 by decide),(show (1 : Int) ≤ 5 by decide),Nat.le_succ_of_le h.len,fun _ => ?_⟩
   obtain ⟨run,last,ht,hrun,hlev⟩:=h.trail hf
   have hi0 : 0 < i:=by
    rcases Nat.eq_zero_or_pos i with h0 | h0
    ·exfalso
     have:=ht.run_le
     unfold dueW at hd
     simp only [Bool.and_eq_true,beq_iff_eq] at hd
     omega
    ·exact h0
   have hn:=ht.next hi
   rw [hcc,if_neg (by rw [← hlev hi0];exact hl)] at hn
   exact ⟨1,c,hn,rfl,fun _ => rfl⟩
 | false =>
  have hd0 : ¬ dueW { s with code:=0 } = true:=by
   have : dueW { s with code:=0 } = dueW s:=rfl
   rw [this,hd];decide
  obtain ⟨s1,e,hcore,hsum,hc0,hrun1,hlow⟩ : ∃ s1 : WS,hearW s c = plainW s1 (c - 48) ∧ core s1 = core s ∧ s1.sum = s.sum ∧ s1.code = 0 ∧ (0 ≤ s1.run ∧ s1.run ≤ 5) ∧ (s.field ≤ 10 → ∃ (run : Nat),Trail all (i + 1) run c ∧ s1.run = run ∧ s1.level = c):=by
   by_cases hf : s.field ≤ 10
   ·obtain ⟨run,last,ht,hrun,hlev⟩:=h.trail (by omega)
    have hr4:=run_le4 hd hf hr1
    have hn:=ht.next hi
    rw [hcc] at hn
    by_cases hm : 0 < s.run ∧ s.level = c
    ·have hi0 : 0 < i:=by have:=ht.run_le;omega
     refine ⟨{ s with code:=0,run:=s.run + 1 }, ?_,rfl,rfl,rfl,⟨by simp only [];omega,by simp only [];omega⟩,fun _ => ⟨run + 1, ?_,by simp only [];omega,hm.2⟩⟩
     ·unfold hearW
      simp only []
      rw [if_neg hd0,if_pos hf,if_pos hm]
     ·rw [if_pos (by rw [← hlev hi0];exact hm.2.symm)] at hn
      exact hn
    ·refine ⟨{ s with code:=0,run:=1,level:=c }, ?_,rfl,rfl,rfl,⟨(show (0 : Int) ≤ 1 by decide),(show (1 : Int) ≤ 5 by decide)⟩,fun _ => ⟨1, ?_,rfl,rfl⟩⟩
     ·unfold hearW
      simp only []
      rw [if_neg hd0,if_pos hf,if_neg hm]
     ·by_cases hz : run = 0
      ·subst hz
       have : (if c = last then 0 + 1 else 1) = 1:=by split <;> rfl
       rw [this] at hn
       exact hn
      ·have hi0 : 0 < i:=by have:=ht.run_le;omega
       rw [if_neg (fun e => hm ⟨by omega,by rw [hlev hi0];exact e.symm⟩)] at hn
       exact hn
   ·refine ⟨{ s with code:=0,run:=0 }, ?_,rfl,rfl,rfl,⟨(show (0 : Int) ≤ 0 by decide),(show (0 : Int) ≤ 5 by decide)⟩,fun h2 => absurd h2 hf⟩
    unfold hearW
    simp only []
    rw [if_neg hd0,if_neg hf]
  have hcode : (hearW s c).code = codeL s (c - 48):=by rw [e,code_plain s1 _ hc0,codeL_same _ hcore hsum]
  refine .take hd hcode (fun hrunning => ?_)
  have hfs : s1.field = s.field:=by have:=congrArg (fun x => x.1) hcore;exact this
  have hls : s1.left = s.left:=by have:=congrArg (fun x => x.2.1) hcore;exact this
  have hend : ¬ (s1.field = 14 ∧ s1.left = 1):=by
   rintro ⟨h1,h2⟩
   rw [hcode] at hrunning
   unfold codeL at hrunning
   rw [if_neg (by omega),if_neg (by omega),if_neg (by omega),if_pos (by omega),if_neg (by omega),if_neg (by omega)] at hrunning
   by_cases hz : c - 48 = 0
   ·rw [if_pos ⟨by omega,hz⟩] at hrunning;omega
   ·rw [if_neg (fun h => hz h.2),if_pos (by omega)] at hrunning;omega
  obtain ⟨c',m',hP,hc',hm'⟩:=ph_step h.ph s1 hcore hsum c hc h.bits hend
  have hpr:=plainW_run s1 (c - 48)
  rw [e] at hrunning ⊢
  refine ⟨hrunning,by rw [hc',hm'];exact hP,h.bits.append (fun x hx => by rw [List.mem_singleton] at hx;rw [hx];exact hc),by rw [hpr.1];exact hrun1.1,by rw [hpr.1];exact hrun1.2,by rw [List.length_append,List.length_singleton];have:=h.len;omega,fun hf11 => ?_⟩
  have hf10 : s.field ≤ 10:=by
   rcases (show 10 < s.field ∨ s.field ≤ 10 by omega) with hlt | hge
   ·exfalso
    have hok:=h.ok
    have f1:=hok.f1
    have hle : s1.field + 1 ≤ (plainW s1 (c - 48)).field ∨ s1.field = 14:=by
     by_cases h14 : s1.field = 14
     ·exact .inr h14
     ·left
      have hleft : s1.left = 1:=by
       have hph:=h.ph
       generalize hg : core s = cc at hph
       generalize s.sum = mm at hph
       cases hph with
       | del H D X C T e r i h d x c t => rw [hls];exact (core_is hg rfl).l
       | eof H D X C T e r i h d x c t3 t => have:=(core_is hg rfl).f;omega
       | _ => exfalso;have:=(core_is hg rfl).f;omega
      have C1 : CoreIs s1 s1.field 1 s1.got s1.ext s1.id s1.rtr s1.dlc s1.data s1.sum:=⟨rfl,hleft,rfl,rfl,rfl,rfl,rfl,rfl,rfl⟩
      have T:=tk_late C1 (by omega) (c - 48)
      have hpl : plainW s1 (c - 48) = nextW (tk s1 (c - 48)):=rfl
      have N:=next_is T (next_over T.l T.f (.inl (by omega)) (.inl (by omega)) rfl)
      rw [hpl,N.f]
      omega
    rcases hle with h1 | h1
    ·omega
    ·-- field 14 stays
     have hl2 : s1.left ≠ 1:=fun h2 => hend ⟨h1,h2⟩
     have C1 : CoreIs s1 14 s1.left s1.got s1.ext s1.id s1.rtr s1.dlc s1.data s1.sum:=⟨h1,rfl,rfl,rfl,rfl,rfl,rfl,rfl,rfl⟩
     have T:=tk_late C1 (by omega) (c - 48)
     have l0:=hok.l0
     have N:=next_is T (next_more T.l (by omega))
     have hpl : plainW s1 (c - 48) = nextW (tk s1 (c - 48)):=rfl
     have : (plainW s1 (c - 48)).field = 14:=by rw [hpl,N.f,T.f]
     omega
   ·exact hge
  obtain ⟨run,ht,hr,hl⟩:=hlow hf10
  exact ⟨run,c,ht,hpr.1.trans hr,fun _ => hpr.2.trans hl⟩
def walkG : List Int → WS → WS
 | [],s => s
 | c :: l,s => if (hearW s c).code = 0 ∨ (hearW s c).code = 1 then walkG l (hearW s c) else if l = [] then hearW s c else { hearW s c with code:=7 }
def walkV (s : ByteArray) : WS:=if s.size ≤ 4000 ∧ isBits s = true then walkG (bytesOf s) startW else { zeroW with code:=8 }
theorem step_next {all : List Int} {i : Nat} {s : WS} {p : List Int} {c : Int} (h : Step all i s p c) (hc : (hearW s c).code = 0 ∨ (hearW s c).code = 1) : ∃ q,At all (i + 1) (hearW s c) q:=by
 cases h with
 | stop hd hl hc2 => omega
 | skip hd hl hc2 ha => exact ⟨p,ha⟩
 | take hd hc2 ha => exact ⟨_,ha hc⟩
theorem bits_of_isBits {s : ByteArray} (h : isBits s = true) : Bits (bytesOf s):=by
 intro x hx
 unfold bytesOf at hx
 obtain ⟨b,hb,rfl⟩:=List.mem_map.1 hx
 unfold isBits at h
 rw [List.all_eq_true] at h
 rcases isBit_cases (h b hb) with rfl | rfl
 ·exact .inl rfl
 ·exact .inr rfl
theorem rd_bytesOf (s : ByteArray) (i : Nat) (h : i < s.size) : rd (bytesOf s) (i : Int) = ((s[i]'h).toNat : Int):=by
 unfold rd bytesOf
 rw [Int.toNat_natCast,List.getD_eq_getElem?_getD,List.getElem?_map,Array.getElem?_toList,Array.getElem?_eq_getElem (show i < s.data.size from h)]
 rfl
end Go.Proofs.Ytdoclpgciadjaaa.P

namespace Go.Proofs.Ytdoclpgciadjaaa.P
open Go.RowKit Go.Proofs.YtdoclpgciadjaaaW.PrintWords Go.Proofs.YtdoclpgciadjaaaW.PrintLast Go.Proofs.YtdoclpgciadjaaaW.PrintMore
set_option linter.unusedVariables false
set_option linter.unusedSimpArgs false
def bumpS (out : List S165) : List S165:=out.set (wrap64 ((out.length : Int) - 1)).toNat ⟨(rd_T165 out (wrap64 ((out.length : Int) - 1))).f0,(rd_T165 out (wrap64 ((out.length : Int) - 1))).f1,wrap64 ((rd_T165 out (wrap64 ((out.length : Int) - 1))).f2 + 1)⟩
def newS (s : WS) (last : Int) : Bool := !dueW s && s.field != last
def spG : List Int → Nat → WS → Int → List S165 → List S165
 | [],_,_,_,out => out
 | c :: l,i,s,last,out => if newS s last = true then spG l (i + 1) (hearW s c) s.field (bumpS (out ++ [⟨s.field,i,0⟩])) else spG l (i + 1) (hearW s c) last (bumpS out)
def okW : List Int → WS → Bool
 | [],_ => true
 | [_],_ => true
 | c :: d :: l,s => ((hearW s c).code == 0 || (hearW s c).code == 1) && okW (d :: l) (hearW s c)
def impl_Spans.f (a0_0 : Bool) (a0_1 : Int) (a0_2 : Bool) (a0_3 : Int) (l0_4 : List Int) : Option (List S165) :=
 (impl_Encode.f a0_0 a0_1 a0_2 a0_3 l0_4).bind fun t => if (t.size ≤ 4000 ∧ isBits t = true) ∧ okW (bytesOf t) startW = true then some (spG (bytesOf t) 0 startW 0 []) else none
structure SpIn (w wr : World) (p m : Nat) (s : WS) (v4 : Value) (out : List S165) : Prop where
 walk : ∃ v,WIn w wr p (fun k => m ≤ k) s v
 out : Kd.R k165 165 wr w.heap.size (fun _ => True) v4 out
 size : m ≤ wr.heap.size
theorem SpIn.iterAt {w wr : World} {p m : Nat} {s : WS} {v4 : Value} {out : List S165} (h : SpIn w wr p m s v4 out) {it n : Nat} {a0 : ByteArray} (hit : wr.heap[it]? = some (.stringIter a0 n)) (hwi : w.heap.size ≤ it) (him : it < m) (n' : Nat) : SpIn w (wr.iterAt it a0 n') p m s v4 out:=by
 obtain ⟨v,hi⟩:=h.walk
 have hip : p ≠ it:=fun e => by have h1:=hi.obj;rw [e,hit] at h1;injection h1 with h1;cases h1
 have hsz:=Lib.iterAt_size wr it a0 n'
 have hms:=h.size
 exact ⟨⟨v,(Lib.iterAt_other wr it p a0 n' hip).trans hi.obj,R_iterAt hi.row hit n',Lib.below_iterAt hi.below hwi a0 n',fun k hk => by (try simp only []);omega⟩,R_iterAt h.out hit n',by omega⟩
theorem SpIn.grown {w wr w1 : World} {p m : Nat} {s : WS} {v4 v1 : Value} {out out1 : List S165} (h : SpIn w wr p m s v4 out) (hg : wr.grownBy w1 v4.ownBlock) (hr : Kd.R k165 165 w1 w.heap.size (fun _ => True) v1 out1) (hb : Below w.heap.size w w1) : SpIn w w1 p m s v1 out1:=by
 obtain ⟨v,hi⟩:=h.walk
 have hms:=h.size
 have hs : wr.heap.size ≤ w1.heap.size:=hg.size
 refine ⟨⟨v, ?_,Kd.R_over hi.row h.out (by intro q hq;simp [Kd.int,Kd.scalar] at hq;omega) hg,hb,fun k hk => by (try simp only []);omega⟩,hr,by omega⟩
 rw [hg.block p (Array.getElem?_eq_some_iff.1 hi.obj).1 (Kd.R_ne h.out hi.obj (by decide)),hi.obj]
structure LastAt (w wr : World) (p m : Nat) (s : WS) (g cap : Nat) (out : List S165) (ji : Int) : Prop where
 p0 : (0 ≤ ji) = True
 q0 : (ji < (out.length : Int)) = True
 wr_ : IntKind.i64.wrap ((out.length : Int) - 1) = ji
 cell : wr.cell? ⟨g,ji.toNat * 3 + 2,none⟩ = some (.int .i64 (rd_T165 out ji).f2)
 froz : wr.frozen? ⟨g,ji.toNat * 3 + 2,none⟩ = false
 put : SpIn w (wr.setCell ⟨g,ji.toNat * 3 + 2,none⟩ (.int .i64 (wrap64 ((rd_T165 out ji).f2 + 1)))) p m s (.slice (some ⟨g,0,none⟩) out.length cap) (bumpS out)
 kept : ∀ (it n : Nat) (a0 : ByteArray),wr.heap[it]? = some (.stringIter a0 n) → (wr.setCell ⟨g,ji.toNat * 3 + 2,none⟩ (.int .i64 (wrap64 ((rd_T165 out ji).f2 + 1)))).heap[it]? = some (.stringIter a0 n)
theorem SpIn.last_at {w wr : World} {p m : Nat} {s : WS} {v4 : Value} {out : List S165} (h : SpIn w wr p m s v4 out) (hne : out ≠ []) (hle : out.length ≤ 5000) :
  ∃ (g cap : Nat) (ji : Int),v4 = .slice (some ⟨g,0,none⟩) out.length cap ∧ LastAt w wr p m s g cap out ji:=by
 have hl : 0 < out.length:=List.length_pos_iff.2 hne
 obtain ⟨g,cap,rfl,hgb,hgl,cells,hg⟩:=Kd.R_form h.out hl
 have hji : wrap64 ((out.length : Int) - 1) = (out.length : Int) - 1:=by unfold wrap64;omega
 have h0 : 0 ≤ wrap64 ((out.length : Int) - 1):=by omega
 have h1 : wrap64 ((out.length : Int) - 1) < ((out.length : Nat) : Int):=by omega
 obtain ⟨ce,hcl,hM,hcc,hfr⟩:=Kd.R_elem h.out z165 _ h0 h1
 obtain rfl:=k165_openM hM
 have HP:=Kd.R_seg h.out (wrap64 ((out.length : Int) - 1)) h0 h1 (seg := [.int .i64 (wrap64 (((rd_T165 out (wrap64 ((out.length : Int) - 1))).f2) + 1))]) (j:=2) hcl hcc (show 3 ≤ 3 from by decide) (x':=(⟨(rd_T165 out (wrap64 ((out.length : Int) - 1))).f0,(rd_T165 out (wrap64 ((out.length : Int) - 1))).f1,wrap64 (((rd_T165 out (wrap64 ((out.length : Int) - 1))).f2) + 1)⟩ : S165)) (k165_mkM _ _ _ (⟨(rd_T165 out (wrap64 ((out.length : Int) - 1))).f0,(rd_T165 out (wrap64 ((out.length : Int) - 1))).f1,wrap64 (((rd_T165 out (wrap64 ((out.length : Int) - 1))).f2) + 1)⟩ : S165)) (okp:=fun k => True ∧ k ≠ g) (fun _ hk => hk)
 obtain ⟨v,hi⟩:=h.walk
 refine ⟨g,cap,wrap64 ((out.length : Int) - 1),rfl,eq_true h0,eq_true h1,i64_w _,hcc 2 _ rfl,hfr 2,h.grown (v4 := .slice (some ⟨g,0,none⟩) out.length cap) HP.2 HP.1 (hi.below.setCell hgb _),fun it n a0 hit => iter_grown h.out HP.2 hit⟩
theorem SpIn.next {w wr : World} {p m it n : Nat} {a0 : ByteArray} {s : WS} {v4 : Value} {out : List S165} (h : SpIn w wr p m s v4 out) (hit : wr.heap[it]? = some (.stringIter a0 n)) (him : it < m) (hpm : p < m) (hwp : w.heap.size < p) (hwi : w.heap.size ≤ it) (ok : WOk s) (c : Int) (hc : c = 48 ∨ c = 49) :
  Calls Try.prog 134 #[.pointer (some ⟨p,0,none⟩), .int .i32 c] wr fun e w' => e = .returned (.tuple #[]) ∧ w'.heap[it]? = some (.stringIter a0 n) ∧ SpIn w w' p m (hearW s c) v4 out:=by
 obtain ⟨v,hi⟩:=h.walk
 have hms:=h.size
 have hlt:=Kd.R_lt h.out
 have hip : p ≠ it:=fun e => by have h1:=hi.obj;rw [e,hit] at h1;injection h1 with h1;cases h1
 have hiw : WIn w wr p (fun k => m ≤ k ∧ some k ≠ v4.ownBlock) s v:=⟨hi.obj,Kd.R_apartR hi.row h.out (by intro q hq;simp [Kd.int,Kd.scalar] at hq;omega),hi.below,fun k hk => ⟨by omega,fun e => by have:=hlt k e.symm;omega⟩⟩
 refine (impl_walk_hear.calls p v s c hc (fun k => m ≤ k ∧ some k ≠ v4.ownBlock) w wr hiw (Nat.le_of_lt hwp) (by omega) ok).mono ?_
 rintro e w' ⟨rfl,⟨v',ha⟩,ht⟩
 have hsz:=ht.size
 refine ⟨rfl, ?_,⟨v',ha.obj,Kd.R_mono ha.row (fun k hk => hk.1), ?_,fun k hk => ?_⟩, ?_,by omega⟩
 ·exact (ht.block (Array.getElem?_eq_some_iff.1 hit).1 (by rintro (e | e) <;> omega)).trans hit
 ·exact ht.below hi.below hi.below.size (fun k hk => by rcases hk with rfl | hk <;> omega)
 ·(try simp only []);omega
 ·exact Kd.R_mono (ht.R (Kd.R_flat (ok':=fun k => some k = v4.ownBlock ∧ k ≠ p) (fun h => h) h.out (fun k hk _ => ⟨hk.symm,fun e => Kd.R_ne h.out hi.obj (by decide) (e ▸ hk.symm)⟩)) (fun k hk => by rintro (e | e);exact hk.2 e;exact e.2 hk.1)) (fun _ _ => trivial)
theorem okW_next {c : Int} {l : List Int} {s : WS} (h : okW (c :: l) s = true) : okW l (hearW s c) = true ∧ (l ≠ [] → (hearW s c).code = 0 ∨ (hearW s c).code = 1):=by
 cases l with
 | nil => exact ⟨rfl,fun h => absurd rfl h⟩
 | cons d l =>
  unfold okW at h
  simp only [Bool.and_eq_true,Bool.or_eq_true,beq_iff_eq] at h
  exact ⟨h.2,fun _ => h.1⟩
theorem bumpS_length (out : List S165) : (bumpS out).length = out.length:=List.length_set
theorem bumpS_ne {out : List S165} (h : out ≠ []) : bumpS out ≠ []:=fun e => h (List.length_eq_zero_iff.1 (by rw [← bumpS_length,e];rfl))
theorem last_i {n : Nat} (h : 0 < n) (h2 : n ≤ 5000) : wrap64 ((n : Int) - 1) = (n : Int) - 1:=by unfold wrap64;omega
theorem span_bit {P : Program} {wr : World} {it : Nat} {t : ByteArray} {pos : Nat} (hit : wr.heap[it]? = some (.stringIter t pos)) (hp : pos < t.size) (hB : isBits t = true) :
  ∃ c : Int,(c = 48 ∨ c = 49) ∧ (∀ ty,(Instr.next (.pointer (some ⟨it,0,none⟩)) true ty).run P wr = .ok (.tuple #[.bool true, .int .i64 pos, .int .i32 c]) (wr.iterAt it t (pos + 1))) ∧ (bytesOf t).drop pos = c :: (bytesOf t).drop (pos + 1) ∧ rd (bytesOf t) (pos : Int) = c:=by
 have hbit:=isBits_at hB hp
 rcases isBit_cases hbit with e | e
 ·exact ⟨48, .inl rfl,fun ty => next_bit_at (P:=P) _ _ t pos ty hit hp (b:=48) (by rw [e];rfl) (by omega),drop_cons t pos hp (b:=48) (by rw [e];rfl),by rw [rd_bytesOf t pos hp,e];rfl⟩
 ·exact ⟨49, .inr rfl,fun ty => next_bit_at (P:=P) _ _ t pos ty hit hp (b:=49) (by rw [e];rfl) (by omega),drop_cons t pos hp (b:=49) (by rw [e];rfl),by rw [rd_bytesOf t pos hp,e];rfl⟩
theorem span_at {t : ByteArray} {pos : Nat} {s : WS} {c : Int} (hp : pos < t.size) (hB : isBits t = true) (ha : ∃ pl,At (bytesOf t) pos s pl) (hdrop : (bytesOf t).drop pos = c :: (bytesOf t).drop (pos + 1)) (hrd : rd (bytesOf t) (pos : Int) = c) (ho : okW ((bytesOf t).drop pos) s = true) :
  (pos + 1 < t.size → ∃ pl,At (bytesOf t) (pos + 1) (hearW s c) pl) ∧ okW ((bytesOf t).drop (pos + 1)) (hearW s c) = true:=by
 obtain ⟨pl,ha⟩:=ha
 rw [hdrop] at ho
 obtain ⟨h1,h2⟩:=okW_next ho
 refine ⟨fun h => ?_,h1⟩
 have hst:=at_step ha (by rw [bytesOf_length];exact hp) (bits_of_isBits hB)
 rw [hrd] at hst
 exact step_next hst (h2 (fun e => by have:=congrArg List.length e;rw [List.length_drop,bytesOf_length] at this;simp at this;omega))
set_option maxHeartbeats 8000000 in
set_option maxRecDepth 100000 in
theorem impl_Spans.yes (a0_0 : Bool) (a0_1 : Int) (a0_2 : Bool) (a0_3 : Int) (A0_4 : Option Addr) (c0_4 : Nat) (l0_4 : List Int) (t : ByteArray) (w : World) (hr0_4 : Kd.C (Kd.int .u8) w A0_4 l0_4.length l0_4) (hc0_4 : l0_4.length ≤ c0_4) (ht : impl_Encode.f a0_0 a0_1 a0_2 a0_3 l0_4 = some t) (hsz : t.size ≤ 4000) (hB0 : isBits t = true) (hok : okW (bytesOf t) startW = true) :
  Calls Try.prog 67 #[.agg #[.bool a0_0, .int .u32 a0_1, .bool a0_2, .int .i64 a0_3, .slice A0_4 l0_4.length c0_4]] w fun e w' => ∃ v0_ : Value,e = .returned (v0_) ∧ Kd.R k165 165 w' w.heap.size (fun _ => True) v0_ (spG (bytesOf t) 0 startW 0 []) ∧ Below w.heap.size w w':=by
 have HR:=Lib.hid hr0_4
 have HC:=Lib.hid hc0_4
 have HT:=Lib.hid ht
 have HBT:=Lib.hid hB0
 have HOK:=Lib.hid hok
 have HSZ:=Lib.hid hsz
 clear hr0_4 hc0_4 ht hB0 hok
 go_enter Try.func67,Try.ntmps67
 go_wp2_with (fail)
 (refine (impl_Encode.calls a0_0 a0_1 a0_2 a0_3 A0_4 c0_4 l0_4 t _ (Kd.C_below HR.out ((Below.refl _ _).alloc (Nat.le_refl _) _)) HC.out HT.out).mono ?_;rintro e w1 ⟨rfl,hb1⟩;have HB1 : Hid (Below w.heap.size w w1):=Lib.hid (Below.trans ((Below.refl _ _).alloc (Nat.le_refl _) _) (hb1.mono (by simp)));have HS1 : Hid (w.heap.size < w1.heap.size):=Lib.hid (by have:=hb1.size;simp at this;omega);clear hb1)
 go_wp2_with (fail)
 have HOBJ : Hid (((w1.alloc (Obj.cells #[] 165)).alloc (objW zeroW (.slice none 0 0))).heap[w1.heap.size + 1]? = some (objW zeroW (.slice none 0 0))):=Lib.hid (by have h:=blk_new (w1.alloc (Obj.cells #[] 165)) (objW zeroW (.slice none 0 0));rw [World.size_alloc] at h;exact h)
 have HOUT : Hid (Kd.R k165 165 ((w1.alloc (Obj.cells #[] 165)).alloc (objW zeroW (.slice none 0 0))) w.heap.size (fun k => k ≠ w1.heap.size + 1) (.slice (some ⟨w1.heap.size,0,none⟩) 0 0) []):=Lib.hid (Kd.R_alloc (R_empty k165 w1 165 w.heap.size (by have:=HS1.out;omega) _ (by omega)) _)
 have HB2 : Hid (Below w.heap.size w ((w1.alloc (Obj.cells #[] 165)).alloc (objW zeroW (.slice none 0 0)))):=Lib.hid ((HB1.out.alloc HB1.out.size _).alloc (by have:=HS1.out;simp;omega) _)
 (refine (impl_walk_enter.calls (w1.heap.size + 1) _ zeroW 1 _ HOBJ.out (by decide)).mono ?_;intro e w2 hE;have HE:=Lib.hid hE;obtain rfl:=hE.ret;clear hE)
 have HPL : Hid (w1.heap.size + 1 < w2.heap.size):=Lib.hid (Array.getElem?_eq_some_iff.1 HE.out.obj).1
 have HSP : Hid (SpIn w (w2.iter t 0) (w1.heap.size + 1) (w2.heap.size + 1) startW (.slice (some ⟨w1.heap.size,0,none⟩) 0 0) []):=Lib.hid ⟨⟨_,blk_alloc HE.out.obj _,Kd.R_nil _ _ _ _ _,(HE.out.tch.below HB2.out HB2.out.size (fun k hk => by have:=HS1.out;omega)).alloc (by have:=HS1.out;have:=HPL.out;omega) _,fun k hk => by simpa [World.iter] using hk⟩,Kd.R_mono (R_iter (HE.out.tch.R HOUT.out (fun k hk e => hk e)) t 0) (fun _ _ => trivial),by simp [World.iter]⟩
 go_wp2_with (fail)
 go_loopw [4,6] (fun v4 v6 wr => ∃ (pos : Nat) (s : WS) (last : Int) (out : List S165),pos ≤ t.size ∧ v6 = .int .i64 last ∧ wr.heap[w2.heap.size]? = some (.stringIter t pos) ∧ Aside0 (SpIn w wr (w1.heap.size + 1) (w2.heap.size + 1) s v4 out) ∧ Aside0 (pos < t.size → ∃ pl,At (bytesOf t) pos s pl) ∧ Aside0 (okW ((bytesOf t).drop pos) s = true) ∧ Aside0 (spG ((bytesOf t).drop pos) pos s last out = spG (bytesOf t) 0 startW 0 []) ∧ Aside0 (out.length ≤ pos ∧ (out ≠ [] ∨ newS s last = true))) (fun _ _ wr => t.size - wr.iterPos w2.heap.size)
 case atStart => exact ⟨0,startW,0, [],Nat.zero_le _,rfl,iter_new w2 t 0,⟨HSP.out⟩,⟨fun _ => ⟨[],At.start _⟩⟩,⟨by rw [List.drop_zero];exact HOK.out⟩,⟨by rw [List.drop_zero]⟩,⟨Nat.le_refl _, .inr rfl⟩⟩
 case round =>
  obtain ⟨pos,s,last,out,hle,rfl,hit,HSW,HAT,HOW,HSG,HLN⟩:=hrel
  by_cases hp : pos < t.size
  ·obtain ⟨c,hc,hnx,hdrop,hrd⟩:=span_bit (P:=Try.prog) hit hp HBT.out
   have HSI:=Lib.hid (HSW.out.iterAt hit (by have:=HB2.out.size;have:=HPL.out;have:=HS1.out;omega) (by omega) (pos + 1))
   have HITI:=Lib.hid (Lib.iterAt_heap _ _ t pos (pos + 1) hit)
   have HIT:=Lib.hid hit
   have HWOK : Hid (WOk s):=Lib.hid (by obtain ⟨pl,ha⟩:=HAT.out hp;exact ha.ok)
   obtain ⟨hat2,how2⟩:=span_at hp HBT.out (HAT.out hp) hdrop hrd HOW.out
   have HAT2:=Lib.hid hat2
   have HOW2:=Lib.hid how2
   have HDROP:=Lib.hid hdrop
   have HC2:=Lib.hid hc
   have HP:=Lib.hid hp
   obtain ⟨vv,hwi⟩:=HSI.out.walk
   have hobj:=hwi.obj
   have hc1:=cW1 hobj
   have HOBJ2:=Lib.hid hobj
   clear hwi hobj hat2 how2 hdrop hrd hc hit
   cases hd : dueW s with
   | true =>
    have HD:=Lib.hid hd
    clear hd
    have HNE : Hid (out ≠ []):=Lib.hid (by rcases HLN.out.2 with h | h;exact h;rw [newS,HD.out] at h;simp at h)
    obtain ⟨g4,cap4,ji,rfl,hlast⟩:=HSI.out.last_at HNE.out (by have:=HLN.out.1;omega)
    obtain ⟨lp0,lq0,lwr,lcell,lfroz,lput,lkept⟩:=hlast
    have HPUT:=Lib.hid lput
    have HKEPT:=Lib.hid (lkept _ _ _ HITI.out)
    have HNX:=Lib.hid (HPUT.out.next HKEPT.out (by omega) (by have:=HPL.out;omega) (by have:=HS1.out;omega) (by have:=HB2.out.size;have:=HPL.out;have:=HS1.out;omega) HWOK.out c HC2.out)
    clear lput lkept
    go_wp2_with (fail)
    (refine (due_is _ _ s _ HOBJ2.out _ HD.out).mono ?_;rintro e w' ⟨rfl,rfl⟩)
    go_wp2_with (fail)
    (refine HNX.out.mono ?_;rintro e w3 ⟨rfl,hi3,hk3⟩;have HI3:=Lib.hid hi3;have HK3:=Aside0.mk hk3;clear hi3 hk3)
    go_wp2_with (fail)
    go_roundw
    case rel => exact ⟨pos + 1,hearW s c,last,bumpS out,HP.out,rfl,HI3.out,HK3,⟨HAT2.out⟩,⟨HOW2.out⟩,⟨by rw [← HSG.out,HDROP.out,spG,if_neg (by rw [newS,HD.out];exact Bool.false_ne_true)]⟩,⟨by rw [bumpS_length];have:=HLN.out.1;omega, .inl (bumpS_ne HNE.out)⟩⟩
    case measure => rw [iterPos_at HI3.out,iterPos_at HIT.out];have:=HP.out;omega
   | false =>
    have HD:=Lib.hid hd
    clear hd
    by_cases hf : s.field = last
    ·have hbf : (s.field != last) = false:=bne_eq_false_iff_eq.mpr hf
     have HN0 : Hid (newS s last = false):=Lib.hid (by rw [newS,hbf,Bool.and_false])
     have HNE : Hid (out ≠ []):=Lib.hid (by rcases HLN.out.2 with h | h;exact h;rw [HN0.out] at h;simp at h)
     clear hf
     obtain ⟨g4,cap4,ji,rfl,hlast⟩:=HSI.out.last_at HNE.out (by have:=HLN.out.1;omega)
     obtain ⟨lp0,lq0,lwr,lcell,lfroz,lput,lkept⟩:=hlast
     have HPUT:=Lib.hid lput
     have HKEPT:=Lib.hid (lkept _ _ _ HITI.out)
     have HNX:=Lib.hid (HPUT.out.next HKEPT.out (by omega) (by have:=HPL.out;omega) (by have:=HS1.out;omega) (by have:=HB2.out.size;have:=HPL.out;have:=HS1.out;omega) HWOK.out c HC2.out)
     clear lput lkept
     go_wp2_with (fail)
     (refine (due_is _ _ s _ HOBJ2.out _ HD.out).mono ?_;rintro e w' ⟨rfl,rfl⟩)
     go_wp2_with (fail)
     (refine HNX.out.mono ?_;rintro e w3 ⟨rfl,hi3,hk3⟩;have HI3:=Lib.hid hi3;have HK3:=Aside0.mk hk3;clear hi3 hk3)
     go_wp2_with (fail)
     go_roundw
     case rel => exact ⟨pos + 1,hearW s c,last,bumpS out,HP.out,rfl,HI3.out,HK3,⟨HAT2.out⟩,⟨HOW2.out⟩,⟨by rw [← HSG.out,HDROP.out,spG,if_neg (by rw [HN0.out];exact Bool.false_ne_true)]⟩,⟨by rw [bumpS_length];have:=HLN.out.1;omega, .inl (bumpS_ne HNE.out)⟩⟩
     case measure => rw [iterPos_at HI3.out,iterPos_at HIT.out];have:=HP.out;omega
    ·have hbf : (s.field != last) = true:=bne_iff_ne.mpr hf
     have HN0 : Hid (newS s last = true):=Lib.hid (by rw [newS,hbf,HD.out];rfl)
     clear hf
     go_wp2_with (fail)
     (refine (due_is _ _ s _ HOBJ2.out _ HD.out).mono ?_;rintro e w' ⟨rfl,rfl⟩)
     go_wp2_with (at_builtin;refine Kd.R_append k165 (w0:=w) w.heap.size rfl (.tmp 30) (.tmp 34) 99 165 (.agg #[(.int .i64 0),(.int .i64 0),(.int .i64 0)]) 24 rfl Try.underlying99 info165 rfl (by decide) (by omega) _ out (⟨s.field,(pos : Int),0⟩ : S165) [.int .i64 s.field, .int .i64 (pos : Int), .int .i64 0] (fun _ => True) (fun _ => False) rfl rfl ?aP (fun _ hk => hk.elim) ?aF ?aO ?aB ?aS ?aL ?_;(case aP => exact k165_mkM _ _ _ (⟨s.field,(pos : Int),0⟩ : S165));(case aF => exact fun _ _ => trivial);(case aO => exact HSI.out.out);(case aB => exact HSI.out.walk.elim fun _ h => h.below);(case aS => exact HSI.out.walk.elim fun _ h => h.below.size);(case aL => have:=HLN.out.1;omega);intro v1 wA ho1 hb1 hg1 hat1;obtain ⟨out2,ho2⟩ : ∃ o,o = out ++ [(⟨s.field,(pos : Int),0⟩ : S165)]:=⟨_,rfl⟩;rw [← ho2] at ho1;have HO2:=Lib.hid ho2;clear ho2;have HSA:=Lib.hid (HSI.out.grown hg1 ho1 hb1);have HITA:=Lib.hid (iter_grown HSI.out.out hg1 HITI.out);clear ho1 hb1 hg1 hat1;have HNE : Hid (out2 ≠ []):=Lib.hid (by rw [HO2.out];simp);obtain ⟨g4,cap4,ji,rfl,hlast⟩:=HSA.out.last_at HNE.out (by rw [HO2.out,List.length_append,List.length_singleton];have:=HLN.out.1;omega);obtain ⟨lp0,lq0,lwr,lcell,lfroz,lput,lkept⟩:=hlast;have HPUT:=Lib.hid lput;have HKEPT:=Lib.hid (lkept _ _ _ HITA.out);have HNX:=Lib.hid (HPUT.out.next HKEPT.out (by omega) (by have:=HPL.out;omega) (by have:=HS1.out;omega) (by have:=HB2.out.size;have:=HPL.out;have:=HS1.out;omega) HWOK.out c HC2.out);clear lput lkept)
     (refine HNX.out.mono ?_;rintro e w3 ⟨rfl,hi3,hk3⟩;have HI3:=Lib.hid hi3;have HK3:=Aside0.mk hk3;clear hi3 hk3)
     go_wp2_with (fail)
     go_roundw
     case rel => exact ⟨pos + 1,hearW s c,s.field,bumpS out2,HP.out,rfl,HI3.out,HK3,⟨HAT2.out⟩,⟨HOW2.out⟩,⟨by rw [← HSG.out,HDROP.out,spG,if_pos HN0.out,HO2.out]⟩,⟨by rw [bumpS_length,HO2.out,List.length_append,List.length_singleton];have:=HLN.out.1;omega, .inl (bumpS_ne HNE.out)⟩⟩
     case measure => rw [iterPos_at HI3.out,iterPos_at HIT.out];have:=HP.out;omega
  ·have hnx:=fun ty => Lib.run_next_end_at (P:=Try.prog) _ _ t pos ty hit hp
   have HRES : Hid (out = spG (bytesOf t) 0 startW 0 []):=Lib.hid (by rw [← HSG.out,List.drop_eq_nil_of_le (by rw [bytesOf_length];omega)];rfl)
   clear hit hp
   go_wp2_with (fail)
   go_ret
   exact ⟨_,rfl,HRES.out ▸ HSW.out.out,HSW.out.walk.elim fun _ h => h.below⟩
theorem impl_Spans.calls (a0_0 : Bool) (a0_1 : Int) (a0_2 : Bool) (a0_3 : Int) (A0_4 : Option Addr) (c0_4 : Nat) (l0_4 : List Int) (r : List S165) (w : World) (hr0_4 : Kd.C (Kd.int .u8) w A0_4 l0_4.length l0_4) (hc0_4 : l0_4.length ≤ c0_4) (h : impl_Spans.f a0_0 a0_1 a0_2 a0_3 l0_4 = some r) :
  Calls Try.prog 67 #[.agg #[.bool a0_0, .int .u32 a0_1, .bool a0_2, .int .i64 a0_3, .slice A0_4 l0_4.length c0_4]] w fun e w' => ∃ v0_ : Value,e = .returned (v0_) ∧ Kd.R k165 165 w' w.heap.size (fun _ => True) v0_ r ∧ Below w.heap.size w w':=by
 unfold impl_Spans.f at h
 obtain ⟨t,ht,h⟩:=Option.bind_eq_some_iff.1 h
 by_cases c : (t.size ≤ 4000 ∧ isBits t = true) ∧ okW (bytesOf t) startW = true
 ·rw [if_pos c] at h
  cases h
  exact impl_Spans.yes a0_0 a0_1 a0_2 a0_3 A0_4 c0_4 l0_4 t w hr0_4 hc0_4 ht c.1.1 c.1.2 c.2
 ·rw [if_neg c] at h
  cases h
end Go.Proofs.Ytdoclpgciadjaaa.P

namespace Go.Proofs.Ytdoclpgciadjaaa.P
open Go.RowKit Go.Proofs.YtdoclpgciadjaaaW.PrintWords Go.Proofs.YtdoclpgciadjaaaW.PrintLast Go.Proofs.YtdoclpgciadjaaaW.PrintMore
set_option linter.unusedVariables false
set_option linter.unusedSimpArgs false
def laws_eqSpan.f (a0_0 : Int) (a0_1 : Int) (a0_2 : Int) (a1_0 : Int) (a1_1 : Int) (a1_2 : Int) : Option (Bool):=if a0_0 = a1_0 then (if a0_1 = a1_1 then (if a0_2 = a1_2 then (some true) else (some false)) else (some false)) else (some false)
set_option maxHeartbeats 8000000 in
set_option maxRecDepth 100000 in
theorem laws_eqSpan.calls (a0_0 : Int) (a0_1 : Int) (a0_2 : Int) (a1_0 : Int) (a1_1 : Int) (a1_2 : Int) (r : Bool) (w : World) (h : laws_eqSpan.f a0_0 a0_1 a0_2 a1_0 a1_1 a1_2 = some r) :
  Calls Try.prog 135 #[.agg #[.int .i64 a0_0, .int .i64 a0_1, .int .i64 a0_2], .agg #[.int .i64 a1_0, .int .i64 a1_1, .int .i64 a1_2]] w fun e w' => e = .returned (.bool r) ∧ Below w.heap.size w w':=by
 have hu165:=Try.underlying165
 have HB:=Aside0.mk (Below.refl w.heap.size w)
 have H : (if a0_0 = a1_0 then (if a0_1 = a1_1 then (if a0_2 = a1_2 then (some true) else (some false)) else (some false)) else (some false)) = some r:=h
 clear h
 by_cases c3 : a0_0 = a1_0
 ·rw [if_pos c3] at H
  have c3b0 : (a0_0 == a1_0) = true:=beq_iff_eq.mpr c3
  have c3b1 : (a0_0 != a1_0) = false:=bne_eq_false_iff_eq.mpr c3
  clear c3
  by_cases c4 : a0_1 = a1_1
  ·rw [if_pos c4] at H
   have c4b0 : (a0_1 == a1_1) = true:=beq_iff_eq.mpr c4
   have c4b1 : (a0_1 != a1_1) = false:=bne_eq_false_iff_eq.mpr c4
   clear c4
   by_cases c5 : a0_2 = a1_2
   ·rw [if_pos c5] at H
    have c5b0 : (a0_2 == a1_2) = true:=beq_iff_eq.mpr c5
    have c5b1 : (a0_2 != a1_2) = false:=bne_eq_false_iff_eq.mpr c5
    clear c5
    obtain rfl:=Option.some.inj H
    go_enter Try.func135,Try.ntmps135
    go_wp2_with (first | ((with_reducible refine gate_dst (N:=2) rfl ?_);refine box_event ?hg (N:=2) ?hd (cs := #[.int .i64 a0_0, .int .i64 a0_1, .int .i64 a0_2]) (t:=165) ?hr ?_;(case hd => rfl);(case hg => rfl);(case hr => first | (go_simp;done) | (go_simp;rfl));intro gb217 hg w6 hbox hb;have n0_:=Aside0.mk (below_step (by repeat (first | (with_reducible first | exact HB.out | apply below_alloc | apply pw_below_drewN | apply below_drew1) | exact HB.out)) hb);have n1_:=Aside0.mk (hbox);have n2_:=Aside0.mk ((by rw [hg];exact (below_size (by repeat (first | (with_reducible first | exact HB.out | apply below_alloc | apply pw_below_drewN | apply below_drew1) | exact HB.out))) : w.heap.size ≤ gb217));have n3_:=Aside0.mk ((by rw [hg];exact (below_size (by repeat (first | (with_reducible first | exact HB.out | apply below_alloc | apply pw_below_drewN | apply below_drew1) | exact HB.out))) : w.heap.size ≤ gb217));clear HB;have HB:=n0_;have BK217:=n1_;have GW217:=n2_;have GE217:=n3_;clear n0_ n1_ n2_ n3_;clear hb hbox hg) | ((with_reducible refine gate_dst (N:=3) rfl ?_);refine box_event ?hg (N:=3) ?hd (cs := #[.int .i64 a1_0, .int .i64 a1_1, .int .i64 a1_2]) (t:=165) ?hr ?_;(case hd => rfl);(case hg => rfl);(case hr => first | (go_simp;done) | (go_simp;rfl));intro gb218 hg w7 hbox hb;have n0_:=Aside0.mk (blk_below (g:=gb217) (o := .cells #[.int .i64 a0_0, .int .i64 a0_1, .int .i64 a0_2] 165 (0,0)) (by (with_reducible repeat (first | refine blk_drewN ?_ _ | refine blk_drew ?_ | refine blk_alloc ?_ _));exact BK217.out) hb);have n1_:=Aside0.mk (below_step (by repeat (first | (with_reducible first | exact HB.out | apply below_alloc | apply pw_below_drewN | apply below_drew1 | refine below_set ?_ GE217.out) | exact HB.out)) hb);have n2_:=Aside0.mk (hbox);have n3_:=Aside0.mk ((by rw [hg];exact (below_size (by repeat (first | (with_reducible first | exact HB.out | apply below_alloc | apply pw_below_drewN | apply below_drew1 | refine below_set ?_ GE217.out) | exact HB.out))) : w.heap.size ≤ gb218));have n4_:=Aside0.mk ((by rw [hg];exact (below_size (by repeat (first | (with_reducible first | exact HB.out | apply below_alloc | apply pw_below_drewN | apply below_drew1 | refine below_set ?_ GE217.out) | exact HB.out))) : w.heap.size ≤ gb218));have n5_:=Aside0.mk ((by rw [hg];exact Nat.ne_of_lt (blk_lt (g:=gb217) (o := .cells #[.int .i64 a0_0, .int .i64 a0_1, .int .i64 a0_2] 165 (0,0)) (by (with_reducible repeat (first | refine blk_drewN ?_ _ | refine blk_drew ?_ | refine blk_alloc ?_ _));exact BK217.out)) : gb217 ≠ gb218));have n6_:=Aside0.mk ((by rw [hg];exact Nat.ne_of_gt (blk_lt (g:=gb217) (o := .cells #[.int .i64 a0_0, .int .i64 a0_1, .int .i64 a0_2] 165 (0,0)) (by (with_reducible repeat (first | refine blk_drewN ?_ _ | refine blk_drew ?_ | refine blk_alloc ?_ _));exact BK217.out)) : gb218 ≠ gb217));clear BK217;clear HB;have BK217:=n0_;have HB:=n1_;have BK218:=n2_;have GW218:=n3_;have GE218:=n4_;have NB217_218:=n5_;have NB218_217:=n6_;clear n0_ n1_ n2_ n3_ n4_ n5_ n6_;clear hb hbox hg;have hnb8:=NB217_218.out;have hnc8:=NB218_217.out;have hcz9_0 : w7.cell? ⟨gb217,0,none⟩ = some (.int .i64 a0_0):=(blk_cell BK217.out 0).trans rfl;have hcz9_1 : w7.cell? ⟨gb217,1,none⟩ = some (.int .i64 a0_1):=(blk_cell BK217.out 1).trans rfl;have hcz9_2 : w7.cell? ⟨gb217,2,none⟩ = some (.int .i64 a0_2):=(blk_cell BK217.out 2).trans rfl;have hfz9_0:=blk_frozen BK217.out 0;have hfz9_1:=blk_frozen BK217.out 1;have hfz9_2:=blk_frozen BK217.out 2;have hcz10_0 : w7.cell? ⟨gb218,0,none⟩ = some (.int .i64 a1_0):=(blk_cell BK218.out 0).trans rfl;have hcz10_1 : w7.cell? ⟨gb218,1,none⟩ = some (.int .i64 a1_1):=(blk_cell BK218.out 1).trans rfl;have hcz10_2 : w7.cell? ⟨gb218,2,none⟩ = some (.int .i64 a1_2):=(blk_cell BK218.out 2).trans rfl;have hfz10_0:=blk_frozen BK218.out 0;have hfz10_1:=blk_frozen BK218.out 1;have hfz10_2:=blk_frozen BK218.out 2))
    go_ret
    exact ⟨by first | rfl | (simp [errW_none,errW_some] <;> rfl) | (simp [*,errW_none,errW_some] <;> rfl),by repeat (first | (with_reducible first | exact HB.out | apply below_alloc | apply pw_below_drewN | apply below_drew1 | refine below_set ?_ GE217.out | refine below_set ?_ GE218.out) | exact HB.out)⟩
   ·rw [if_neg c5] at H
    have c5b0 : (a0_2 == a1_2) = false:=beq_eq_false_iff_ne.mpr c5
    have c5b1 : (a0_2 != a1_2) = true:=bne_iff_ne.mpr c5
    obtain rfl:=Option.some.inj H
    go_enter Try.func135,Try.ntmps135
    go_wp2_with (first | ((with_reducible refine gate_dst (N:=2) rfl ?_);refine box_event ?hg (N:=2) ?hd (cs := #[.int .i64 a0_0, .int .i64 a0_1, .int .i64 a0_2]) (t:=165) ?hr ?_;(case hd => rfl);(case hg => rfl);(case hr => first | (go_simp;done) | (go_simp;rfl));intro gb217 hg w11 hbox hb;have n0_:=Aside0.mk (below_step (by repeat (first | (with_reducible first | exact HB.out | apply below_alloc | apply pw_below_drewN | apply below_drew1) | exact HB.out)) hb);have n1_:=Aside0.mk (hbox);have n2_:=Aside0.mk ((by rw [hg];exact (below_size (by repeat (first | (with_reducible first | exact HB.out | apply below_alloc | apply pw_below_drewN | apply below_drew1) | exact HB.out))) : w.heap.size ≤ gb217));have n3_:=Aside0.mk ((by rw [hg];exact (below_size (by repeat (first | (with_reducible first | exact HB.out | apply below_alloc | apply pw_below_drewN | apply below_drew1) | exact HB.out))) : w.heap.size ≤ gb217));clear HB;have HB:=n0_;have BK217:=n1_;have GW217:=n2_;have GE217:=n3_;clear n0_ n1_ n2_ n3_;clear hb hbox hg) | ((with_reducible refine gate_dst (N:=3) rfl ?_);refine box_event ?hg (N:=3) ?hd (cs := #[.int .i64 a1_0, .int .i64 a1_1, .int .i64 a1_2]) (t:=165) ?hr ?_;(case hd => rfl);(case hg => rfl);(case hr => first | (go_simp;done) | (go_simp;rfl));intro gb218 hg w12 hbox hb;have n0_:=Aside0.mk (blk_below (g:=gb217) (o := .cells #[.int .i64 a0_0, .int .i64 a0_1, .int .i64 a0_2] 165 (0,0)) (by (with_reducible repeat (first | refine blk_drewN ?_ _ | refine blk_drew ?_ | refine blk_alloc ?_ _));exact BK217.out) hb);have n1_:=Aside0.mk (below_step (by repeat (first | (with_reducible first | exact HB.out | apply below_alloc | apply pw_below_drewN | apply below_drew1 | refine below_set ?_ GE217.out) | exact HB.out)) hb);have n2_:=Aside0.mk (hbox);have n3_:=Aside0.mk ((by rw [hg];exact (below_size (by repeat (first | (with_reducible first | exact HB.out | apply below_alloc | apply pw_below_drewN | apply below_drew1 | refine below_set ?_ GE217.out) | exact HB.out))) : w.heap.size ≤ gb218));have n4_:=Aside0.mk ((by rw [hg];exact (below_size (by repeat (first | (with_reducible first | exact HB.out | apply below_alloc | apply pw_below_drewN | apply below_drew1 | refine below_set ?_ GE217.out) | exact HB.out))) : w.heap.size ≤ gb218));have n5_:=Aside0.mk ((by rw [hg];exact Nat.ne_of_lt (blk_lt (g:=gb217) (o := .cells #[.int .i64 a0_0, .int .i64 a0_1, .int .i64 a0_2] 165 (0,0)) (by (with_reducible repeat (first | refine blk_drewN ?_ _ | refine blk_drew ?_ | refine blk_alloc ?_ _));exact BK217.out)) : gb217 ≠ gb218));have n6_:=Aside0.mk ((by rw [hg];exact Nat.ne_of_gt (blk_lt (g:=gb217) (o := .cells #[.int .i64 a0_0, .int .i64 a0_1, .int .i64 a0_2] 165 (0,0)) (by (with_reducible repeat (first | refine blk_drewN ?_ _ | refine blk_drew ?_ | refine blk_alloc ?_ _));exact BK217.out)) : gb218 ≠ gb217));clear BK217;clear HB;have BK217:=n0_;have HB:=n1_;have BK218:=n2_;have GW218:=n3_;have GE218:=n4_;have NB217_218:=n5_;have NB218_217:=n6_;clear n0_ n1_ n2_ n3_ n4_ n5_ n6_;clear hb hbox hg;have hnb13:=NB217_218.out;have hnc13:=NB218_217.out;have hcz14_0 : w12.cell? ⟨gb217,0,none⟩ = some (.int .i64 a0_0):=(blk_cell BK217.out 0).trans rfl;have hcz14_1 : w12.cell? ⟨gb217,1,none⟩ = some (.int .i64 a0_1):=(blk_cell BK217.out 1).trans rfl;have hcz14_2 : w12.cell? ⟨gb217,2,none⟩ = some (.int .i64 a0_2):=(blk_cell BK217.out 2).trans rfl;have hfz14_0:=blk_frozen BK217.out 0;have hfz14_1:=blk_frozen BK217.out 1;have hfz14_2:=blk_frozen BK217.out 2;have hcz15_0 : w12.cell? ⟨gb218,0,none⟩ = some (.int .i64 a1_0):=(blk_cell BK218.out 0).trans rfl;have hcz15_1 : w12.cell? ⟨gb218,1,none⟩ = some (.int .i64 a1_1):=(blk_cell BK218.out 1).trans rfl;have hcz15_2 : w12.cell? ⟨gb218,2,none⟩ = some (.int .i64 a1_2):=(blk_cell BK218.out 2).trans rfl;have hfz15_0:=blk_frozen BK218.out 0;have hfz15_1:=blk_frozen BK218.out 1;have hfz15_2:=blk_frozen BK218.out 2))
    go_ret
    exact ⟨by first | rfl | (simp [errW_none,errW_some] <;> rfl) | (simp [*,errW_none,errW_some] <;> rfl),by repeat (first | (with_reducible first | exact HB.out | apply below_alloc | apply pw_below_drewN | apply below_drew1 | refine below_set ?_ GE217.out | refine below_set ?_ GE218.out) | exact HB.out)⟩
  ·rw [if_neg c4] at H
   have c4b0 : (a0_1 == a1_1) = false:=beq_eq_false_iff_ne.mpr c4
   have c4b1 : (a0_1 != a1_1) = true:=bne_iff_ne.mpr c4
   obtain rfl:=Option.some.inj H
   go_enter Try.func135,Try.ntmps135
   go_wp2_with (first | ((with_reducible refine gate_dst (N:=2) rfl ?_);refine box_event ?hg (N:=2) ?hd (cs := #[.int .i64 a0_0, .int .i64 a0_1, .int .i64 a0_2]) (t:=165) ?hr ?_;(case hd => rfl);(case hg => rfl);(case hr => first | (go_simp;done) | (go_simp;rfl));intro gb217 hg w16 hbox hb;have n0_:=Aside0.mk (below_step (by repeat (first | (with_reducible first | exact HB.out | apply below_alloc | apply pw_below_drewN | apply below_drew1) | exact HB.out)) hb);have n1_:=Aside0.mk (hbox);have n2_:=Aside0.mk ((by rw [hg];exact (below_size (by repeat (first | (with_reducible first | exact HB.out | apply below_alloc | apply pw_below_drewN | apply below_drew1) | exact HB.out))) : w.heap.size ≤ gb217));have n3_:=Aside0.mk ((by rw [hg];exact (below_size (by repeat (first | (with_reducible first | exact HB.out | apply below_alloc | apply pw_below_drewN | apply below_drew1) | exact HB.out))) : w.heap.size ≤ gb217));clear HB;have HB:=n0_;have BK217:=n1_;have GW217:=n2_;have GE217:=n3_;clear n0_ n1_ n2_ n3_;clear hb hbox hg) | ((with_reducible refine gate_dst (N:=3) rfl ?_);refine box_event ?hg (N:=3) ?hd (cs := #[.int .i64 a1_0, .int .i64 a1_1, .int .i64 a1_2]) (t:=165) ?hr ?_;(case hd => rfl);(case hg => rfl);(case hr => first | (go_simp;done) | (go_simp;rfl));intro gb218 hg w17 hbox hb;have n0_:=Aside0.mk (blk_below (g:=gb217) (o := .cells #[.int .i64 a0_0, .int .i64 a0_1, .int .i64 a0_2] 165 (0,0)) (by (with_reducible repeat (first | refine blk_drewN ?_ _ | refine blk_drew ?_ | refine blk_alloc ?_ _));exact BK217.out) hb);have n1_:=Aside0.mk (below_step (by repeat (first | (with_reducible first | exact HB.out | apply below_alloc | apply pw_below_drewN | apply below_drew1 | refine below_set ?_ GE217.out) | exact HB.out)) hb);have n2_:=Aside0.mk (hbox);have n3_:=Aside0.mk ((by rw [hg];exact (below_size (by repeat (first | (with_reducible first | exact HB.out | apply below_alloc | apply pw_below_drewN | apply below_drew1 | refine below_set ?_ GE217.out) | exact HB.out))) : w.heap.size ≤ gb218));have n4_:=Aside0.mk ((by rw [hg];exact (below_size (by repeat (first | (with_reducible first | exact HB.out | apply below_alloc | apply pw_below_drewN | apply below_drew1 | refine below_set ?_ GE217.out) | exact HB.out))) : w.heap.size ≤ gb218));have n5_:=Aside0.mk ((by rw [hg];exact Nat.ne_of_lt (blk_lt (g:=gb217) (o := .cells #[.int .i64 a0_0, .int .i64 a0_1, .int .i64 a0_2] 165 (0,0)) (by (with_reducible repeat (first | refine blk_drewN ?_ _ | refine blk_drew ?_ | refine blk_alloc ?_ _));exact BK217.out)) : gb217 ≠ gb218));have n6_:=Aside0.mk ((by rw [hg];exact Nat.ne_of_gt (blk_lt (g:=gb217) (o := .cells #[.int .i64 a0_0, .int .i64 a0_1, .int .i64 a0_2] 165 (0,0)) (by (with_reducible repeat (first | refine blk_drewN ?_ _ | refine blk_drew ?_ | refine blk_alloc ?_ _));exact BK217.out)) : gb218 ≠ gb217));clear BK217;clear HB;have BK217:=n0_;have HB:=n1_;have BK218:=n2_;have GW218:=n3_;have GE218:=n4_;have NB217_218:=n5_;have NB218_217:=n6_;clear n0_ n1_ n2_ n3_ n4_ n5_ n6_;clear hb hbox hg;have hnb18:=NB217_218.out;have hnc18:=NB218_217.out;have hcz19_0 : w17.cell? ⟨gb217,0,none⟩ = some (.int .i64 a0_0):=(blk_cell BK217.out 0).trans rfl;have hcz19_1 : w17.cell? ⟨gb217,1,none⟩ = some (.int .i64 a0_1):=(blk_cell BK217.out 1).trans rfl;have hcz19_2 : w17.cell? ⟨gb217,2,none⟩ = some (.int .i64 a0_2):=(blk_cell BK217.out 2).trans rfl;have hfz19_0:=blk_frozen BK217.out 0;have hfz19_1:=blk_frozen BK217.out 1;have hfz19_2:=blk_frozen BK217.out 2;have hcz20_0 : w17.cell? ⟨gb218,0,none⟩ = some (.int .i64 a1_0):=(blk_cell BK218.out 0).trans rfl;have hcz20_1 : w17.cell? ⟨gb218,1,none⟩ = some (.int .i64 a1_1):=(blk_cell BK218.out 1).trans rfl;have hcz20_2 : w17.cell? ⟨gb218,2,none⟩ = some (.int .i64 a1_2):=(blk_cell BK218.out 2).trans rfl;have hfz20_0:=blk_frozen BK218.out 0;have hfz20_1:=blk_frozen BK218.out 1;have hfz20_2:=blk_frozen BK218.out 2))
   go_ret
   exact ⟨by first | rfl | (simp [errW_none,errW_some] <;> rfl) | (simp [*,errW_none,errW_some] <;> rfl),by repeat (first | (with_reducible first | exact HB.out | apply below_alloc | apply pw_below_drewN | apply below_drew1 | refine below_set ?_ GE217.out | refine below_set ?_ GE218.out) | exact HB.out)⟩
 ·rw [if_neg c3] at H
  have c3b0 : (a0_0 == a1_0) = false:=beq_eq_false_iff_ne.mpr c3
  have c3b1 : (a0_0 != a1_0) = true:=bne_iff_ne.mpr c3
  obtain rfl:=Option.some.inj H
  go_enter Try.func135,Try.ntmps135
  go_wp2_with (first | ((with_reducible refine gate_dst (N:=2) rfl ?_);refine box_event ?hg (N:=2) ?hd (cs := #[.int .i64 a0_0, .int .i64 a0_1, .int .i64 a0_2]) (t:=165) ?hr ?_;(case hd => rfl);(case hg => rfl);(case hr => first | (go_simp;done) | (go_simp;rfl));intro gb217 hg w21 hbox hb;have n0_:=Aside0.mk (below_step (by repeat (first | (with_reducible first | exact HB.out | apply below_alloc | apply pw_below_drewN | apply below_drew1) | exact HB.out)) hb);have n1_:=Aside0.mk (hbox);have n2_:=Aside0.mk ((by rw [hg];exact (below_size (by repeat (first | (with_reducible first | exact HB.out | apply below_alloc | apply pw_below_drewN | apply below_drew1) | exact HB.out))) : w.heap.size ≤ gb217));have n3_:=Aside0.mk ((by rw [hg];exact (below_size (by repeat (first | (with_reducible first | exact HB.out | apply below_alloc | apply pw_below_drewN | apply below_drew1) | exact HB.out))) : w.heap.size ≤ gb217));clear HB;have HB:=n0_;have BK217:=n1_;have GW217:=n2_;have GE217:=n3_;clear n0_ n1_ n2_ n3_;clear hb hbox hg) | ((with_reducible refine gate_dst (N:=3) rfl ?_);refine box_event ?hg (N:=3) ?hd (cs := #[.int .i64 a1_0, .int .i64 a1_1, .int .i64 a1_2]) (t:=165) ?hr ?_;(case hd => rfl);(case hg => rfl);(case hr => first | (go_simp;done) | (go_simp;rfl));intro gb218 hg w22 hbox hb;have n0_:=Aside0.mk (blk_below (g:=gb217) (o := .cells #[.int .i64 a0_0, .int .i64 a0_1, .int .i64 a0_2] 165 (0,0)) (by (with_reducible repeat (first | refine blk_drewN ?_ _ | refine blk_drew ?_ | refine blk_alloc ?_ _));exact BK217.out) hb);have n1_:=Aside0.mk (below_step (by repeat (first | (with_reducible first | exact HB.out | apply below_alloc | apply pw_below_drewN | apply below_drew1 | refine below_set ?_ GE217.out) | exact HB.out)) hb);have n2_:=Aside0.mk (hbox);have n3_:=Aside0.mk ((by rw [hg];exact (below_size (by repeat (first | (with_reducible first | exact HB.out | apply below_alloc | apply pw_below_drewN | apply below_drew1 | refine below_set ?_ GE217.out) | exact HB.out))) : w.heap.size ≤ gb218));have n4_:=Aside0.mk ((by rw [hg];exact (below_size (by repeat (first | (with_reducible first | exact HB.out | apply below_alloc | apply pw_below_drewN | apply below_drew1 | refine below_set ?_ GE217.out) | exact HB.out))) : w.heap.size ≤ gb218));have n5_:=Aside0.mk ((by rw [hg];exact Nat.ne_of_lt (blk_lt (g:=gb217) (o := .cells #[.int .i64 a0_0, .int .i64 a0_1, .int .i64 a0_2] 165 (0,0)) (by (with_reducible repeat (first | refine blk_drewN ?_ _ | refine blk_drew ?_ | refine blk_alloc ?_ _));exact BK217.out)) : gb217 ≠ gb218));have n6_:=Aside0.mk ((by rw [hg];exact Nat.ne_of_gt (blk_lt (g:=gb217) (o := .cells #[.int .i64 a0_0, .int .i64 a0_1, .int .i64 a0_2] 165 (0,0)) (by (with_reducible repeat (first | refine blk_drewN ?_ _ | refine blk_drew ?_ | refine blk_alloc ?_ _));exact BK217.out)) : gb218 ≠ gb217));clear BK217;clear HB;have BK217:=n0_;have HB:=n1_;have BK218:=n2_;have GW218:=n3_;have GE218:=n4_;have NB217_218:=n5_;have NB218_217:=n6_;clear n0_ n1_ n2_ n3_ n4_ n5_ n6_;clear hb hbox hg;have hnb23:=NB217_218.out;have hnc23:=NB218_217.out;have hcz24_0 : w22.cell? ⟨gb217,0,none⟩ = some (.int .i64 a0_0):=(blk_cell BK217.out 0).trans rfl;have hcz24_1 : w22.cell? ⟨gb217,1,none⟩ = some (.int .i64 a0_1):=(blk_cell BK217.out 1).trans rfl;have hcz24_2 : w22.cell? ⟨gb217,2,none⟩ = some (.int .i64 a0_2):=(blk_cell BK217.out 2).trans rfl;have hfz24_0:=blk_frozen BK217.out 0;have hfz24_1:=blk_frozen BK217.out 1;have hfz24_2:=blk_frozen BK217.out 2;have hcz25_0 : w22.cell? ⟨gb218,0,none⟩ = some (.int .i64 a1_0):=(blk_cell BK218.out 0).trans rfl;have hcz25_1 : w22.cell? ⟨gb218,1,none⟩ = some (.int .i64 a1_1):=(blk_cell BK218.out 1).trans rfl;have hcz25_2 : w22.cell? ⟨gb218,2,none⟩ = some (.int .i64 a1_2):=(blk_cell BK218.out 2).trans rfl;have hfz25_0:=blk_frozen BK218.out 0;have hfz25_1:=blk_frozen BK218.out 1;have hfz25_2:=blk_frozen BK218.out 2))
  go_ret
  exact ⟨by first | rfl | (simp [errW_none,errW_some] <;> rfl) | (simp [*,errW_none,errW_some] <;> rfl),by repeat (first | (with_reducible first | exact HB.out | apply below_alloc | apply pw_below_drewN | apply below_drew1 | refine below_set ?_ GE217.out | refine below_set ?_ GE218.out) | exact HB.out)⟩
end Go.Proofs.Ytdoclpgciadjaaa.P

namespace Go.Proofs.Ytdoclpgciadjaaa.P
open Go.RowKit Go.Proofs.YtdoclpgciadjaaaW.PrintWords Go.Proofs.YtdoclpgciadjaaaW.PrintLast Go.Proofs.YtdoclpgciadjaaaW.PrintMore
set_option linter.unusedVariables false
set_option linter.unusedSimpArgs false
def laws_eqSpanS.l0 : Nat → List (S165) → List (S165) → Int → Option (Bool)
 | 0,_,_,_ => none
 | k + 1,x0,x1,x5 => if x5 < (x0.length : Int) then (if 0 ≤ x5 then (if x5 < (x1.length : Int) then ((laws_eqSpan.f ((rd_T165 x0 x5).f0) ((rd_T165 x0 x5).f1) ((rd_T165 x0 x5).f2) ((rd_T165 x1 x5).f0) ((rd_T165 x1 x5).f1) ((rd_T165 x1 x5).f2)).bind fun t221 => (if t221 = true then (laws_eqSpanS.l0 k x0 x1 (wrap64 (x5 + 1))) else (some false))) else (none)) else (none)) else (some true)
def laws_eqSpanS.f (k : Nat) (l0 : List (S165)) (l1 : List (S165)) : Option (Bool):=if (l0.length : Int) = (l1.length : Int) then (laws_eqSpanS.l0 k l0 l1 0) else (some false)
def laws_eqSpanS.T6 : Bool × List (List Nat × List Nat):=(true, [([], []),([], []),([0,1], [0,1]),([2], [2]),([], []),([], []),([4,5], [4,5]),([6], [6]),([3,7], [3,7]),([8], [8])])
def laws_eqSpanS.B6 : List Nat := [0,0,3,7,0,0,48,112,255,511]
theorem laws_eqSpanS.tab6 : rtab .any (opsOf Try.f68 6) = laws_eqSpanS.T6:=by kernel_rfl
theorem laws_eqSpanS.bits6 : waitsOk laws_eqSpanS.T6.2 laws_eqSpanS.B6 = true:=by kernel_rfl
set_option maxHeartbeats 8000000 in
set_option maxRecDepth 100000 in
theorem laws_eqSpanS.calls (k : Nat) (A0 : Option Addr) (c0 : Nat) (l0 : List (S165)) (A1 : Option Addr) (c1 : Nat) (l1 : List (S165)) (r : Bool) (w : World) (hr0 : Kd.C k165 w A0 l0.length l0) (hc0 : l0.length ≤ c0) (hr1 : Kd.C k165 w A1 l1.length l1) (hc1 : l1.length ≤ c1) (h : laws_eqSpanS.f k l0 l1 = some r) :
  Calls Try.prog 68 #[.slice A0 l0.length c0, .slice A1 l1.length c1] w fun e w' => e = .returned (.bool r) ∧ Below w.heap.size w w':=by
 have hu165:=Try.underlying165
 have HR0:=Aside0.mk hr0
 have HC0:=Aside0.mk hc0
 clear hr0 hc0
 have HR1:=Aside0.mk hr1
 have HC1:=Aside0.mk hc1
 clear hr1 hc1
 have HB:=Aside0.mk (Below.refl w.heap.size w)
 have H : (if (l0.length : Int) = (l1.length : Int) then (laws_eqSpanS.l0 k l0 l1 0) else (some false)) = some r:=h
 clear h
 by_cases c3 : (l0.length : Int) = (l1.length : Int)
 ·rw [if_pos c3] at H
  have c3b0 : ((l0.length : Int) == (l1.length : Int)) = true:=beq_iff_eq.mpr c3
  have c3b1 : ((l0.length : Int) != (l1.length : Int)) = false:=bne_eq_false_iff_eq.mpr c3
  have c3b2 : (l0.length == l1.length) = true:=by first | simpa using c3 | (simp at c3 ⊢;omega)
  clear c3
  have H':=Aside0.mk H
  clear H
  go_enter Try.func68,Try.ntmps68
  go_wp2
  go_loopg [5] k (fun kq v5 w' => ∃ (x5_1 : Int),v5 = .int .i64 x5_1 ∧ Aside0 (laws_eqSpanS.l0 kq l0 l1 x5_1 = some r) ∧ Aside0 (kq ≤ k) ∧ Aside0 (Below w.heap.size w w'))
  case atStart => exact ⟨(0),(by first | rfl | (simp;done) | (simp [*];done)),H',⟨Nat.le_refl _⟩,⟨by repeat (first | (with_reducible first | exact HB.out | apply below_alloc | apply pw_below_drewN | apply below_drew1) | exact HB.out)⟩⟩
  case round =>
   clear H'
   try clear c1
   try clear p2
   try clear c3
   try clear c3b0
   try clear c3b1
   try clear c3b2
   obtain ⟨x5_1,rfl,HA,HK1,HB⟩:=hrel
   cases gk with
   | zero => exact absurd HA.out (by simp [laws_eqSpanS.l0])
   | succ k1 =>
    have H:=HA.out
    clear HA
    simp only [laws_eqSpanS.l0] at H
    by_cases c4 : x5_1 < (l0.length : Int)
    ·rw [if_pos c4] at H
     have c4b0 : decide (x5_1 < (l0.length : Int)) = true:=decide_eq_true c4
     clear c4
     by_cases c5 : 0 ≤ x5_1
     ·rw [if_pos c5] at H
      have c5b0 : decide (0 ≤ x5_1) = true:=decide_eq_true c5
      clear c5
      by_cases c6 : x5_1 < (l1.length : Int)
      ·rw [if_pos c6] at H
       have c6b0 : decide (x5_1 < (l1.length : Int)) = true:=decide_eq_true c6
       clear c6
       replace H:=Option.bind_eq_some_iff.mp H
       obtain ⟨t221,A70,H⟩:=H
       replace H : (if t221 = true then (laws_eqSpanS.l0 k1 l0 l1 (wrap64 (x5_1 + 1))) else (some false)) = some r:=H
       have A7:=Aside0.mk A70
       clear A70
       by_cases c8 : t221 = true
       ·subst c8
        have H1 : (laws_eqSpanS.l0 k1 l0 l1 (wrap64 (x5_1 + 1))) = some r:=by rw [if_pos rfl] at H;exact H
        clear H
        have H:=H1
        clear H1
        have H':=Aside0.mk H
        clear H
        try go_wp2
        have n0_:=Aside0.mk (below_drew1 HB.out)
        clear HB
        have HB:=n0_
        clear n0_
        have p219 : 0 ≤ (x5_1 : Int):=of_decide_eq_true (by first | (with_reducible assumption) | assumption)
        have q219 : x5_1 < (l0.length : Int):=of_decide_eq_true (by first | (with_reducible assumption) | assumption)
        obtain ⟨ad219,e219,hx219_0,hx219_1,hx219_2⟩:=at_T165 HR0.out x5_1 p219 q219
        have hw219_2:=hx219_2
        have hw219_1:=hx219_1
        have hw219_0:=hx219_0
        cases e219
        replace hx219_0:=(HB.out.cell (World.block_lt_of_cell? w _ hx219_0)).trans hx219_0
        replace hx219_1:=(HB.out.cell (World.block_lt_of_cell? w _ hx219_1)).trans hx219_1
        replace hx219_2:=(HB.out.cell (World.block_lt_of_cell? w _ hx219_2)).trans hx219_2
        replace p219:=eq_true p219
        replace q219:=eq_true q219
        have p220 : 0 ≤ (x5_1 : Int):=of_decide_eq_true (by first | (with_reducible assumption) | assumption)
        have q220 : x5_1 < (l1.length : Int):=of_decide_eq_true (by first | (with_reducible assumption) | assumption)
        obtain ⟨ad220,e220,hx220_0,hx220_1,hx220_2⟩:=at_T165 HR1.out x5_1 p220 q220
        have hw220_2:=hx220_2
        have hw220_1:=hx220_1
        have hw220_0:=hx220_0
        cases e220
        replace hx220_0:=(HB.out.cell (World.block_lt_of_cell? w _ hx220_0)).trans hx220_0
        replace hx220_1:=(HB.out.cell (World.block_lt_of_cell? w _ hx220_1)).trans hx220_1
        replace hx220_2:=(HB.out.cell (World.block_lt_of_cell? w _ hx220_2)).trans hx220_2
        replace p220:=eq_true p220
        replace q220:=eq_true q220
        refine start_ (n:=10) (S:=fun w' => w'.cell? (ad219.add ((x5_1).toNat * 3)) = some (.int .i64 ((rd_T165 l0 x5_1).f0)) ∧ w'.cell? ⟨(ad219.add ((x5_1).toNat * 3)).block,(ad219.add ((x5_1).toNat * 3)).off + 1,none⟩ = some (.int .i64 ((rd_T165 l0 x5_1).f1)) ∧ w'.cell? ⟨(ad219.add ((x5_1).toNat * 3)).block,(ad219.add ((x5_1).toNat * 3)).off + 2,none⟩ = some (.int .i64 ((rd_T165 l0 x5_1).f2)) ∧ w'.cell? (ad220.add ((x5_1).toNat * 3)) = some (.int .i64 ((rd_T165 l1 x5_1).f0)) ∧ w'.cell? ⟨(ad220.add ((x5_1).toNat * 3)).block,(ad220.add ((x5_1).toNat * 3)).off + 1,none⟩ = some (.int .i64 ((rd_T165 l1 x5_1).f1)) ∧ w'.cell? ⟨(ad220.add ((x5_1).toNat * 3)).block,(ad220.add ((x5_1).toNat * 3)).off + 2,none⟩ = some (.int .i64 ((rd_T165 l1 x5_1).f2))) (ds := []) #[false,false,false,false,false,false,false,false,false,false] (by kernel_rfl) rfl rfl ⟨((HB.out.cell (World.block_lt_of_cell? w _ hw219_0)).trans hw219_0),((HB.out.cell (World.block_lt_of_cell? w _ hw219_1)).trans hw219_1),((HB.out.cell (World.block_lt_of_cell? w _ hw219_2)).trans hw219_2),((HB.out.cell (World.block_lt_of_cell? w _ hw220_0)).trans hw220_0),((HB.out.cell (World.block_lt_of_cell? w _ hw220_1)).trans hw220_1),((HB.out.cell (World.block_lt_of_cell? w _ hw220_2)).trans hw220_2)⟩ (fun hHeld => ?_);refine with_tabW laws_eqSpanS.tab6 laws_eqSpanS.bits6 (fun HT_ HW_ => ?_)
        generalize wr.drew = w9 at HB hx219_0 hx219_1 hx219_2 hx220_0 hx220_1 hx220_2 hHeld ⊢
        refine pure_ (i:=0) (N:=some 17) (v := ?_) (a' := ?_) #[true,false,false,false,false,false,false,false,false,false] rfl rfl (any_of HT_.out (by kernel_rfl)) (fun _ _ _ h => h) (Or.inl ⟨by rfl, ?_⟩) ?_ ?_
        rotate_left
        ·intro w'
         go_simp
         with_reducible rfl
        rotate_left
        ·simp only [Act.put,List.setIfInBounds_toArray,List.set_cons_zero,List.set_cons_succ,i64_w,i32_w]
         rfl
        refine pure_ (i:=1) (N:=some 18) (v := ?_) (a' := ?_) #[true,true,false,false,false,false,false,false,false,false] rfl rfl (any_of HT_.out (by kernel_rfl)) (fun _ _ _ h => h) (Or.inl ⟨by rfl, ?_⟩) ?_ ?_
        rotate_left
        ·intro w'
         go_simp
         with_reducible rfl
        rotate_left
        ·simp only [Act.put,List.setIfInBounds_toArray,List.set_cons_zero,List.set_cons_succ,i64_w,i32_w]
         rfl
        refine pure_ (i:=2) (N:=some 19) (v := ?_) (a' := ?_) #[true,true,true,false,false,false,false,false,false,false] rfl rfl (any_of HT_.out (by kernel_rfl)) (fun _ _ _ h => h) (Or.inl ⟨by rfl, ?_⟩) ?_ ?_
        rotate_left
        ·intro w'
         go_simp
         with_reducible rfl
        rotate_left
        ·simp only [Act.put,List.setIfInBounds_toArray,List.set_cons_zero,List.set_cons_succ,i64_w,i32_w]
         rfl
        refine pure_ (i:=4) (N:=some 21) (v := ?_) (a' := ?_) #[true,true,true,false,true,false,false,false,false,false] rfl rfl (any_of HT_.out (by kernel_rfl)) (fun _ _ _ h => h) (Or.inl ⟨by rfl, ?_⟩) ?_ ?_
        rotate_left
        ·intro w'
         go_simp
         with_reducible rfl
        rotate_left
        ·simp only [Act.put,List.setIfInBounds_toArray,List.set_cons_zero,List.set_cons_succ,i64_w,i32_w]
         rfl
        refine pure_ (i:=5) (N:=some 22) (v := ?_) (a' := ?_) #[true,true,true,false,true,true,false,false,false,false] rfl rfl (any_of HT_.out (by kernel_rfl)) (fun _ _ _ h => h) (Or.inl ⟨by rfl, ?_⟩) ?_ ?_
        rotate_left
        ·intro w'
         go_simp
         with_reducible rfl
        rotate_left
        ·simp only [Act.put,List.setIfInBounds_toArray,List.set_cons_zero,List.set_cons_succ,i64_w,i32_w]
         rfl
        refine pure_ (i:=6) (N:=some 23) (v := ?_) (a' := ?_) #[true,true,true,false,true,true,true,false,false,false] rfl rfl (any_of HT_.out (by kernel_rfl)) (fun _ _ _ h => h) (Or.inl ⟨by rfl, ?_⟩) ?_ ?_
        rotate_left
        ·intro w'
         go_simp
         with_reducible rfl
        rotate_left
        ·simp only [Act.put,List.setIfInBounds_toArray,List.set_cons_zero,List.set_cons_succ,i64_w,i32_w]
         rfl
        refine take_ (i:=3) (N:=some 20) (v := ?_) (a' := ?_) #[true,true,true,true,true,true,true,false,false,false] rfl rfl (take_ofW HT_.out HW_.out (by kernel_rfl)) (fun _ _ _ h => h) (Or.inl ⟨by rfl, ?_⟩) hHeld ?_ ?_
        rotate_left
        ·rintro w' ⟨s0,s1,s2,s3,s4,s5⟩
         go_simp
         with_reducible rfl
        rotate_left
        ·simp only [Act.put,List.setIfInBounds_toArray,List.set_cons_zero,List.set_cons_succ,i64_w,i32_w]
         rfl
        refine take_ (i:=7) (N:=some 24) (v := ?_) (a' := ?_) #[true,true,true,true,true,true,true,true,false,false] rfl rfl (take_ofW HT_.out HW_.out (by kernel_rfl)) (fun _ _ _ h => h) (Or.inl ⟨by rfl, ?_⟩) hHeld ?_ ?_
        rotate_left
        ·rintro w' ⟨s0,s1,s2,s3,s4,s5⟩
         go_simp
         with_reducible rfl
        rotate_left
        ·simp only [Act.put,List.setIfInBounds_toArray,List.set_cons_zero,List.set_cons_succ,i64_w,i32_w]
         rfl
        refine one_ (i:=8) (N:=some 25) #[true,true,true,true,true,true,true,true,true,false] rfl rfl (one_of HT_.out (by kernel_rfl)) (by decide) (fun K hK => ?_)
        refine goes_ Try.func135 (by kernel_rfl) rfl #[.agg #[.int .i64 ((rd_T165 l0 x5_1).f0), .int .i64 ((rd_T165 l0 x5_1).f1), .int .i64 ((rd_T165 l0 x5_1).f2)], .agg #[.int .i64 ((rd_T165 l1 x5_1).f0), .int .i64 ((rd_T165 l1 x5_1).f1), .int .i64 ((rd_T165 l1 x5_1).f2)]] (by rfl) rfl rfl (by (try simp only [List.map_toArray,List.map_cons,List.map_nil]);first | done | rfl | (simp only [List.length_drop,List.length_take];rfl)) ?_
        with_reducible refine (laws_eqSpan.calls ((rd_T165 l0 x5_1).f0) ((rd_T165 l0 x5_1).f1) ((rd_T165 l0 x5_1).f2) ((rd_T165 l1 x5_1).f0) ((rd_T165 l1 x5_1).f1) ((rd_T165 l1 x5_1).f2) true _ A7.out).mono ?_
        rintro e w10 ⟨rfl,hb⟩
        refine ⟨_,rfl, ?_⟩
        have n0_:=Aside0.mk (below_step (by repeat (first | (with_reducible first | exact HB.out | apply below_alloc | apply pw_below_drewN | apply below_drew1) | exact HB.out)) hb)
        clear HB
        have HB:=n0_
        clear n0_
        (try clear hb)
        (try clear hb2)
        (try clear hk)
        (try clear hi)
        refine hK.out _ _ ⟨((HB.out.cell (World.block_lt_of_cell? w _ hw219_0)).trans hw219_0),((HB.out.cell (World.block_lt_of_cell? w _ hw219_1)).trans hw219_1),((HB.out.cell (World.block_lt_of_cell? w _ hw219_2)).trans hw219_2),((HB.out.cell (World.block_lt_of_cell? w _ hw220_0)).trans hw220_0),((HB.out.cell (World.block_lt_of_cell? w _ hw220_1)).trans hw220_1),((HB.out.cell (World.block_lt_of_cell? w _ hw220_2)).trans hw220_2)⟩ (fun hHeld => ?_)
        clear hK K
        refine norm_ (a' := ?_) ?_ ?_
        rotate_left
        ·show Act.put _ (some 25) _ = _
         simp only [Act.put,List.setIfInBounds_toArray,List.set_cons_zero,List.set_cons_succ,i64_w,i32_w]
         rfl
        refine pure_ (i:=9) (N:=some 26) (v := ?_) (a' := ?_) #[true,true,true,true,true,true,true,true,true,true] rfl rfl (any_of HT_.out (by kernel_rfl)) (fun _ _ _ h => h) (Or.inl ⟨by rfl, ?_⟩) ?_ ?_
        rotate_left
        ·intro w'
         go_simp
         with_reducible rfl
        rotate_left
        ·simp only [Act.put,List.setIfInBounds_toArray,List.set_cons_zero,List.set_cons_succ,i64_w,i32_w]
         rfl
        refine done_ (done_of HT_.out (by kernel_rfl)) ?_
        try go_wp2
        go_roundg k1
        case measure => have:=HK1.out;omega
        case rel => exact ⟨(wrap64 (x5_1 + 1)),(by first | rfl | (simp;done) | (simp [*];done)),H',⟨by have:=HK1.out;omega⟩,⟨by repeat (first | (with_reducible first | exact HB.out | apply below_alloc | apply pw_below_drewN | apply below_drew1) | exact HB.out)⟩⟩
       ·replace c8:=Bool.eq_false_iff.mpr c8
        subst c8
        have H1 : (some false) = some r:=by rw [if_neg (show ¬ (false = true) by decide)] at H;exact H
        clear H
        have H:=H1
        clear H1
        obtain rfl:=Option.some.inj H
        try go_wp2
        have n0_:=Aside0.mk (below_drew1 HB.out)
        clear HB
        have HB:=n0_
        clear n0_
        have p219 : 0 ≤ (x5_1 : Int):=of_decide_eq_true (by first | (with_reducible assumption) | assumption)
        have q219 : x5_1 < (l0.length : Int):=of_decide_eq_true (by first | (with_reducible assumption) | assumption)
        obtain ⟨ad219,e219,hx219_0,hx219_1,hx219_2⟩:=at_T165 HR0.out x5_1 p219 q219
        have hw219_2:=hx219_2
        have hw219_1:=hx219_1
        have hw219_0:=hx219_0
        cases e219
        replace hx219_0:=(HB.out.cell (World.block_lt_of_cell? w _ hx219_0)).trans hx219_0
        replace hx219_1:=(HB.out.cell (World.block_lt_of_cell? w _ hx219_1)).trans hx219_1
        replace hx219_2:=(HB.out.cell (World.block_lt_of_cell? w _ hx219_2)).trans hx219_2
        replace p219:=eq_true p219
        replace q219:=eq_true q219
        have p220 : 0 ≤ (x5_1 : Int):=of_decide_eq_true (by first | (with_reducible assumption) | assumption)
        have q220 : x5_1 < (l1.length : Int):=of_decide_eq_true (by first | (with_reducible assumption) | assumption)
        obtain ⟨ad220,e220,hx220_0,hx220_1,hx220_2⟩:=at_T165 HR1.out x5_1 p220 q220
        have hw220_2:=hx220_2
        have hw220_1:=hx220_1
        have hw220_0:=hx220_0
        cases e220
        replace hx220_0:=(HB.out.cell (World.block_lt_of_cell? w _ hx220_0)).trans hx220_0
        replace hx220_1:=(HB.out.cell (World.block_lt_of_cell? w _ hx220_1)).trans hx220_1
        replace hx220_2:=(HB.out.cell (World.block_lt_of_cell? w _ hx220_2)).trans hx220_2
        replace p220:=eq_true p220
        replace q220:=eq_true q220
        refine start_ (n:=10) (S:=fun w' => w'.cell? (ad219.add ((x5_1).toNat * 3)) = some (.int .i64 ((rd_T165 l0 x5_1).f0)) ∧ w'.cell? ⟨(ad219.add ((x5_1).toNat * 3)).block,(ad219.add ((x5_1).toNat * 3)).off + 1,none⟩ = some (.int .i64 ((rd_T165 l0 x5_1).f1)) ∧ w'.cell? ⟨(ad219.add ((x5_1).toNat * 3)).block,(ad219.add ((x5_1).toNat * 3)).off + 2,none⟩ = some (.int .i64 ((rd_T165 l0 x5_1).f2)) ∧ w'.cell? (ad220.add ((x5_1).toNat * 3)) = some (.int .i64 ((rd_T165 l1 x5_1).f0)) ∧ w'.cell? ⟨(ad220.add ((x5_1).toNat * 3)).block,(ad220.add ((x5_1).toNat * 3)).off + 1,none⟩ = some (.int .i64 ((rd_T165 l1 x5_1).f1)) ∧ w'.cell? ⟨(ad220.add ((x5_1).toNat * 3)).block,(ad220.add ((x5_1).toNat * 3)).off + 2,none⟩ = some (.int .i64 ((rd_T165 l1 x5_1).f2))) (ds := []) #[false,false,false,false,false,false,false,false,false,false] (by kernel_rfl) rfl rfl ⟨((HB.out.cell (World.block_lt_of_cell? w _ hw219_0)).trans hw219_0),((HB.out.cell (World.block_lt_of_cell? w _ hw219_1)).trans hw219_1),((HB.out.cell (World.block_lt_of_cell? w _ hw219_2)).trans hw219_2),((HB.out.cell (World.block_lt_of_cell? w _ hw220_0)).trans hw220_0),((HB.out.cell (World.block_lt_of_cell? w _ hw220_1)).trans hw220_1),((HB.out.cell (World.block_lt_of_cell? w _ hw220_2)).trans hw220_2)⟩ (fun hHeld => ?_);refine with_tabW laws_eqSpanS.tab6 laws_eqSpanS.bits6 (fun HT_ HW_ => ?_)
        generalize wr.drew = w11 at HB hx219_0 hx219_1 hx219_2 hx220_0 hx220_1 hx220_2 hHeld ⊢
        refine pure_ (i:=0) (N:=some 17) (v := ?_) (a' := ?_) #[true,false,false,false,false,false,false,false,false,false] rfl rfl (any_of HT_.out (by kernel_rfl)) (fun _ _ _ h => h) (Or.inl ⟨by rfl, ?_⟩) ?_ ?_
        rotate_left
        ·intro w'
         go_simp
         with_reducible rfl
        rotate_left
        ·simp only [Act.put,List.setIfInBounds_toArray,List.set_cons_zero,List.set_cons_succ,i64_w,i32_w]
         rfl
        refine pure_ (i:=1) (N:=some 18) (v := ?_) (a' := ?_) #[true,true,false,false,false,false,false,false,false,false] rfl rfl (any_of HT_.out (by kernel_rfl)) (fun _ _ _ h => h) (Or.inl ⟨by rfl, ?_⟩) ?_ ?_
        rotate_left
        ·intro w'
         go_simp
         with_reducible rfl
        rotate_left
        ·simp only [Act.put,List.setIfInBounds_toArray,List.set_cons_zero,List.set_cons_succ,i64_w,i32_w]
         rfl
        refine pure_ (i:=2) (N:=some 19) (v := ?_) (a' := ?_) #[true,true,true,false,false,false,false,false,false,false] rfl rfl (any_of HT_.out (by kernel_rfl)) (fun _ _ _ h => h) (Or.inl ⟨by rfl, ?_⟩) ?_ ?_
        rotate_left
        ·intro w'
         go_simp
         with_reducible rfl
        rotate_left
        ·simp only [Act.put,List.setIfInBounds_toArray,List.set_cons_zero,List.set_cons_succ,i64_w,i32_w]
         rfl
        refine pure_ (i:=4) (N:=some 21) (v := ?_) (a' := ?_) #[true,true,true,false,true,false,false,false,false,false] rfl rfl (any_of HT_.out (by kernel_rfl)) (fun _ _ _ h => h) (Or.inl ⟨by rfl, ?_⟩) ?_ ?_
        rotate_left
        ·intro w'
         go_simp
         with_reducible rfl
        rotate_left
        ·simp only [Act.put,List.setIfInBounds_toArray,List.set_cons_zero,List.set_cons_succ,i64_w,i32_w]
         rfl
        refine pure_ (i:=5) (N:=some 22) (v := ?_) (a' := ?_) #[true,true,true,false,true,true,false,false,false,false] rfl rfl (any_of HT_.out (by kernel_rfl)) (fun _ _ _ h => h) (Or.inl ⟨by rfl, ?_⟩) ?_ ?_
        rotate_left
        ·intro w'
         go_simp
         with_reducible rfl
        rotate_left
        ·simp only [Act.put,List.setIfInBounds_toArray,List.set_cons_zero,List.set_cons_succ,i64_w,i32_w]
         rfl
        refine pure_ (i:=6) (N:=some 23) (v := ?_) (a' := ?_) #[true,true,true,false,true,true,true,false,false,false] rfl rfl (any_of HT_.out (by kernel_rfl)) (fun _ _ _ h => h) (Or.inl ⟨by rfl, ?_⟩) ?_ ?_
        rotate_left
        ·intro w'
         go_simp
         with_reducible rfl
        rotate_left
        ·simp only [Act.put,List.setIfInBounds_toArray,List.set_cons_zero,List.set_cons_succ,i64_w,i32_w]
         rfl
        refine take_ (i:=3) (N:=some 20) (v := ?_) (a' := ?_) #[true,true,true,true,true,true,true,false,false,false] rfl rfl (take_ofW HT_.out HW_.out (by kernel_rfl)) (fun _ _ _ h => h) (Or.inl ⟨by rfl, ?_⟩) hHeld ?_ ?_
        rotate_left
        ·rintro w' ⟨s0,s1,s2,s3,s4,s5⟩
         go_simp
         with_reducible rfl
        rotate_left
        ·simp only [Act.put,List.setIfInBounds_toArray,List.set_cons_zero,List.set_cons_succ,i64_w,i32_w]
         rfl
        refine take_ (i:=7) (N:=some 24) (v := ?_) (a' := ?_) #[true,true,true,true,true,true,true,true,false,false] rfl rfl (take_ofW HT_.out HW_.out (by kernel_rfl)) (fun _ _ _ h => h) (Or.inl ⟨by rfl, ?_⟩) hHeld ?_ ?_
        rotate_left
        ·rintro w' ⟨s0,s1,s2,s3,s4,s5⟩
         go_simp
         with_reducible rfl
        rotate_left
        ·simp only [Act.put,List.setIfInBounds_toArray,List.set_cons_zero,List.set_cons_succ,i64_w,i32_w]
         rfl
        refine one_ (i:=8) (N:=some 25) #[true,true,true,true,true,true,true,true,true,false] rfl rfl (one_of HT_.out (by kernel_rfl)) (by decide) (fun K hK => ?_)
        refine goes_ Try.func135 (by kernel_rfl) rfl #[.agg #[.int .i64 ((rd_T165 l0 x5_1).f0), .int .i64 ((rd_T165 l0 x5_1).f1), .int .i64 ((rd_T165 l0 x5_1).f2)], .agg #[.int .i64 ((rd_T165 l1 x5_1).f0), .int .i64 ((rd_T165 l1 x5_1).f1), .int .i64 ((rd_T165 l1 x5_1).f2)]] (by rfl) rfl rfl (by (try simp only [List.map_toArray,List.map_cons,List.map_nil]);first | done | rfl | (simp only [List.length_drop,List.length_take];rfl)) ?_
        with_reducible refine (laws_eqSpan.calls ((rd_T165 l0 x5_1).f0) ((rd_T165 l0 x5_1).f1) ((rd_T165 l0 x5_1).f2) ((rd_T165 l1 x5_1).f0) ((rd_T165 l1 x5_1).f1) ((rd_T165 l1 x5_1).f2) false _ A7.out).mono ?_
        rintro e w12 ⟨rfl,hb⟩
        refine ⟨_,rfl, ?_⟩
        have n0_:=Aside0.mk (below_step (by repeat (first | (with_reducible first | exact HB.out | apply below_alloc | apply pw_below_drewN | apply below_drew1) | exact HB.out)) hb)
        clear HB
        have HB:=n0_
        clear n0_
        (try clear hb)
        (try clear hb2)
        (try clear hk)
        (try clear hi)
        refine hK.out _ _ ⟨((HB.out.cell (World.block_lt_of_cell? w _ hw219_0)).trans hw219_0),((HB.out.cell (World.block_lt_of_cell? w _ hw219_1)).trans hw219_1),((HB.out.cell (World.block_lt_of_cell? w _ hw219_2)).trans hw219_2),((HB.out.cell (World.block_lt_of_cell? w _ hw220_0)).trans hw220_0),((HB.out.cell (World.block_lt_of_cell? w _ hw220_1)).trans hw220_1),((HB.out.cell (World.block_lt_of_cell? w _ hw220_2)).trans hw220_2)⟩ (fun hHeld => ?_)
        clear hK K
        refine norm_ (a' := ?_) ?_ ?_
        rotate_left
        ·show Act.put _ (some 25) _ = _
         simp only [Act.put,List.setIfInBounds_toArray,List.set_cons_zero,List.set_cons_succ,i64_w,i32_w]
         rfl
        refine pure_ (i:=9) (N:=some 26) (v := ?_) (a' := ?_) #[true,true,true,true,true,true,true,true,true,true] rfl rfl (any_of HT_.out (by kernel_rfl)) (fun _ _ _ h => h) (Or.inl ⟨by rfl, ?_⟩) ?_ ?_
        rotate_left
        ·intro w'
         go_simp
         with_reducible rfl
        rotate_left
        ·simp only [Act.put,List.setIfInBounds_toArray,List.set_cons_zero,List.set_cons_succ,i64_w,i32_w]
         rfl
        refine done_ (done_of HT_.out (by kernel_rfl)) ?_
        try go_wp2
        go_ret
        exact ⟨by first | rfl | (simp [errW_none,errW_some] <;> rfl) | (simp [*,errW_none,errW_some] <;> rfl),by repeat (first | (with_reducible first | exact HB.out | apply below_alloc | apply pw_below_drewN | apply below_drew1) | exact HB.out)⟩
      ·rw [if_neg c6] at H
       exact absurd H (by simp)
     ·rw [if_neg c5] at H
      exact absurd H (by simp)
    ·rw [if_neg c4] at H
     have c4b0 : decide (x5_1 < (l0.length : Int)) = false:=decide_eq_false c4
     clear c4
     obtain rfl:=Option.some.inj H
     go_wp2
     go_ret
     exact ⟨by first | rfl | (simp [errW_none,errW_some] <;> rfl) | (simp [*,errW_none,errW_some] <;> rfl),by repeat (first | (with_reducible first | exact HB.out | apply below_alloc | apply pw_below_drewN | apply below_drew1) | exact HB.out)⟩
 ·rw [if_neg c3] at H
  have c3b0 : ((l0.length : Int) == (l1.length : Int)) = false:=beq_eq_false_iff_ne.mpr c3
  have c3b1 : ((l0.length : Int) != (l1.length : Int)) = true:=bne_iff_ne.mpr c3
  have c3b2 : (l0.length == l1.length) = false:=by first | simpa using c3 | (simp at c3 ⊢;omega)
  obtain rfl:=Option.some.inj H
  go_enter Try.func68,Try.ntmps68
  go_wp2
  go_ret
  exact ⟨by first | rfl | (simp [errW_none,errW_some] <;> rfl) | (simp [*,errW_none,errW_some] <;> rfl),by repeat (first | (with_reducible first | exact HB.out | apply below_alloc | apply pw_below_drewN | apply below_drew1) | exact HB.out)⟩
end Go.Proofs.Ytdoclpgciadjaaa.P
