/- Texts of the proof of FnFiveFlips, joined. -/
import Derived.Test.YtdoclpgciadjaaaSFnFiveFlips23
namespace Go.Proofs.Ytdoclpgciadjaaa.P
open Go Go.RowKit Go.Proofs.YtdoclpgciadjaaaW.PrintWords Go.Proofs.YtdoclpgciadjaaaW.PrintMore
set_option linter.unusedVariables false
theorem wDec_bit (b : Nat) (hb : b ≤ 1) : Ev (fun k => laws_wDec.f k (b : Int)) (strOfNums [48 + (b : Int)]):=by
 refine Ev.step (f:=fun _ => some (strOfNums [48 + (b : Int)])) (fun k => ?_) (Ev.now _)
 simp only [laws_wDec.f]
 rw [if_pos (by omega),w64 (by omega) (by omega),Int.emod_eq_of_lt (by omega) (by omega)]
theorem wBits_ev (v n : Nat) (hv : v < 2 ^ 40) (hn : n ≤ 40) : Ev (fun k => laws_wBits.f k (v : Int) (n : Int)) (strOfNums (numL v n)):=by
 have loop : ∀ m,m ≤ n → Ev (fun k => laws_wBits.l0 k (v : Int) (strOfNums (numL (v / 2 ^ m) (n - m))) ((m : Int) - 1)) (strOfNums (numL v n)):=by
  intro m
  induction m with
  | zero =>
   intro _
   refine Ev.step (f:=fun _ => some (strOfNums (numL v n))) (fun k => ?_) (Ev.now _)
   simp only [laws_wBits.l0]
   rw [if_neg (by omega),Nat.pow_zero,Nat.div_one,Nat.sub_zero]
  | succ m ih =>
   intro hm
   have hu : IntKind.u64.wrap (((m + 1 : Nat) : Int) - 1) = (m : Int):=by rw [IntKind.wrap_u64];omega
   have hs : shr .i64 (v : Int) (m : Int) = ((v / 2 ^ m : Nat) : Int):=by
    unfold shr
    rw [Int.toNat_natCast,Nat.min_eq_left (by have : IntKind.i64.bits = 64:=rfl;omega)]
    rw [Int.natCast_ediv,Int.natCast_pow];rfl
   have ha : Go.bits .and .i64 ((v / 2 ^ m : Nat) : Int) 1 = ((v / 2 ^ m % 2 : Nat) : Int):=by
    have:=bits_and_i64 (v / 2 ^ m) 1 (Nat.lt_of_le_of_lt (Nat.div_le_self _ _) (by omega)) (by decide)
    rw [show ((1 : Nat) : Int) = 1 from rfl] at this
    rw [this,Nat.and_one_is_mod]
   have hd:=wDec_bit (v / 2 ^ m % 2) (by omega)
   have hstep : numL (v / 2 ^ m) (n - m) = numL (v / 2 ^ (m + 1)) (n - (m + 1)) ++ [48 + ((v / 2 ^ m % 2 : Nat) : Int)]:=by
    rw [show n - m = (n - (m + 1)) + 1 by omega,numL_snoc,Nat.div_div_eq_div_mul, ← Nat.pow_succ]
   refine Ev.step (fun k => by simp only [laws_wBits.l0];rw [if_pos (by omega),hu,if_pos (by omega),hs,ha]) (Ev.bind hd ?_)
   refine ev_pos (by rw [strOfNums_size,strOfNums_size,numL_length];simp;omega) ?_
   have hw : wrap64 (((m + 1 : Nat) : Int) - 1 - 1) = (m : Int) - 1:=by unfold wrap64;omega
   rw [← str_append, ← hstep,hw]
   exact ih (by omega)
 have h:=loop n (Nat.le_refl _)
 have e0 : strOfNums (numL (v / 2 ^ n) (n - n)) = (⟨#[]⟩ : ByteArray):=by rw [Nat.sub_self];rfl
 have hw : wrap64 ((n : Int) - 1) = (n : Int) - 1:=by unfold wrap64;omega
 rw [e0] at h
 refine Ev.congr (fun k => ?_) h
 unfold laws_wBits.f
 rw [hw]
end Go.Proofs.Ytdoclpgciadjaaa.P
