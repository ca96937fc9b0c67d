/- Texts of the proof of CFnExactScanBit, joined. -/
import Derived.Test.YtdoclpgciadjaaaDoorSCFnExactScanBit21
import Derived.Test.YtdoclpgciadjaaaDoorSCFnExactScanBit22
import Derived.Test.YtdoclpgciadjaaaDoorSCFnExactScanBit24
namespace Go.Proofs.YtdoclpgciadjaaaDoor.P
open Go.RowKit Go.Proofs.YtdoclpgciadjaaaDoorW.PrintWords Go.Proofs.YtdoclpgciadjaaaDoorW.PrintLast Go.Proofs.YtdoclpgciadjaaaDoorW.PrintMore
set_option linter.unusedVariables false
set_option linter.unusedSimpArgs false
theorem splain_2_0 (p : Nat) (v : Value) (s : SS) (S : Nat → Prop) (w0 w : World) (hi : SIn w0 w p S s v) (hpl : w0.heap.size ≤ p) (hS : ¬ S p) (ok : SOk s) (hfld : s.field = 2) :
  Calls Tryd.prog 31 #[.pointer (some ⟨p,0,none⟩), .int .i64 0] w (EndS w0 w p S (takeS s 0)):=by
 have HI:=Lib.hid hi
 have OK:=Lib.hid ok
 have hp:=hi.obj
 have hc0:=cS0 hp
 have hc7:=cS7 hp
 have hf7:=fS hp 7
 have HL : Hid (takeS s 0 = { s with id:=Go.bits .and .u32 (Go.bits .or .u32 (s.id * 2 % 4294967296) 0) 536870911 }):=Lib.hid (by unfold takeS;rw [if_pos (by omega),or_and_u32 s.id 0 ok.i0 ok.i1 (by omega)])
 rw [hfld] at hc0
 clear hi ok hp
 go_enter Tryd.func31,Tryd.ntmps31
 go_wp2_with (fail)
 go_end0
 rw [HL.out]
 exact ⟨rfl,⟨v,setS7 HI.out.obj _,row_setS HI.out.row hS _ _⟩,(Tch.refl _ _).setCell (.inl (.inl rfl)) _⟩
theorem splain_2_1 (p : Nat) (v : Value) (s : SS) (S : Nat → Prop) (w0 w : World) (hi : SIn w0 w p S s v) (hpl : w0.heap.size ≤ p) (hS : ¬ S p) (ok : SOk s) (hfld : s.field = 2) :
  Calls Tryd.prog 31 #[.pointer (some ⟨p,0,none⟩), .int .i64 1] w (EndS w0 w p S (takeS s 1)):=by
 have HI:=Lib.hid hi
 have OK:=Lib.hid ok
 have hp:=hi.obj
 have hc0:=cS0 hp
 have hc7:=cS7 hp
 have hf7:=fS hp 7
 have HL : Hid (takeS s 1 = { s with id:=Go.bits .and .u32 (Go.bits .or .u32 (s.id * 2 % 4294967296) 1) 536870911 }):=Lib.hid (by unfold takeS;rw [if_pos (by omega),or_and_u32 s.id 1 ok.i0 ok.i1 (by omega)])
 rw [hfld] at hc0
 clear hi ok hp
 go_enter Tryd.func31,Tryd.ntmps31
 go_wp2_with (fail)
 go_end0
 rw [HL.out]
 exact ⟨rfl,⟨v,setS7 HI.out.obj _,row_setS HI.out.row hS _ _⟩,(Tch.refl _ _).setCell (.inl (.inl rfl)) _⟩
theorem splain_5_0 (p : Nat) (v : Value) (s : SS) (S : Nat → Prop) (w0 w : World) (hi : SIn w0 w p S s v) (hpl : w0.heap.size ≤ p) (hS : ¬ S p) (ok : SOk s) (hfld : s.field = 5) :
  Calls Tryd.prog 31 #[.pointer (some ⟨p,0,none⟩), .int .i64 0] w (EndS w0 w p S (takeS s 0)):=by
 have HI:=Lib.hid hi
 have OK:=Lib.hid ok
 have hp:=hi.obj
 have hc0:=cS0 hp
 have hc7:=cS7 hp
 have hf7:=fS hp 7
 have HL : Hid (takeS s 0 = { s with id:=Go.bits .and .u32 (Go.bits .or .u32 (s.id * 2 % 4294967296) 0) 536870911 }):=Lib.hid (by unfold takeS;rw [if_pos (by omega),or_and_u32 s.id 0 ok.i0 ok.i1 (by omega)])
 rw [hfld] at hc0
 clear hi ok hp
 go_enter Tryd.func31,Tryd.ntmps31
 go_wp2_with (fail)
 go_end0
 rw [HL.out]
 exact ⟨rfl,⟨v,setS7 HI.out.obj _,row_setS HI.out.row hS _ _⟩,(Tch.refl _ _).setCell (.inl (.inl rfl)) _⟩
theorem splain_5_1 (p : Nat) (v : Value) (s : SS) (S : Nat → Prop) (w0 w : World) (hi : SIn w0 w p S s v) (hpl : w0.heap.size ≤ p) (hS : ¬ S p) (ok : SOk s) (hfld : s.field = 5) :
  Calls Tryd.prog 31 #[.pointer (some ⟨p,0,none⟩), .int .i64 1] w (EndS w0 w p S (takeS s 1)):=by
 have HI:=Lib.hid hi
 have OK:=Lib.hid ok
 have hp:=hi.obj
 have hc0:=cS0 hp
 have hc7:=cS7 hp
 have hf7:=fS hp 7
 have HL : Hid (takeS s 1 = { s with id:=Go.bits .and .u32 (Go.bits .or .u32 (s.id * 2 % 4294967296) 1) 536870911 }):=Lib.hid (by unfold takeS;rw [if_pos (by omega),or_and_u32 s.id 1 ok.i0 ok.i1 (by omega)])
 rw [hfld] at hc0
 clear hi ok hp
 go_enter Tryd.func31,Tryd.ntmps31
 go_wp2_with (fail)
 go_end0
 rw [HL.out]
 exact ⟨rfl,⟨v,setS7 HI.out.obj _,row_setS HI.out.row hS _ _⟩,(Tch.refl _ _).setCell (.inl (.inl rfl)) _⟩
theorem splain_3_0 (p : Nat) (v : Value) (s : SS) (S : Nat → Prop) (w0 w : World) (hi : SIn w0 w p S s v) (hpl : w0.heap.size ≤ p) (hS : ¬ S p) (ok : SOk s) (hfld : s.field = 3) :
  Calls Tryd.prog 31 #[.pointer (some ⟨p,0,none⟩), .int .i64 0] w (EndS w0 w p S (takeS s 0)):=by
 have HI:=Lib.hid hi
 have OK:=Lib.hid ok
 have hp:=hi.obj
 have hc0:=cS0 hp
 have hc8:=cS8 hp
 have hf8:=fS hp 8
 have HL : Hid (takeS s 0 = { s with rtr:=false }):=Lib.hid (by unfold takeS;rw [if_neg (by omega),if_pos (by omega)];rfl)
 rw [hfld] at hc0
 clear hi ok hp
 go_enter Tryd.func31,Tryd.ntmps31
 go_wp2_with (fail)
 go_end0
 rw [HL.out]
 exact ⟨rfl,⟨v,setS8 HI.out.obj _,row_setS HI.out.row hS _ _⟩,(Tch.refl _ _).setCell (.inl (.inl rfl)) _⟩
theorem splain_3_1 (p : Nat) (v : Value) (s : SS) (S : Nat → Prop) (w0 w : World) (hi : SIn w0 w p S s v) (hpl : w0.heap.size ≤ p) (hS : ¬ S p) (ok : SOk s) (hfld : s.field = 3) :
  Calls Tryd.prog 31 #[.pointer (some ⟨p,0,none⟩), .int .i64 1] w (EndS w0 w p S (takeS s 1)):=by
 have HI:=Lib.hid hi
 have OK:=Lib.hid ok
 have hp:=hi.obj
 have hc0:=cS0 hp
 have hc8:=cS8 hp
 have hf8:=fS hp 8
 have HL : Hid (takeS s 1 = { s with rtr:=true }):=Lib.hid (by unfold takeS;rw [if_neg (by omega),if_pos (by omega)];rfl)
 rw [hfld] at hc0
 clear hi ok hp
 go_enter Tryd.func31,Tryd.ntmps31
 go_wp2_with (fail)
 go_end0
 rw [HL.out]
 exact ⟨rfl,⟨v,setS8 HI.out.obj _,row_setS HI.out.row hS _ _⟩,(Tch.refl _ _).setCell (.inl (.inl rfl)) _⟩
theorem splain_6_0 (p : Nat) (v : Value) (s : SS) (S : Nat → Prop) (w0 w : World) (hi : SIn w0 w p S s v) (hpl : w0.heap.size ≤ p) (hS : ¬ S p) (ok : SOk s) (hfld : s.field = 6) :
  Calls Tryd.prog 31 #[.pointer (some ⟨p,0,none⟩), .int .i64 0] w (EndS w0 w p S (takeS s 0)):=by
 have HI:=Lib.hid hi
 have OK:=Lib.hid ok
 have hp:=hi.obj
 have hc0:=cS0 hp
 have hc8:=cS8 hp
 have hf8:=fS hp 8
 have HL : Hid (takeS s 0 = { s with rtr:=false }):=Lib.hid (by unfold takeS;rw [if_neg (by omega),if_pos (by omega)];rfl)
 rw [hfld] at hc0
 clear hi ok hp
 go_enter Tryd.func31,Tryd.ntmps31
 go_wp2_with (fail)
 go_end0
 rw [HL.out]
 exact ⟨rfl,⟨v,setS8 HI.out.obj _,row_setS HI.out.row hS _ _⟩,(Tch.refl _ _).setCell (.inl (.inl rfl)) _⟩
theorem splain_6_1 (p : Nat) (v : Value) (s : SS) (S : Nat → Prop) (w0 w : World) (hi : SIn w0 w p S s v) (hpl : w0.heap.size ≤ p) (hS : ¬ S p) (ok : SOk s) (hfld : s.field = 6) :
  Calls Tryd.prog 31 #[.pointer (some ⟨p,0,none⟩), .int .i64 1] w (EndS w0 w p S (takeS s 1)):=by
 have HI:=Lib.hid hi
 have OK:=Lib.hid ok
 have hp:=hi.obj
 have hc0:=cS0 hp
 have hc8:=cS8 hp
 have hf8:=fS hp 8
 have HL : Hid (takeS s 1 = { s with rtr:=true }):=Lib.hid (by unfold takeS;rw [if_neg (by omega),if_pos (by omega)];rfl)
 rw [hfld] at hc0
 clear hi ok hp
 go_enter Tryd.func31,Tryd.ntmps31
 go_wp2_with (fail)
 go_end0
 rw [HL.out]
 exact ⟨rfl,⟨v,setS8 HI.out.obj _,row_setS HI.out.row hS _ _⟩,(Tch.refl _ _).setCell (.inl (.inl rfl)) _⟩
theorem splain_4_0 (p : Nat) (v : Value) (s : SS) (S : Nat → Prop) (w0 w : World) (hi : SIn w0 w p S s v) (hpl : w0.heap.size ≤ p) (hS : ¬ S p) (ok : SOk s) (hfld : s.field = 4) :
  Calls Tryd.prog 31 #[.pointer (some ⟨p,0,none⟩), .int .i64 0] w (EndS w0 w p S (takeS s 0)):=by
 have HI:=Lib.hid hi
 have OK:=Lib.hid ok
 have hp:=hi.obj
 have hc0:=cS0 hp
 have hc6:=cS6 hp
 have hf6:=fS hp 6
 have hc8:=cS8 hp
 have hf8:=fS hp 8
 have HL : Hid (takeS s 0 = { s with ext:=false }):=Lib.hid (by unfold takeS;rw [if_neg (by omega),if_neg (by omega),if_pos hfld];rfl)
 rw [hfld] at hc0
 clear hi ok hp
 go_enter Tryd.func31,Tryd.ntmps31
 go_wp2_with (fail)
 go_end0
 rw [HL.out]
 exact ⟨rfl,⟨v,setS6 HI.out.obj _,row_setS HI.out.row hS _ _⟩,(Tch.refl _ _).setCell (.inl (.inl rfl)) _⟩
theorem splain_4_1 (p : Nat) (v : Value) (s : SS) (S : Nat → Prop) (w0 w : World) (hi : SIn w0 w p S s v) (hpl : w0.heap.size ≤ p) (hS : ¬ S p) (ok : SOk s) (hfld : s.field = 4) :
  Calls Tryd.prog 31 #[.pointer (some ⟨p,0,none⟩), .int .i64 1] w (EndS w0 w p S (takeS s 1)):=by
 have HI:=Lib.hid hi
 have OK:=Lib.hid ok
 have hp:=hi.obj
 have hc0:=cS0 hp
 have hc6:=cS6 hp
 have hf6:=fS hp 6
 have hc8:=cS8 hp
 have hf8:=fS hp 8
 have HL : Hid (takeS s 1 = { s with ext:=true,rtr:=false }):=Lib.hid (by unfold takeS;rw [if_neg (by omega),if_neg (by omega),if_pos hfld];rfl)
 rw [hfld] at hc0
 clear hi ok hp
 go_enter Tryd.func31,Tryd.ntmps31
 go_wp2_with (fail)
 go_end0
 rw [HL.out]
 exact ⟨rfl,⟨v,setS8 (setS6 HI.out.obj _) _,row_setS (row_setS HI.out.row hS _ _) hS _ _⟩,((Tch.refl _ _).setCell (.inl (.inl rfl)) _).setCell (.inl (.inl rfl)) _⟩
theorem splain_8_0 (p : Nat) (v : Value) (s : SS) (S : Nat → Prop) (w0 w : World) (hi : SIn w0 w p S s v) (hpl : w0.heap.size ≤ p) (hS : ¬ S p) (ok : SOk s) (hfld : s.field = 8) :
  Calls Tryd.prog 31 #[.pointer (some ⟨p,0,none⟩), .int .i64 0] w (EndS w0 w p S (takeS s 0)):=by
 have HI:=Lib.hid hi
 have OK:=Lib.hid ok
 have hp:=hi.obj
 have hc0:=cS0 hp
 have hc9:=cS9 hp
 have hf9:=fS hp 9
 have HL : Hid (takeS s 0 = { s with dlc:=Go.bits .and .i64 (Go.bits .or .i64 (wrap64 (s.dlc * 2)) 0) 15 }):=Lib.hid (by unfold takeS;rw [if_neg (by omega),if_neg (by omega),if_neg (by omega),if_pos hfld];have:=or_and_i64 s.dlc 0 4 (by decide) ok.d0 (by have:=ok.d1;omega) (by omega);rw [show ((2 ^ 4 - 1 : Nat) : Int) = 15 from rfl,show ((2 ^ 4 : Nat) : Int) = 16 from rfl] at this;rw [this])
 rw [hfld] at hc0
 clear hi ok hp
 go_enter Tryd.func31,Tryd.ntmps31
 go_wp2_with (fail)
 go_end0
 rw [HL.out]
 exact ⟨rfl,⟨v,setS9 HI.out.obj _,row_setS HI.out.row hS _ _⟩,(Tch.refl _ _).setCell (.inl (.inl rfl)) _⟩
theorem splain_10_0 (p : Nat) (v : Value) (s : SS) (S : Nat → Prop) (w0 w : World) (hi : SIn w0 w p S s v) (hpl : w0.heap.size ≤ p) (hS : ¬ S p) (ok : SOk s) (hfld : s.field = 10) :
  Calls Tryd.prog 31 #[.pointer (some ⟨p,0,none⟩), .int .i64 0] w (EndS w0 w p S (takeS s 0)):=by
 have HI:=Lib.hid hi
 have OK:=Lib.hid ok
 have hp:=hi.obj
 have hc0:=cS0 hp
 have hc5:=cS5 hp
 have hf5:=fS hp 5
 have HL : Hid (takeS s 0 = { s with acc:=Go.bits .and .i64 (Go.bits .or .i64 (wrap64 (s.acc * 2)) 0) 32767 }):=Lib.hid (by unfold takeS;rw [if_neg (by omega),if_neg (by omega),if_neg (by omega),if_neg (by omega),if_neg (by omega),if_pos hfld];have:=or_and_i64 s.acc 0 15 (by decide) ok.a0 (by have:=ok.a1;omega) (by omega);rw [show ((2 ^ 15 - 1 : Nat) : Int) = 32767 from rfl,show ((2 ^ 15 : Nat) : Int) = 32768 from rfl] at this;rw [this])
 rw [hfld] at hc0
 clear hi ok hp
 go_enter Tryd.func31,Tryd.ntmps31
 go_wp2_with (fail)
 go_end0
 rw [HL.out]
 exact ⟨rfl,⟨v,setS5 HI.out.obj _,row_setS HI.out.row hS _ _⟩,(Tch.refl _ _).setCell (.inl (.inl rfl)) _⟩
theorem splain_8_1 (p : Nat) (v : Value) (s : SS) (S : Nat → Prop) (w0 w : World) (hi : SIn w0 w p S s v) (hpl : w0.heap.size ≤ p) (hS : ¬ S p) (ok : SOk s) (hfld : s.field = 8) :
  Calls Tryd.prog 31 #[.pointer (some ⟨p,0,none⟩), .int .i64 1] w (EndS w0 w p S (takeS s 1)):=by
 have HI:=Lib.hid hi
 have OK:=Lib.hid ok
 have hp:=hi.obj
 have hc0:=cS0 hp
 have hc9:=cS9 hp
 have hf9:=fS hp 9
 have HL : Hid (takeS s 1 = { s with dlc:=Go.bits .and .i64 (Go.bits .or .i64 (wrap64 (s.dlc * 2)) 1) 15 }):=Lib.hid (by unfold takeS;rw [if_neg (by omega),if_neg (by omega),if_neg (by omega),if_pos hfld];have:=or_and_i64 s.dlc 1 4 (by decide) ok.d0 (by have:=ok.d1;omega) (by omega);rw [show ((2 ^ 4 - 1 : Nat) : Int) = 15 from rfl,show ((2 ^ 4 : Nat) : Int) = 16 from rfl] at this;rw [this])
 rw [hfld] at hc0
 clear hi ok hp
 go_enter Tryd.func31,Tryd.ntmps31
 go_wp2_with (fail)
 go_end0
 rw [HL.out]
 exact ⟨rfl,⟨v,setS9 HI.out.obj _,row_setS HI.out.row hS _ _⟩,(Tch.refl _ _).setCell (.inl (.inl rfl)) _⟩
theorem splain_10_1 (p : Nat) (v : Value) (s : SS) (S : Nat → Prop) (w0 w : World) (hi : SIn w0 w p S s v) (hpl : w0.heap.size ≤ p) (hS : ¬ S p) (ok : SOk s) (hfld : s.field = 10) :
  Calls Tryd.prog 31 #[.pointer (some ⟨p,0,none⟩), .int .i64 1] w (EndS w0 w p S (takeS s 1)):=by
 have HI:=Lib.hid hi
 have OK:=Lib.hid ok
 have hp:=hi.obj
 have hc0:=cS0 hp
 have hc5:=cS5 hp
 have hf5:=fS hp 5
 have HL : Hid (takeS s 1 = { s with acc:=Go.bits .and .i64 (Go.bits .or .i64 (wrap64 (s.acc * 2)) 1) 32767 }):=Lib.hid (by unfold takeS;rw [if_neg (by omega),if_neg (by omega),if_neg (by omega),if_neg (by omega),if_neg (by omega),if_pos hfld];have:=or_and_i64 s.acc 1 15 (by decide) ok.a0 (by have:=ok.a1;omega) (by omega);rw [show ((2 ^ 15 - 1 : Nat) : Int) = 32767 from rfl,show ((2 ^ 15 : Nat) : Int) = 32768 from rfl] at this;rw [this])
 rw [hfld] at hc0
 clear hi ok hp
 go_enter Tryd.func31,Tryd.ntmps31
 go_wp2_with (fail)
 go_end0
 rw [HL.out]
 exact ⟨rfl,⟨v,setS5 HI.out.obj _,row_setS HI.out.row hS _ _⟩,(Tch.refl _ _).setCell (.inl (.inl rfl)) _⟩
theorem splain_other (p : Nat) (v : Value) (s : SS) (b : Int) (S : Nat → Prop) (w0 w : World) (hi : SIn w0 w p S s v) (hS : ¬ S p) (hfld : s.field ≠ 2 ∧ s.field ≠ 5 ∧ s.field ≠ 3 ∧ s.field ≠ 6 ∧ s.field ≠ 4 ∧ s.field ≠ 8 ∧ s.field ≠ 9 ∧ s.field ≠ 10) :
  Calls Tryd.prog 31 #[.pointer (some ⟨p,0,none⟩), .int .i64 b] w (EndS w0 w p S (takeS s b)):=by
 obtain ⟨h2,h5,h3,h6,h4,h8,h9,h10⟩:=hfld
 have HL : Hid (takeS s b = s):=Lib.hid (by unfold takeS;rw [if_neg (by omega),if_neg (by omega),if_neg h4,if_neg h8,if_neg h9,if_neg h10])
 have HI:=Lib.hid hi
 have hc0:=cS0 hi.obj
 have b2 : (s.field == 2) = false:=beq_eq_false_iff_ne.mpr h2
 have b5 : (s.field == 5) = false:=beq_eq_false_iff_ne.mpr h5
 have b3 : (s.field == 3) = false:=beq_eq_false_iff_ne.mpr h3
 have b6 : (s.field == 6) = false:=beq_eq_false_iff_ne.mpr h6
 have b4 : (s.field == 4) = false:=beq_eq_false_iff_ne.mpr h4
 have b8 : (s.field == 8) = false:=beq_eq_false_iff_ne.mpr h8
 have b9 : (s.field == 9) = false:=beq_eq_false_iff_ne.mpr h9
 have b10 : (s.field == 10) = false:=beq_eq_false_iff_ne.mpr h10
 clear hi h2 h5 h3 h6 h4 h8 h9 h10
 go_enter Tryd.func31,Tryd.ntmps31
 go_wp2_with (fail)
 go_end0
 rw [HL.out]
 exact ⟨rfl,⟨v,HI.out.obj,HI.out.row⟩,Tch.refl _ _⟩
set_option maxHeartbeats 1000000 in
set_option maxRecDepth 100000 in
theorem splain_9_0_app (p : Nat) (v : Value) (s : SS) (S : Nat → Prop) (w0 w : World) (hi : SIn w0 w p S s v) (hpl : w0.heap.size ≤ p) (hS : ¬ S p) (ok : SOk s) (hfld : s.field = 9) (hm8 : s.left % 8 = 0) :
  Calls Tryd.prog 31 #[.pointer (some ⟨p,0,none⟩), .int .i64 0] w (EndS w0 w p S (takeS s 0)):=by
 have HI:=Lib.hid hi
 have OK:=Lib.hid ok
 have HF:=Lib.hid hfld
 have hp:=hi.obj
 have hc0:=cS0 hp
 have hc1:=cS1 hp
 have hc10:=cS10 hp
 have hf10:=fS hp 10
 have l0:=ok.l0
 have l1:=ok.l1
 have hdl:=ok.dl
 have hm : (Int.tmod s.left 8 == 0) = true:=by rw [Int.tmod_eq_emod_of_nonneg (by omega)];simp;omega
 have hm2 : (s.left % 8 == 0) = true:=by simp;omega
 have HL : Hid (takeS s 0 = { s with data:=dataS s 0 }):=Lib.hid (by unfold takeS;rw [if_neg (by omega),if_neg (by omega),if_neg (by omega),if_neg (by omega),if_pos hfld])
 have HHM:=Lib.hid hm8
 rw [hfld] at hc0
 clear hi ok hp hfld hm8
 go_enter Tryd.func31,Tryd.ntmps31
 go_wp2_with (at_builtin;go_loud (refine Kd.R_append (Kd.int .u8) (w0:=w0) w0.heap.size rfl (.tmp 80) (.tmp 81) 23 5 (.int .u8 0) 1 rfl Tryd.underlying23 infoU8s rfl (by decide) (by omega) v s.data 0 [.int .u8 0] S (fun _ => False) rfl rfl ?aP (fun _ hk => hk.elim) HI.out.fresh ?aO ?aB ?aS ?aL ?_;(case aP => exact rfl);(case aO => exact HI.out.row);(case aB => exact HI.out.below);(case aS => exact HI.out.below.size);(case aL => omega);intro v1 w1 ho hb hg hat;obtain ⟨g,c1,e1,hpk⟩:=s9_append HI.out.obj HI.out.row hS ho hg;subst e1;have HPK:=Lib.hid hpk;clear ho hb hg hat hc0 hc1 hc10 hf10 hpk;obtain ⟨hgp,hpg,p5,q5,hx0,hfx0,hc10,hf10⟩:=S9At.facts HPK.out hS (by omega)))
 go_quiet (fail)
 have HPK4:=Lib.hid (s9_draw (s9_mid (V := .slice (some ⟨g,0,none⟩) (s.data.length + 1) c1) HPK.out hS) nq)
 clear hgp hpg p5 q5 hx0 hfx0 hc10 hf10
 generalize World.drewN _ nq = W4 at HPK4 ⊢
 obtain ⟨-, -, -, -,hx4,hfx4, -, -⟩:=S9At.facts HPK4.out hS (by omega)
 have HPUT:=Lib.hid (s9_put HPK4.out hS (Go.bits .or .u8 (rd (s.data ++ [0]) (s.data.length : Int) * 2 % 256) 0))
 go_wp2_with (fail)
 go_end0
 rw [HL.out,data9_eq s 0 (by omega) (s.data ++ [0]) s.data.length (by rw [if_pos HHM.out]) (by simp) (rd_rangeS (fun x hx => by rcases List.mem_append.1 hx with h | h;exact OK.out.by_ x h;rw [List.mem_singleton] at h;omega) _)]
 exact ⟨rfl,⟨_,HPUT.out.obj,HPUT.out.row⟩,HPUT.out.tch⟩
set_option maxHeartbeats 1000000 in
set_option maxRecDepth 100000 in
theorem splain_9_0_in (p : Nat) (v : Value) (s : SS) (S : Nat → Prop) (w0 w : World) (hi : SIn w0 w p S s v) (hpl : w0.heap.size ≤ p) (hS : ¬ S p) (ok : SOk s) (hfld : s.field = 9) (hm8 : ¬ s.left % 8 = 0) :
  Calls Tryd.prog 31 #[.pointer (some ⟨p,0,none⟩), .int .i64 0] w (EndS w0 w p S (takeS s 0)):=by
 have HI:=Lib.hid hi
 have OK:=Lib.hid ok
 have HF:=Lib.hid hfld
 have hp:=hi.obj
 have hc0:=cS0 hp
 have hc1:=cS1 hp
 have l0:=ok.l0
 have l1:=ok.l1
 have hdl:=ok.dl
 have hm : (Int.tmod s.left 8 == 0) = false:=by rw [Int.tmod_eq_emod_of_nonneg (by omega)];simp;omega
 have hm2 : (s.left % 8 == 0) = false:=by simp;omega
 have HL : Hid (takeS s 0 = { s with data:=dataS s 0 }):=Lib.hid (by unfold takeS;rw [if_neg (by omega),if_neg (by omega),if_neg (by omega),if_neg (by omega),if_pos hfld])
 have HHM:=Lib.hid hm8
 obtain ⟨m,hm0⟩ : ∃ m,s.data.length = m + 1:=⟨s.data.length - 1,by have h1:=ok.ne hfld hm8;have:=List.length_pos_iff.2 h1;omega⟩
 obtain ⟨g,c1,e1,hpk⟩:=s9_same hp hi.row hm0
 subst e1
 have HPK:=Lib.hid hpk
 have HM0:=Lib.hid hm0
 have hmb : m < 1000:=by omega
 rw [hfld] at hc0
 clear hi ok hp hfld hm8 hpk hm0
 obtain ⟨hgp,hpg,p5,q5,hx0,hfx0,hc10b,hf10b⟩:=S9At.facts HPK.out hS hmb
 go_enter Tryd.func31,Tryd.ntmps31
 go_wp2_with (fail)
 go_quiet (fail)
 have HPK4:=Lib.hid (s9_draw HPK.out nq)
 clear hgp hpg p5 q5 hx0 hfx0 hc10b hf10b hc0 hc1
 generalize World.drewN _ nq = W4 at HPK4 ⊢
 obtain ⟨-, -, -, -,hx4,hfx4, -, -⟩:=S9At.facts HPK4.out hS hmb
 have HPUT:=Lib.hid (s9_put HPK4.out hS (Go.bits .or .u8 (rd s.data (m : Int) * 2 % 256) 0))
 go_wp2_with (fail)
 go_end0
 rw [HL.out,data9_eq s 0 (by omega) s.data m (by rw [if_neg HHM.out]) HM0.out (rd_rangeS OK.out.by_ _)]
 exact ⟨rfl,⟨_,HPUT.out.obj,HPUT.out.row⟩,HPUT.out.tch⟩
set_option maxHeartbeats 1000000 in
set_option maxRecDepth 100000 in
theorem splain_9_1_app (p : Nat) (v : Value) (s : SS) (S : Nat → Prop) (w0 w : World) (hi : SIn w0 w p S s v) (hpl : w0.heap.size ≤ p) (hS : ¬ S p) (ok : SOk s) (hfld : s.field = 9) (hm8 : s.left % 8 = 0) :
  Calls Tryd.prog 31 #[.pointer (some ⟨p,0,none⟩), .int .i64 1] w (EndS w0 w p S (takeS s 1)):=by
 have HI:=Lib.hid hi
 have OK:=Lib.hid ok
 have HF:=Lib.hid hfld
 have hp:=hi.obj
 have hc0:=cS0 hp
 have hc1:=cS1 hp
 have hc10:=cS10 hp
 have hf10:=fS hp 10
 have l0:=ok.l0
 have l1:=ok.l1
 have hdl:=ok.dl
 have hm : (Int.tmod s.left 8 == 0) = true:=by rw [Int.tmod_eq_emod_of_nonneg (by omega)];simp;omega
 have hm2 : (s.left % 8 == 0) = true:=by simp;omega
 have HL : Hid (takeS s 1 = { s with data:=dataS s 1 }):=Lib.hid (by unfold takeS;rw [if_neg (by omega),if_neg (by omega),if_neg (by omega),if_neg (by omega),if_pos hfld])
 have HHM:=Lib.hid hm8
 rw [hfld] at hc0
 clear hi ok hp hfld hm8
 go_enter Tryd.func31,Tryd.ntmps31
 go_wp2_with (at_builtin;go_loud (refine Kd.R_append (Kd.int .u8) (w0:=w0) w0.heap.size rfl (.tmp 80) (.tmp 81) 23 5 (.int .u8 0) 1 rfl Tryd.underlying23 infoU8s rfl (by decide) (by omega) v s.data 0 [.int .u8 0] S (fun _ => False) rfl rfl ?aP (fun _ hk => hk.elim) HI.out.fresh ?aO ?aB ?aS ?aL ?_;(case aP => exact rfl);(case aO => exact HI.out.row);(case aB => exact HI.out.below);(case aS => exact HI.out.below.size);(case aL => omega);intro v1 w1 ho hb hg hat;obtain ⟨g,c1,e1,hpk⟩:=s9_append HI.out.obj HI.out.row hS ho hg;subst e1;have HPK:=Lib.hid hpk;clear ho hb hg hat hc0 hc1 hc10 hf10 hpk;obtain ⟨hgp,hpg,p5,q5,hx0,hfx0,hc10,hf10⟩:=S9At.facts HPK.out hS (by omega)))
 go_quiet (fail)
 have HPK4:=Lib.hid (s9_draw (s9_mid (V := .slice (some ⟨g,0,none⟩) (s.data.length + 1) c1) HPK.out hS) nq)
 clear hgp hpg p5 q5 hx0 hfx0 hc10 hf10
 generalize World.drewN _ nq = W4 at HPK4 ⊢
 obtain ⟨-, -, -, -,hx4,hfx4, -, -⟩:=S9At.facts HPK4.out hS (by omega)
 have HPUT:=Lib.hid (s9_put HPK4.out hS (Go.bits .or .u8 (rd (s.data ++ [0]) (s.data.length : Int) * 2 % 256) 1))
 go_wp2_with (fail)
 go_end0
 rw [HL.out,data9_eq s 1 (by omega) (s.data ++ [0]) s.data.length (by rw [if_pos HHM.out]) (by simp) (rd_rangeS (fun x hx => by rcases List.mem_append.1 hx with h | h;exact OK.out.by_ x h;rw [List.mem_singleton] at h;omega) _)]
 exact ⟨rfl,⟨_,HPUT.out.obj,HPUT.out.row⟩,HPUT.out.tch⟩
set_option maxHeartbeats 1000000 in
set_option maxRecDepth 100000 in
theorem splain_9_1_in (p : Nat) (v : Value) (s : SS) (S : Nat → Prop) (w0 w : World) (hi : SIn w0 w p S s v) (hpl : w0.heap.size ≤ p) (hS : ¬ S p) (ok : SOk s) (hfld : s.field = 9) (hm8 : ¬ s.left % 8 = 0) :
  Calls Tryd.prog 31 #[.pointer (some ⟨p,0,none⟩), .int .i64 1] w (EndS w0 w p S (takeS s 1)):=by
 have HI:=Lib.hid hi
 have OK:=Lib.hid ok
 have HF:=Lib.hid hfld
 have hp:=hi.obj
 have hc0:=cS0 hp
 have hc1:=cS1 hp
 have l0:=ok.l0
 have l1:=ok.l1
 have hdl:=ok.dl
 have hm : (Int.tmod s.left 8 == 0) = false:=by rw [Int.tmod_eq_emod_of_nonneg (by omega)];simp;omega
 have hm2 : (s.left % 8 == 0) = false:=by simp;omega
 have HL : Hid (takeS s 1 = { s with data:=dataS s 1 }):=Lib.hid (by unfold takeS;rw [if_neg (by omega),if_neg (by omega),if_neg (by omega),if_neg (by omega),if_pos hfld])
 have HHM:=Lib.hid hm8
 obtain ⟨m,hm0⟩ : ∃ m,s.data.length = m + 1:=⟨s.data.length - 1,by have h1:=ok.ne hfld hm8;have:=List.length_pos_iff.2 h1;omega⟩
 obtain ⟨g,c1,e1,hpk⟩:=s9_same hp hi.row hm0
 subst e1
 have HPK:=Lib.hid hpk
 have HM0:=Lib.hid hm0
 have hmb : m < 1000:=by omega
 rw [hfld] at hc0
 clear hi ok hp hfld hm8 hpk hm0
 obtain ⟨hgp,hpg,p5,q5,hx0,hfx0,hc10b,hf10b⟩:=S9At.facts HPK.out hS hmb
 go_enter Tryd.func31,Tryd.ntmps31
 go_wp2_with (fail)
 go_quiet (fail)
 have HPK4:=Lib.hid (s9_draw HPK.out nq)
 clear hgp hpg p5 q5 hx0 hfx0 hc10b hf10b hc0 hc1
 generalize World.drewN _ nq = W4 at HPK4 ⊢
 obtain ⟨-, -, -, -,hx4,hfx4, -, -⟩:=S9At.facts HPK4.out hS hmb
 have HPUT:=Lib.hid (s9_put HPK4.out hS (Go.bits .or .u8 (rd s.data (m : Int) * 2 % 256) 1))
 go_wp2_with (fail)
 go_end0
 rw [HL.out,data9_eq s 1 (by omega) s.data m (by rw [if_neg HHM.out]) HM0.out (rd_rangeS OK.out.by_ _)]
 exact ⟨rfl,⟨_,HPUT.out.obj,HPUT.out.row⟩,HPUT.out.tch⟩
theorem impl_Scan_plain.calls (p : Nat) (v : Value) (s : SS) (b : Int) (hb : b = 0 ∨ b = 1) (S : Nat → Prop) (w0 w : World) (hi : SIn w0 w p S s v) (hpl : w0.heap.size ≤ p) (hS : ¬ S p) (ok : SOk s) :
  Calls Tryd.prog 31 #[.pointer (some ⟨p,0,none⟩), .int .i64 b] w (EndS w0 w p S (takeS s b)):=by
 by_cases h2 : s.field = 2
 ·rcases hb with rfl | rfl;exact splain_2_0 p v s S w0 w hi hpl hS ok h2;exact splain_2_1 p v s S w0 w hi hpl hS ok h2
 by_cases h5 : s.field = 5
 ·rcases hb with rfl | rfl;exact splain_5_0 p v s S w0 w hi hpl hS ok h5;exact splain_5_1 p v s S w0 w hi hpl hS ok h5
 by_cases h3 : s.field = 3
 ·rcases hb with rfl | rfl;exact splain_3_0 p v s S w0 w hi hpl hS ok h3;exact splain_3_1 p v s S w0 w hi hpl hS ok h3
 by_cases h6 : s.field = 6
 ·rcases hb with rfl | rfl;exact splain_6_0 p v s S w0 w hi hpl hS ok h6;exact splain_6_1 p v s S w0 w hi hpl hS ok h6
 by_cases h4 : s.field = 4
 ·rcases hb with rfl | rfl;exact splain_4_0 p v s S w0 w hi hpl hS ok h4;exact splain_4_1 p v s S w0 w hi hpl hS ok h4
 by_cases h8 : s.field = 8
 ·rcases hb with rfl | rfl;exact splain_8_0 p v s S w0 w hi hpl hS ok h8;exact splain_8_1 p v s S w0 w hi hpl hS ok h8
 by_cases h10 : s.field = 10
 ·rcases hb with rfl | rfl;exact splain_10_0 p v s S w0 w hi hpl hS ok h10;exact splain_10_1 p v s S w0 w hi hpl hS ok h10
 by_cases h9 : s.field = 9
 ·by_cases hm : s.left % 8 = 0
  ·rcases hb with rfl | rfl;exact splain_9_0_app p v s S w0 w hi hpl hS ok h9 hm;exact splain_9_1_app p v s S w0 w hi hpl hS ok h9 hm
  ·rcases hb with rfl | rfl;exact splain_9_0_in p v s S w0 w hi hpl hS ok h9 hm;exact splain_9_1_in p v s S w0 w hi hpl hS ok h9 hm
 exact splain_other p v s b S w0 w hi hS ⟨h2,h5,h3,h6,h4,h8,h9,h10⟩
end Go.Proofs.YtdoclpgciadjaaaDoor.P

namespace Go.Proofs.YtdoclpgciadjaaaDoor.P
open Go.RowKit Go.Proofs.YtdoclpgciadjaaaDoorW.PrintWords Go.Proofs.YtdoclpgciadjaaaDoorW.PrintLast Go.Proofs.YtdoclpgciadjaaaDoorW.PrintMore
set_option linter.unusedVariables false
set_option linter.unusedSimpArgs false
theorem cSall {w : World} {p : Nat} {s : SS} {v : Value} (h : w.heap[p]? = some (objS s v)) : w.cell? ⟨p,0,none⟩ = some (.int .i64 s.field) ∧ w.cell? ⟨p,1,none⟩ = some (.int .i64 s.left) ∧ w.cell? ⟨p,2,none⟩ = some (.int .i64 s.run) ∧ w.cell? ⟨p,3,none⟩ = some (.int .i64 s.level) ∧ w.cell? ⟨p,4,none⟩ = some (.int .i64 s.crc) ∧ w.cell? ⟨p,5,none⟩ = some (.int .i64 s.acc) ∧ w.cell? ⟨p,6,none⟩ = some (.bool s.ext) ∧ w.cell? ⟨p,7,none⟩ = some (.int .u32 s.id) ∧ w.cell? ⟨p,8,none⟩ = some (.bool s.rtr) ∧ w.cell? ⟨p,9,none⟩ = some (.int .i64 s.dlc) ∧ w.cell? ⟨p,10,none⟩ = some v :=
 ⟨cS0 h,cS1 h,cS2 h,cS3 h,cS4 h,cS5 h,cS6 h,cS7 h,cS8 h,cS9 h,cS10 h⟩
theorem fSall {w : World} {p : Nat} {s : SS} {v : Value} (h : w.heap[p]? = some (objS s v)) : w.frozen? ⟨p,0,none⟩ = false ∧ w.frozen? ⟨p,1,none⟩ = false ∧ w.frozen? ⟨p,2,none⟩ = false ∧ w.frozen? ⟨p,3,none⟩ = false ∧ w.frozen? ⟨p,4,none⟩ = false ∧ w.frozen? ⟨p,5,none⟩ = false ∧ w.frozen? ⟨p,6,none⟩ = false ∧ w.frozen? ⟨p,7,none⟩ = false ∧ w.frozen? ⟨p,8,none⟩ = false ∧ w.frozen? ⟨p,9,none⟩ = false ∧ w.frozen? ⟨p,10,none⟩ = false :=
 ⟨fS h 0,fS h 1,fS h 2,fS h 3,fS h 4,fS h 5,fS h 6,fS h 7,fS h 8,fS h 9,fS h 10⟩
structure SbIn (w w1 : World) (s : SS) (v : Value) : Prop where
 box : w1.heap[w.heap.size]? = some (objS s v)
 res : w1.heap[w.heap.size + 1]? = some (objS zeroS (.slice none 0 0))
 below : Below w.heap.size w w1
theorem SbIn.start (w : World) (s : SS) (v : Value) : SbIn w ((w.alloc (objS s v)).alloc (objS zeroS (.slice none 0 0))) s v :=
 ⟨blk_alloc (blk_new w _) _,by have h:=blk_new (w.alloc (objS s v)) (objS zeroS (.slice none 0 0));rw [World.size_alloc] at h;exact h,((Below.refl _ _).alloc (Nat.le_refl _) _).alloc (by simp) _⟩
theorem SbIn.step {w w1 w2 : World} {s : SS} {v : Value} (h : SbIn w w1 s v) (hb : Below w1.heap.size w1 w2) : SbIn w w2 s v:=by
 have h1:=(Array.getElem?_eq_some_iff.1 h.res).1
 exact ⟨blk_below h.box hb,blk_below h.res hb,h.below.trans (hb.mono (by omega))⟩
theorem SbIn.drewN {w w1 : World} {s : SS} {v : Value} (h : SbIn w w1 s v) (n : Nat) : SbIn w (w1.drewN n) s v:=⟨blk_drewN h.box n,blk_drewN h.res n,pw_below_drewN h.below n⟩
theorem SbIn.lt {w w1 : World} {s : SS} {v : Value} (h : SbIn w w1 s v) : w.heap.size + 1 < w1.heap.size:=(Array.getElem?_eq_some_iff.1 h.res).1
theorem SbIn.put {w w1 : World} {s s' : SS} {v v' : Value} (h : SbIn w w1 s v) {j : Nat} {u : Value} (ho : (w1.setCell ⟨w.heap.size,j,none⟩ u).heap[w.heap.size]? = some (objS s' v')) : SbIn w (w1.setCell ⟨w.heap.size,j,none⟩ u) s' v' :=
 ⟨ho,(Below.heap_setCell _ _ _ _ (show w.heap.size + 1 ≠ w.heap.size by omega)).trans h.res,h.below.setCell (Nat.le_refl _) _⟩
theorem scan_no (w : World) (s : SS) (A : Option Addr) (c : Nat) (b : Int) (hr : Kd.C (Kd.int .u8) w A s.data.length s.data) (hc : s.data.length ≤ c) (hG : LaidRows w) (hs : soundB s = false ∨ (b ≠ 0 ∧ b ≠ 1)) :
  Calls Tryd.prog 8 #[.agg #[.int .i64 s.field, .int .i64 s.left, .int .i64 s.run, .int .i64 s.level, .int .i64 s.crc, .int .i64 s.acc, .bool s.ext, .int .u32 s.id, .bool s.rtr, .int .i64 s.dlc,(.slice A s.data.length c)], .int .i64 b] w fun e w' => e = .returned (.tuple #[.agg #[.int .i64 0, .int .i64 0, .int .i64 0, .int .i64 0, .int .i64 0, .int .i64 0, .bool false, .int .u32 0, .bool false, .int .i64 0, .slice none 0 0], .int .i64 8]) ∧ Below w.heap.size w w':=by
 have HR:=Lib.hid hr
 have HC:=Lib.hid hc
 have HG:=Lib.hid hG
 clear hr hc hG
 cases hsb : soundB s with
 | false =>
  have HSB : Hid (impl_Scan_sound.f 10 s.field s.left s.run s.level s.crc s.acc s.ext s.id s.rtr s.dlc s.data = some false):=Lib.hid (by rw [soundI,hsb])
  clear hs hsb
  go_enter Tryd.func8,Tryd.ntmps8
  go_wp2_with (fail)
  (refine (impl_Scan_sound.calls 10 s.field s.left s.run s.level s.crc s.acc s.ext s.id s.rtr s.dlc A c s.data false _ (Kd.C_alloc (Kd.C_alloc HR.out _) _) HC.out HSB.out (HG.out.alloc _ |>.alloc _)).mono ?_;rintro e w1 ⟨rfl,hb1⟩;have HW1:=Lib.hid ((SbIn.start w s (.slice A s.data.length c)).step hb1);clear hb1)
  go_wp2_with ((with_reducible refine gate_store (t:=31) (p:=4) rfl ?_);refine store_box rfl rfl rfl (g:=w.heap.size + 1) (j:=0) (cs := #[.int .i64 0, .int .i64 0, .int .i64 0, .int .i64 0, .int .i64 0, .int .i64 0, .bool false, .int .u32 0, .bool false, .int .i64 0, .slice none 0 0]) (cs' := #[.int .i64 0, .int .i64 0, .int .i64 0, .int .i64 0, .int .i64 0, .int .i64 0, .bool false, .int .u32 0, .bool false, .int .i64 0, .slice none 0 0]) (T:=31) (u := .agg #[.int .i64 0, .int .i64 0, .int .i64 0, .int .i64 0, .int .i64 0, .int .i64 0, .bool false, .int .u32 0, .bool false, .int .i64 0, .slice none 0 0]) (seg := [.int .i64 0, .int .i64 0, .int .i64 0, .int .i64 0, .int .i64 0, .int .i64 0, .bool false, .int .u32 0, .bool false, .int .i64 0, .slice none 0 0]) rfl rfl HW1.out.res rfl (by kernel_rfl) rfl rfl rfl ?_;intro wz hx hT;have HX:=Lib.hid hx;have HTZ:=Lib.hid hT;have HBz:=Lib.hid (hT.below HW1.out.below HW1.out.below.size (fun k hk => by omega));clear hx hT)
  refine bodyPost_ret (results_ct rfl _ _ (w.heap.size + 1) 31 #[.int .i64 0, .int .i64 0, .int .i64 0, .int .i64 0, .int .i64 0, .int .i64 0, .bool false, .int .u32 0, .bool false, .int .i64 0, .slice none 0 0] (0,0) _ rfl HX.out Tryd.underlying31 rfl (by kernel_rfl)) rfl ?_
  exact ⟨rfl,HBz.out⟩
 | true =>
  have hb2 : b ≠ 0 ∧ b ≠ 1:=by rcases hs with h | h;rw [h] at hsb;cases hsb;exact h
  have b0 : (b != 0) = true:=bne_iff_ne.mpr hb2.1
  have b1 : (b != 1) = true:=bne_iff_ne.mpr hb2.2
  have HSB : Hid (impl_Scan_sound.f 10 s.field s.left s.run s.level s.crc s.acc s.ext s.id s.rtr s.dlc s.data = some true):=Lib.hid (by rw [soundI,hsb])
  clear hs hsb hb2
  go_enter Tryd.func8,Tryd.ntmps8
  go_wp2_with (fail)
  (refine (impl_Scan_sound.calls 10 s.field s.left s.run s.level s.crc s.acc s.ext s.id s.rtr s.dlc A c s.data true _ (Kd.C_alloc (Kd.C_alloc HR.out _) _) HC.out HSB.out (HG.out.alloc _ |>.alloc _)).mono ?_;rintro e w1 ⟨rfl,hb1⟩;have HW1:=Lib.hid ((SbIn.start w s (.slice A s.data.length c)).step hb1);clear hb1)
  go_wp2_with ((with_reducible refine gate_store (t:=31) (p:=4) rfl ?_);refine store_box rfl rfl rfl (g:=w.heap.size + 1) (j:=0) (cs := #[.int .i64 0, .int .i64 0, .int .i64 0, .int .i64 0, .int .i64 0, .int .i64 0, .bool false, .int .u32 0, .bool false, .int .i64 0, .slice none 0 0]) (cs' := #[.int .i64 0, .int .i64 0, .int .i64 0, .int .i64 0, .int .i64 0, .int .i64 0, .bool false, .int .u32 0, .bool false, .int .i64 0, .slice none 0 0]) (T:=31) (u := .agg #[.int .i64 0, .int .i64 0, .int .i64 0, .int .i64 0, .int .i64 0, .int .i64 0, .bool false, .int .u32 0, .bool false, .int .i64 0, .slice none 0 0]) (seg := [.int .i64 0, .int .i64 0, .int .i64 0, .int .i64 0, .int .i64 0, .int .i64 0, .bool false, .int .u32 0, .bool false, .int .i64 0, .slice none 0 0]) rfl rfl HW1.out.res rfl (by kernel_rfl) rfl rfl rfl ?_;intro wz hx hT;have HX:=Lib.hid hx;have HTZ:=Lib.hid hT;have HBz:=Lib.hid (hT.below HW1.out.below HW1.out.below.size (fun k hk => by omega));clear hx hT)
  refine bodyPost_ret (results_ct rfl _ _ (w.heap.size + 1) 31 #[.int .i64 0, .int .i64 0, .int .i64 0, .int .i64 0, .int .i64 0, .int .i64 0, .bool false, .int .u32 0, .bool false, .int .i64 0, .slice none 0 0] (0,0) _ rfl HX.out Tryd.underlying31 rfl (by kernel_rfl)) rfl ?_
  exact ⟨rfl,HBz.out⟩
structure SbO (w w1 : World) (s : SS) (v : Value) : Prop where
 box : w1.heap[w.heap.size]? = some (objS s v)
 res : w1.heap[w.heap.size + 1]? = some (objS zeroS (.slice none 0 0))
 below : Below w.heap.size w w1
 row : Kd.R (Kd.int .u8) 5 w1 w.heap.size (fun k => w.heap.size + 1 < k) v s.data
theorem SbO.lt {w w1 : World} {s : SS} {v : Value} (h : SbO w w1 s v) : w.heap.size + 1 < w1.heap.size:=(Array.getElem?_eq_some_iff.1 h.res).1
theorem SbO.step {w w1 w2 : World} {s : SS} {v : Value} (h : SbO w w1 s v) (hb : Below w1.heap.size w1 w2) : SbO w w2 s v :=
 ⟨blk_below h.box hb,blk_below h.res hb,h.below.trans (hb.mono (by have:=h.lt;omega)),Kd.R_below h.row hb⟩
theorem SbO.put {w w1 : World} {s s' : SS} {v : Value} (h : SbO w w1 s v) {j : Nat} {u : Value} (ho : (w1.setCell ⟨w.heap.size,j,none⟩ u).heap[w.heap.size]? = some (objS s' v)) (hd : s'.data = s.data) : SbO w (w1.setCell ⟨w.heap.size,j,none⟩ u) s' v :=
 ⟨ho,(Below.heap_setCell _ _ _ _ (show w.heap.size + 1 ≠ w.heap.size by omega)).trans h.res,h.below.setCell (Nat.le_refl _) _,by rw [hd];exact Kd.R_step h.row (fun k hk _ => Below.heap_setCell _ _ _ k (by simp only [];omega))⟩
theorem SbO.toIn {w w1 : World} {s : SS} {v : Value} (h : SbO w w1 s v) : SIn w w1 w.heap.size (fun k => w.heap.size + 1 < k) s v:=⟨h.box,h.row,h.below,fun k hk => by have:=h.lt;(try simp only []);omega⟩
theorem SbO.ofEnd {w w1 w2 : World} {s s' : SS} {v : Value} {e : Ending} (h : SbO w w1 s v) (he : EndS w w1 w.heap.size (fun k => w.heap.size + 1 < k) s' e w2) : ∃ v',SbO w w2 s' v':=by
 obtain ⟨v',ha⟩:=he.at_
 exact ⟨v',ha.obj,(he.tch.block h.lt (by rintro (e | e) <;> omega)).trans h.res,he.tch.below h.below h.below.size (fun k hk => by rcases hk with hk | hk <;> omega),ha.row⟩
theorem SbO.ofCopy {w w1 w2 w3 : World} {s : SS} {v0 v : Value} (h : SbIn w w1 s v0) (hb : Below w1.heap.size w1 w2) (hr : Kd.R (Kd.int .u8) 5 w2 w1.heap.size (fun _ => True) v s.data) (ho : w3.heap[w.heap.size]? = some (objS s v)) (ht : Tch w2 w3 (fun k => k = w.heap.size)) : SbO w w3 s v:=by
 have hlt:=h.lt
 have h2:=h.step hb
 refine ⟨ho,(ht.block h2.lt (by omega)).trans h2.res,ht.below h2.below h2.below.size (fun k hk => by omega), ?_⟩
 refine ht.R (Kd.R_mono (Kd.R_lower (Kd.R_bound hr) (by omega)) (fun k hk => ?_)) (fun k hk e => by omega)
 have:=hk.2.1
 (try simp only []);omega
theorem SbO.open_ {w w1 : World} {s : SS} {v : Value} (h : SbO w w1 s v) : ∃ A c,v = .slice A s.data.length c ∧ Kd.C (Kd.int .u8) w1 A s.data.length s.data ∧ s.data.length ≤ c:=by
 obtain ⟨A,c,rfl⟩:=Kd.R_slice h.row
 obtain ⟨h1,h2,h3⟩:=Kd.R_reads' h.row
 exact ⟨A,c,rfl,h3,h2⟩
theorem copy_eq {s : SS} (h : s.data.length ≤ 8) : impl_copyFrame.f s.ext s.id s.rtr s.dlc s.data = some (s.ext,s.id,s.rtr,s.dlc,s.data):=by
 unfold impl_copyFrame.f
 rw [Option.bind_some,if_pos (by simp;omega)]
 rfl
theorem scan_stuff (w : World) (s : SS) (A : Option Addr) (c : Nat) (b : Int) (hr : Kd.C (Kd.int .u8) w A s.data.length s.data) (hc : s.data.length ≤ c) (hG : LaidRows w) (hs : Sound s) (hb : b = 0 ∨ b = 1) (h5 : s.run = 5) (hl : b = s.level) :
  Calls Tryd.prog 8 #[.agg #[.int .i64 s.field, .int .i64 s.left, .int .i64 s.run, .int .i64 s.level, .int .i64 s.crc, .int .i64 s.acc, .bool s.ext, .int .u32 s.id, .bool s.rtr, .int .i64 s.dlc,(.slice A s.data.length c)], .int .i64 b] w fun e w' => e = .returned (.tuple #[.agg #[.int .i64 0, .int .i64 0, .int .i64 0, .int .i64 0, .int .i64 0, .int .i64 0, .bool false, .int .u32 0, .bool false, .int .i64 0, .slice none 0 0], .int .i64 3]) ∧ Below w.heap.size w w':=by
 have HR:=Lib.hid hr
 have HC:=Lib.hid hc
 have HG:=Lib.hid hG
 clear hr hc hG
 have HS:=Lib.hid hs
 have HB01:=Lib.hid hb
 have HCP : Hid (impl_copyFrame.f s.ext s.id s.rtr s.dlc s.data = some (s.ext,s.id,s.rtr,s.dlc,s.data)):=Lib.hid (copy_eq (by have:=hs.dl;omega))
 have HSB : Hid (impl_Scan_sound.f 10 s.field s.left s.run s.level s.crc s.acc s.ext s.id s.rtr s.dlc s.data = some true):=Lib.hid (by rw [soundI,soundB_true hs])
 have b5 : (s.run == 5) = true:=beq_iff_eq.mpr h5
 have bl : (b == s.level) = true:=beq_iff_eq.mpr hl
 clear hs h5 hl
 rcases hb with rfl | rfl
 all_goals
  go_enter Tryd.func8,Tryd.ntmps8
  go_wp2_with (fail)
  (refine (impl_Scan_sound.calls 10 s.field s.left s.run s.level s.crc s.acc s.ext s.id s.rtr s.dlc A c s.data true _ (Kd.C_alloc (Kd.C_alloc HR.out _) _) HC.out HSB.out (HG.out.alloc _ |>.alloc _)).mono ?_;rintro e w1 ⟨rfl,hb1⟩;have HW1:=Lib.hid ((SbIn.start w s (.slice A s.data.length c)).step hb1);clear hb1)
  have hx6:=cS6 HW1.out.box
  have hx7:=cS7 HW1.out.box
  have hx8:=cS8 HW1.out.box
  have hx9:=cS9 HW1.out.box
  have hx10:=cS10 HW1.out.box
  go_wp2_with (fail)
  clear hx6 hx7 hx8 hx9 hx10
  (refine (impl_copyFrame.calls s.ext s.id s.rtr s.dlc A c s.data s.ext s.id s.rtr s.dlc s.data _ (Kd.C_below HR.out HW1.out.below) HC.out HCP.out).mono ?_;rintro e w2 ⟨v2,rfl,hr2,hb2⟩;obtain ⟨A2,c2,rfl⟩:=Kd.R_slice hr2;have HR2:=Lib.hid hr2;have HB2:=Lib.hid hb2;have HW2:=Lib.hid (HW1.out.step hb2);clear hr2 hb2)
  go_wp2_with (first | ((with_reducible refine gate_store (t:=29) (p:=22) rfl ?_);refine store_box rfl rfl rfl (g:=w.heap.size) (j:=6) (cs := #[.int .i64 s.field, .int .i64 s.left, .int .i64 s.run, .int .i64 s.level, .int .i64 s.crc, .int .i64 s.acc, .bool s.ext, .int .u32 s.id, .bool s.rtr, .int .i64 s.dlc,(.slice A s.data.length c)]) (cs' := #[.int .i64 s.field, .int .i64 s.left, .int .i64 s.run, .int .i64 s.level, .int .i64 s.crc, .int .i64 s.acc, .bool s.ext, .int .u32 s.id, .bool s.rtr, .int .i64 s.dlc,(.slice A2 s.data.length c2)]) (T:=31) (u := .agg #[.bool s.ext, .int .u32 s.id, .bool s.rtr, .int .i64 s.dlc,(.slice A2 s.data.length c2)]) (seg := [.bool s.ext, .int .u32 s.id, .bool s.rtr, .int .i64 s.dlc,(.slice A2 s.data.length c2)]) rfl rfl HW2.out.box rfl (by kernel_rfl) rfl rfl rfl ?_;intro w3 hx hT;have HW3:=Lib.hid (SbO.ofCopy HW1.out HB2.out HR2.out hx hT);clear hx hT;obtain ⟨hc0,hc1,hc2,hc3,hc4,hc5,hc6,hc7,hc8,hc9,hc10⟩:=cSall HW3.out.box;obtain ⟨hf0,hf1,hf2,hf3,hf4,hf5,hf6,hf7,hf8,hf9,hf10⟩:=fSall HW3.out.box) | ((with_reducible refine gate_store (t:=31) (p:=4) rfl ?_);refine store_box rfl rfl rfl (g:=w.heap.size + 1) (j:=0) (cs := #[.int .i64 0, .int .i64 0, .int .i64 0, .int .i64 0, .int .i64 0, .int .i64 0, .bool false, .int .u32 0, .bool false, .int .i64 0, .slice none 0 0]) (cs' := #[.int .i64 0, .int .i64 0, .int .i64 0, .int .i64 0, .int .i64 0, .int .i64 0, .bool false, .int .u32 0, .bool false, .int .i64 0, .slice none 0 0]) (T:=31) (u := .agg #[.int .i64 0, .int .i64 0, .int .i64 0, .int .i64 0, .int .i64 0, .int .i64 0, .bool false, .int .u32 0, .bool false, .int .i64 0, .slice none 0 0]) (seg := [.int .i64 0, .int .i64 0, .int .i64 0, .int .i64 0, .int .i64 0, .int .i64 0, .bool false, .int .u32 0, .bool false, .int .i64 0, .slice none 0 0]) rfl rfl HW3.out.res rfl (by kernel_rfl) rfl rfl rfl ?_;intro wz hx hT;have HX:=Lib.hid hx;have HTZ:=Lib.hid hT;have HBz:=Lib.hid (hT.below HW3.out.below HW3.out.below.size (fun k hk => by omega));clear hx hT))
  refine bodyPost_ret (results_ct rfl _ _ (w.heap.size + 1) 31 #[.int .i64 0, .int .i64 0, .int .i64 0, .int .i64 0, .int .i64 0, .int .i64 0, .bool false, .int .u32 0, .bool false, .int .i64 0, .slice none 0 0] (0,0) _ rfl HX.out Tryd.underlying31 rfl (by kernel_rfl)) rfl ?_
  exact ⟨rfl,HBz.out⟩
theorem SbO.nil {w w1 : World} {s : SS} {v : Value} (h : SbO w w1 s v) : SbO w ((w1.alloc (.cells #[] 5)).setCell ⟨w.heap.size,10,none⟩ (.slice (some ⟨w1.heap.size,0,none⟩) 0 0)) { s with data := [] } (.slice (some ⟨w1.heap.size,0,none⟩) 0 0):=by
 have hlt:=h.lt
 have hb:=setS10 (blk_alloc h.box (.cells #[] 5)) (.slice (some ⟨w1.heap.size,0,none⟩) 0 0)
 refine ⟨hb,(Below.heap_setCell _ _ _ _ (show w.heap.size + 1 ≠ w.heap.size by omega)).trans (blk_alloc h.res _),(h.below.alloc (by omega) _).setCell (Nat.le_refl _) _, ?_⟩
 exact Kd.R_step (R_empty (Kd.int .u8) w1 5 w.heap.size (by omega) _ (by (try simp only []);omega)) (fun k hk _ => Below.heap_setCell _ _ _ k (by simp only [];omega))
theorem takeS_keep (s : SS) (b : Int) : (takeS s b).field = s.field ∧ (takeS s b).left = s.left:=by
 unfold takeS
 constructor <;> (repeat' split) <;> rfl
theorem afterF_range {s : SS} (f0 : 1 ≤ s.field) (f1 : s.field ≤ 13) : 1 ≤ afterF s ∧ afterF s ≤ 14:=by
 unfold afterF
 by_cases c4 : s.field = 4 ∧ s.ext = false
 ·rw [if_pos c4];omega
 rw [if_neg c4]
 by_cases c8 : s.field = 8 ∧ (s.rtr = true ∨ s.dlc = 0)
 ·rw [if_pos c8];omega
 rw [if_neg c8]
 obtain ⟨n,hn⟩ : ∃ n : Nat,s.field = (n : Int):=⟨s.field.toNat,by omega⟩
 rw [hn,Int.toNat_natCast]
 have : ∀ m : Fin 14,1 ≤ m.val → 1 ≤ rowsL.getD (m.val * 2 + 1) 0 ∧ rowsL.getD (m.val * 2 + 1) 0 ≤ 14:=by decide
 exact this ⟨n,by omega⟩ (by show 1 ≤ n;omega)
theorem takeS_dlc {s : SS} (d0 : 0 ≤ s.dlc) (d1 : s.dlc ≤ 15) (b : Int) : 0 ≤ (takeS s b).dlc ∧ (takeS s b).dlc ≤ 15:=by
 unfold takeS
 (repeat' split) <;> (try simp only []) <;> omega
theorem Sound.ok {s : SS} (h : Sound s) (i0 : 0 ≤ s.id) (hb : ∀ x ∈ s.data,0 ≤ x ∧ x < 256) : SOk s:=by
 have:=(sizeF_le h.f0 h.f1 h.d0).2
 have l1:=h.l1
 refine ⟨h.f0,h.f1,h.l0,by omega,h.d0,h.d1,i0,h.i1,h.a0,by have:=h.a1;omega,fun h9 hm => ?_,hb,by have:=h.dl;omega⟩
 obtain ⟨hr,hd,hl⟩:=h.nine h9
 intro he
 rw [he] at hl
 have hsz : sizeF s = 8 * (if s.dlc < 8 then s.dlc else 8):=by unfold sizeF;rw [if_neg (by omega),if_pos h9]
 rw [hsz] at hl l1
 have l0:=h.l0
 simp only [List.length_nil] at hl
 split at hl <;> split at l1 <;> omega
theorem scan_skip_0 (w : World) (s : SS) (A : Option Addr) (c : Nat) (hr : Kd.C (Kd.int .u8) w A s.data.length s.data) (hc : s.data.length ≤ c) (hG : LaidRows w) (hs : Sound s) (h5 : s.run = 5) (hl : 0 ≠ s.level) :
  Calls Tryd.prog 8 #[.agg #[.int .i64 s.field, .int .i64 s.left, .int .i64 s.run, .int .i64 s.level, .int .i64 s.crc, .int .i64 s.acc, .bool s.ext, .int .u32 s.id, .bool s.rtr, .int .i64 s.dlc,(.slice A s.data.length c)], .int .i64 0] w fun e w' => ∃ v : Value,e = .returned (.tuple #[.agg #[.int .i64 ({ s with run:=1,level:=0 } : SS).field, .int .i64 ({ s with run:=1,level:=0 } : SS).left, .int .i64 ({ s with run:=1,level:=0 } : SS).run, .int .i64 ({ s with run:=1,level:=0 } : SS).level, .int .i64 ({ s with run:=1,level:=0 } : SS).crc, .int .i64 ({ s with run:=1,level:=0 } : SS).acc, .bool ({ s with run:=1,level:=0 } : SS).ext, .int .u32 ({ s with run:=1,level:=0 } : SS).id, .bool ({ s with run:=1,level:=0 } : SS).rtr, .int .i64 ({ s with run:=1,level:=0 } : SS).dlc,v], .int .i64 0]) ∧ Kd.R (Kd.int .u8) 5 w' w.heap.size (fun _ => True) v ({ s with run:=1,level:=0 } : SS).data ∧ Below w.heap.size w w':=by
 have HR:=Lib.hid hr
 have HC:=Lib.hid hc
 have HG:=Lib.hid hG
 clear hr hc hG
 have HS:=Lib.hid hs
 have HCP : Hid (impl_copyFrame.f s.ext s.id s.rtr s.dlc s.data = some (s.ext,s.id,s.rtr,s.dlc,s.data)):=Lib.hid (copy_eq (by have:=hs.dl;omega))
 have HSB : Hid (impl_Scan_sound.f 10 s.field s.left s.run s.level s.crc s.acc s.ext s.id s.rtr s.dlc s.data = some true):=Lib.hid (by rw [soundI,soundB_true hs])
 have b5 : (s.run == 5) = true:=beq_iff_eq.mpr h5
 have bl : (0 == s.level) = false:=beq_eq_false_iff_ne.mpr hl
 clear hs h5 hl
 go_enter Tryd.func8,Tryd.ntmps8
 go_wp2_with (fail)
 (refine (impl_Scan_sound.calls 10 s.field s.left s.run s.level s.crc s.acc s.ext s.id s.rtr s.dlc A c s.data true _ (Kd.C_alloc (Kd.C_alloc HR.out _) _) HC.out HSB.out (HG.out.alloc _ |>.alloc _)).mono ?_;rintro e w1 ⟨rfl,hb1⟩;have HW1:=Lib.hid ((SbIn.start w s (.slice A s.data.length c)).step hb1);clear hb1)
 have hx6:=cS6 HW1.out.box
 have hx7:=cS7 HW1.out.box
 have hx8:=cS8 HW1.out.box
 have hx9:=cS9 HW1.out.box
 have hx10:=cS10 HW1.out.box
 go_wp2_with (fail)
 clear hx6 hx7 hx8 hx9 hx10
 (refine (impl_copyFrame.calls s.ext s.id s.rtr s.dlc A c s.data s.ext s.id s.rtr s.dlc s.data _ (Kd.C_below HR.out HW1.out.below) HC.out HCP.out).mono ?_;rintro e w2 ⟨v2,rfl,hr2,hb2⟩;obtain ⟨A2,c2,rfl⟩:=Kd.R_slice hr2;have HR2:=Lib.hid hr2;have HB2:=Lib.hid hb2;have HW2:=Lib.hid (HW1.out.step hb2);clear hr2 hb2)
 go_wp2_with (first | ((with_reducible refine gate_store (t:=29) (p:=22) rfl ?_);refine store_box rfl rfl rfl (g:=w.heap.size) (j:=6) (cs := #[.int .i64 s.field, .int .i64 s.left, .int .i64 s.run, .int .i64 s.level, .int .i64 s.crc, .int .i64 s.acc, .bool s.ext, .int .u32 s.id, .bool s.rtr, .int .i64 s.dlc,(.slice A s.data.length c)]) (cs' := #[.int .i64 s.field, .int .i64 s.left, .int .i64 s.run, .int .i64 s.level, .int .i64 s.crc, .int .i64 s.acc, .bool s.ext, .int .u32 s.id, .bool s.rtr, .int .i64 s.dlc,(.slice A2 s.data.length c2)]) (T:=31) (u := .agg #[.bool s.ext, .int .u32 s.id, .bool s.rtr, .int .i64 s.dlc,(.slice A2 s.data.length c2)]) (seg := [.bool s.ext, .int .u32 s.id, .bool s.rtr, .int .i64 s.dlc,(.slice A2 s.data.length c2)]) rfl rfl HW2.out.box rfl (by kernel_rfl) rfl rfl rfl ?_;intro w3 hx hT;have HW3:=Lib.hid (SbO.ofCopy HW1.out HB2.out HR2.out hx hT);clear hx hT;obtain ⟨hc0,hc1,hc2,hc3,hc4,hc5,hc6,hc7,hc8,hc9,hc10⟩:=cSall HW3.out.box;obtain ⟨hf0,hf1,hf2,hf3,hf4,hf5,hf6,hf7,hf8,hf9,hf10⟩:=fSall HW3.out.box;have HW5:=Lib.hid ((HW3.out.put (setS2 HW3.out.box 1) rfl).put (setS3 (setS2 HW3.out.box 1) 0) rfl)) | ((with_reducible refine gate_store (t:=31) (p:=4) rfl ?_);refine store_box rfl rfl rfl (g:=w.heap.size + 1) (j:=0) (cs := #[.int .i64 0, .int .i64 0, .int .i64 0, .int .i64 0, .int .i64 0, .int .i64 0, .bool false, .int .u32 0, .bool false, .int .i64 0, .slice none 0 0]) (cs' := #[.int .i64 s.field, .int .i64 s.left, .int .i64 1, .int .i64 0, .int .i64 s.crc, .int .i64 s.acc, .bool s.ext, .int .u32 s.id, .bool s.rtr, .int .i64 s.dlc,(.slice A2 s.data.length c2)]) (T:=31) (u := .agg #[.int .i64 s.field, .int .i64 s.left, .int .i64 1, .int .i64 0, .int .i64 s.crc, .int .i64 s.acc, .bool s.ext, .int .u32 s.id, .bool s.rtr, .int .i64 s.dlc,(.slice A2 s.data.length c2)]) (seg := [.int .i64 s.field, .int .i64 s.left, .int .i64 1, .int .i64 0, .int .i64 s.crc, .int .i64 s.acc, .bool s.ext, .int .u32 s.id, .bool s.rtr, .int .i64 s.dlc,(.slice A2 s.data.length c2)]) rfl rfl HW5.out.res rfl (by kernel_rfl) rfl rfl rfl ?_;intro wz hx hT;have HX:=Lib.hid hx;have HTZ:=Lib.hid hT;have HBz:=Lib.hid (hT.below HW5.out.below HW5.out.below.size (fun k hk => by omega));clear hx hT))
 refine bodyPost_ret (results_ct rfl _ _ (w.heap.size + 1) 31 #[.int .i64 s.field, .int .i64 s.left, .int .i64 1, .int .i64 0, .int .i64 s.crc, .int .i64 s.acc, .bool s.ext, .int .u32 s.id, .bool s.rtr, .int .i64 s.dlc,(.slice A2 s.data.length c2)] (0,0) _ rfl HX.out Tryd.underlying31 rfl (by kernel_rfl)) rfl ?_
 exact ⟨_,rfl,HTZ.out.R (Kd.R_mono HW5.out.row (fun _ h => h)) (fun k hk e => by omega) |> fun h => Kd.R_mono h (fun _ _ => trivial),HBz.out⟩
theorem scan_skip_1 (w : World) (s : SS) (A : Option Addr) (c : Nat) (hr : Kd.C (Kd.int .u8) w A s.data.length s.data) (hc : s.data.length ≤ c) (hG : LaidRows w) (hs : Sound s) (h5 : s.run = 5) (hl : 1 ≠ s.level) :
  Calls Tryd.prog 8 #[.agg #[.int .i64 s.field, .int .i64 s.left, .int .i64 s.run, .int .i64 s.level, .int .i64 s.crc, .int .i64 s.acc, .bool s.ext, .int .u32 s.id, .bool s.rtr, .int .i64 s.dlc,(.slice A s.data.length c)], .int .i64 1] w fun e w' => ∃ v : Value,e = .returned (.tuple #[.agg #[.int .i64 ({ s with run:=1,level:=1 } : SS).field, .int .i64 ({ s with run:=1,level:=1 } : SS).left, .int .i64 ({ s with run:=1,level:=1 } : SS).run, .int .i64 ({ s with run:=1,level:=1 } : SS).level, .int .i64 ({ s with run:=1,level:=1 } : SS).crc, .int .i64 ({ s with run:=1,level:=1 } : SS).acc, .bool ({ s with run:=1,level:=1 } : SS).ext, .int .u32 ({ s with run:=1,level:=1 } : SS).id, .bool ({ s with run:=1,level:=1 } : SS).rtr, .int .i64 ({ s with run:=1,level:=1 } : SS).dlc,v], .int .i64 0]) ∧ Kd.R (Kd.int .u8) 5 w' w.heap.size (fun _ => True) v ({ s with run:=1,level:=1 } : SS).data ∧ Below w.heap.size w w':=by
 have HR:=Lib.hid hr
 have HC:=Lib.hid hc
 have HG:=Lib.hid hG
 clear hr hc hG
 have HS:=Lib.hid hs
 have HCP : Hid (impl_copyFrame.f s.ext s.id s.rtr s.dlc s.data = some (s.ext,s.id,s.rtr,s.dlc,s.data)):=Lib.hid (copy_eq (by have:=hs.dl;omega))
 have HSB : Hid (impl_Scan_sound.f 10 s.field s.left s.run s.level s.crc s.acc s.ext s.id s.rtr s.dlc s.data = some true):=Lib.hid (by rw [soundI,soundB_true hs])
 have b5 : (s.run == 5) = true:=beq_iff_eq.mpr h5
 have bl : (1 == s.level) = false:=beq_eq_false_iff_ne.mpr hl
 clear hs h5 hl
 go_enter Tryd.func8,Tryd.ntmps8
 go_wp2_with (fail)
 (refine (impl_Scan_sound.calls 10 s.field s.left s.run s.level s.crc s.acc s.ext s.id s.rtr s.dlc A c s.data true _ (Kd.C_alloc (Kd.C_alloc HR.out _) _) HC.out HSB.out (HG.out.alloc _ |>.alloc _)).mono ?_;rintro e w1 ⟨rfl,hb1⟩;have HW1:=Lib.hid ((SbIn.start w s (.slice A s.data.length c)).step hb1);clear hb1)
 have hx6:=cS6 HW1.out.box
 have hx7:=cS7 HW1.out.box
 have hx8:=cS8 HW1.out.box
 have hx9:=cS9 HW1.out.box
 have hx10:=cS10 HW1.out.box
 go_wp2_with (fail)
 clear hx6 hx7 hx8 hx9 hx10
 (refine (impl_copyFrame.calls s.ext s.id s.rtr s.dlc A c s.data s.ext s.id s.rtr s.dlc s.data _ (Kd.C_below HR.out HW1.out.below) HC.out HCP.out).mono ?_;rintro e w2 ⟨v2,rfl,hr2,hb2⟩;obtain ⟨A2,c2,rfl⟩:=Kd.R_slice hr2;have HR2:=Lib.hid hr2;have HB2:=Lib.hid hb2;have HW2:=Lib.hid (HW1.out.step hb2);clear hr2 hb2)
 go_wp2_with (first | ((with_reducible refine gate_store (t:=29) (p:=22) rfl ?_);refine store_box rfl rfl rfl (g:=w.heap.size) (j:=6) (cs := #[.int .i64 s.field, .int .i64 s.left, .int .i64 s.run, .int .i64 s.level, .int .i64 s.crc, .int .i64 s.acc, .bool s.ext, .int .u32 s.id, .bool s.rtr, .int .i64 s.dlc,(.slice A s.data.length c)]) (cs' := #[.int .i64 s.field, .int .i64 s.left, .int .i64 s.run, .int .i64 s.level, .int .i64 s.crc, .int .i64 s.acc, .bool s.ext, .int .u32 s.id, .bool s.rtr, .int .i64 s.dlc,(.slice A2 s.data.length c2)]) (T:=31) (u := .agg #[.bool s.ext, .int .u32 s.id, .bool s.rtr, .int .i64 s.dlc,(.slice A2 s.data.length c2)]) (seg := [.bool s.ext, .int .u32 s.id, .bool s.rtr, .int .i64 s.dlc,(.slice A2 s.data.length c2)]) rfl rfl HW2.out.box rfl (by kernel_rfl) rfl rfl rfl ?_;intro w3 hx hT;have HW3:=Lib.hid (SbO.ofCopy HW1.out HB2.out HR2.out hx hT);clear hx hT;obtain ⟨hc0,hc1,hc2,hc3,hc4,hc5,hc6,hc7,hc8,hc9,hc10⟩:=cSall HW3.out.box;obtain ⟨hf0,hf1,hf2,hf3,hf4,hf5,hf6,hf7,hf8,hf9,hf10⟩:=fSall HW3.out.box;have HW5:=Lib.hid ((HW3.out.put (setS2 HW3.out.box 1) rfl).put (setS3 (setS2 HW3.out.box 1) 1) rfl)) | ((with_reducible refine gate_store (t:=31) (p:=4) rfl ?_);refine store_box rfl rfl rfl (g:=w.heap.size + 1) (j:=0) (cs := #[.int .i64 0, .int .i64 0, .int .i64 0, .int .i64 0, .int .i64 0, .int .i64 0, .bool false, .int .u32 0, .bool false, .int .i64 0, .slice none 0 0]) (cs' := #[.int .i64 s.field, .int .i64 s.left, .int .i64 1, .int .i64 1, .int .i64 s.crc, .int .i64 s.acc, .bool s.ext, .int .u32 s.id, .bool s.rtr, .int .i64 s.dlc,(.slice A2 s.data.length c2)]) (T:=31) (u := .agg #[.int .i64 s.field, .int .i64 s.left, .int .i64 1, .int .i64 1, .int .i64 s.crc, .int .i64 s.acc, .bool s.ext, .int .u32 s.id, .bool s.rtr, .int .i64 s.dlc,(.slice A2 s.data.length c2)]) (seg := [.int .i64 s.field, .int .i64 s.left, .int .i64 1, .int .i64 1, .int .i64 s.crc, .int .i64 s.acc, .bool s.ext, .int .u32 s.id, .bool s.rtr, .int .i64 s.dlc,(.slice A2 s.data.length c2)]) rfl rfl HW5.out.res rfl (by kernel_rfl) rfl rfl rfl ?_;intro wz hx hT;have HX:=Lib.hid hx;have HTZ:=Lib.hid hT;have HBz:=Lib.hid (hT.below HW5.out.below HW5.out.below.size (fun k hk => by omega));clear hx hT))
 refine bodyPost_ret (results_ct rfl _ _ (w.heap.size + 1) 31 #[.int .i64 s.field, .int .i64 s.left, .int .i64 1, .int .i64 1, .int .i64 s.crc, .int .i64 s.acc, .bool s.ext, .int .u32 s.id, .bool s.rtr, .int .i64 s.dlc,(.slice A2 s.data.length c2)] (0,0) _ rfl HX.out Tryd.underlying31 rfl (by kernel_rfl)) rfl ?_
 exact ⟨_,rfl,HTZ.out.R (Kd.R_mono HW5.out.row (fun _ h => h)) (fun k hk e => by omega) |> fun h => Kd.R_mono h (fun _ _ => trivial),HBz.out⟩
end Go.Proofs.YtdoclpgciadjaaaDoor.P

namespace Go.Proofs.YtdoclpgciadjaaaDoor.P
open Go.RowKit Go.Proofs.YtdoclpgciadjaaaDoorW.PrintWords Go.Proofs.YtdoclpgciadjaaaDoorW.PrintLast Go.Proofs.YtdoclpgciadjaaaDoorW.PrintMore
set_option linter.unusedVariables false
set_option linter.unusedSimpArgs false
def laws_szScan.f (a0_0 : Int) (a0_1 : Int) (a0_2 : Int) (a0_3 : Int) (a0_4 : Int) (a0_5 : Int) (a0_6 : Bool) (a0_7 : Int) (a0_8 : Bool) (a0_9 : Int) (l0_10 : List Int) (a1 : Int) : Option (Int):=(laws_szFrame.f a0_6 a0_7 a0_8 a0_9 l0_10 a1).bind fun t104 => (if t104 < 0 then (some (-1)) else (some t104))
set_option maxHeartbeats 8000000 in
set_option maxRecDepth 100000 in
theorem laws_szScan.calls (a0_0 : Int) (a0_1 : Int) (a0_2 : Int) (a0_3 : Int) (a0_4 : Int) (a0_5 : Int) (a0_6 : Bool) (a0_7 : Int) (a0_8 : Bool) (a0_9 : Int) (A0_10 : Option Addr) (c0_10 : Nat) (l0_10 : List Int) (a1 : Int) (r : Int) (w : World) (hr0_10 : Kd.C (Kd.int .u8) w A0_10 l0_10.length l0_10) (hc0_10 : l0_10.length ≤ c0_10) (h : laws_szScan.f a0_0 a0_1 a0_2 a0_3 a0_4 a0_5 a0_6 a0_7 a0_8 a0_9 l0_10 a1 = some r) :
  Calls Tryd.prog 5 #[.agg #[.int .i64 a0_0, .int .i64 a0_1, .int .i64 a0_2, .int .i64 a0_3, .int .i64 a0_4, .int .i64 a0_5, .bool a0_6, .int .u32 a0_7, .bool a0_8, .int .i64 a0_9, .slice A0_10 l0_10.length c0_10], .int .i64 a1] w fun e w' => e = .returned (.int .i64 r) ∧ Below w.heap.size w w':=by
 have hu27:=Tryd.underlying27
 have hu25:=Tryd.underlying25
 have HR0_10:=Aside0.mk hr0_10
 have HC0_10:=Aside0.mk hc0_10
 clear hr0_10 hc0_10
 have HB:=Aside0.mk (Below.refl w.heap.size w)
 have H : ((laws_szFrame.f a0_6 a0_7 a0_8 a0_9 l0_10 a1).bind fun t104 => (if t104 < 0 then (some (-1)) else (some t104))) = some r:=h
 clear h
 replace H:=Option.bind_eq_some_iff.mp H
 obtain ⟨t104,A30,H⟩:=H
 replace H : (if t104 < 0 then (some (-1)) else (some t104)) = some r:=H
 have A3:=Aside0.mk A30
 clear A30
 by_cases c4 : t104 < 0
 ·rw [if_pos c4] at H
  have c4b0 : decide (t104 < 0) = true:=decide_eq_true c4
  clear c4
  obtain rfl:=Option.some.inj H
  go_enter Tryd.func5,Tryd.ntmps5
  go_wp2_with (first | ((with_reducible refine gate_dst (N:=2) rfl ?_);refine box_event ?hg (N:=2) ?hd (cs := #[.int .i64 a0_0, .int .i64 a0_1, .int .i64 a0_2, .int .i64 a0_3, .int .i64 a0_4, .int .i64 a0_5, .bool a0_6, .int .u32 a0_7, .bool a0_8, .int .i64 a0_9, .slice A0_10 l0_10.length c0_10]) (t:=27) ?hr ?_;(case hd => rfl);(case hg => rfl);(case hr => first | (go_simp;done) | (go_simp;rfl));intro gb103 hg w5 hbox hb;have n0_:=Aside0.mk (below_step (by repeat (first | (with_reducible first | exact HB.out | apply below_alloc | apply pw_below_drewN | apply below_drew1) | exact HB.out)) hb);have n1_:=Aside0.mk (hbox);have n2_:=Aside0.mk ((by rw [hg];exact (below_size (by repeat (first | (with_reducible first | exact HB.out | apply below_alloc | apply pw_below_drewN | apply below_drew1) | exact HB.out))) : w.heap.size ≤ gb103));have n3_:=Aside0.mk ((by rw [hg];exact (below_size (by repeat (first | (with_reducible first | exact HB.out | apply below_alloc | apply pw_below_drewN | apply below_drew1) | exact HB.out))) : w.heap.size ≤ gb103));clear HB;have HB:=n0_;have BK103:=n1_;have GW103:=n2_;have GE103:=n3_;clear n0_ n1_ n2_ n3_;clear hb hbox hg;obtain ⟨hcz6_0,hcz6_1,hcz6_2,hcz6_3,hcz6_4,hcz6_5,hcz6_6,hcz6_7,hcz6_8,hcz6_9,hcz6_10⟩:=bc11 BK103.out;obtain ⟨hfz6_0,hfz6_1,hfz6_2,hfz6_3,hfz6_4,hfz6_5,hfz6_6,hfz6_7,hfz6_8,hfz6_9,hfz6_10⟩:=bf11 BK103.out) | ((with_reducible refine gate_callee (f:=18) rfl ?_);refine goesL_ (some 8) rfl rfl Tryd.func18 (by kernel_rfl) rfl #[.agg #[.bool a0_6, .int .u32 a0_7, .bool a0_8, .int .i64 a0_9, .slice A0_10 l0_10.length c0_10], .int .i64 a1] rfl (by (try simp only [List.map_toArray,List.map_cons,List.map_nil]);first | done | rfl | (simp only [List.length_drop,List.length_take];rfl)) ?_;(with_reducible refine (laws_szFrame.calls a0_6 a0_7 a0_8 a0_9 _ _ l0_10 a1 t104 _ ?side1 ?side2 A3.out).mono ?_);(case side1 => repeat (first | exact (Kd.C_below HR0_10.out HB.out) | (with_reducible refine Kd.C_alloc ?_ _) | (with_reducible refine Kd.C_drewN ?_ _) | (with_reducible refine Kd.C_drew ?_)));(case side2 => exact HC0_10.out);rintro e w7 ⟨rfl,hb⟩;refine ⟨_,rfl, ?_⟩;have n0_:=Aside0.mk (blk_below (g:=gb103) (o := .cells #[.int .i64 a0_0, .int .i64 a0_1, .int .i64 a0_2, .int .i64 a0_3, .int .i64 a0_4, .int .i64 a0_5, .bool a0_6, .int .u32 a0_7, .bool a0_8, .int .i64 a0_9, .slice A0_10 l0_10.length c0_10] 27 (0,0)) (by (with_reducible repeat (first | refine blk_drewN ?_ _ | refine blk_drew ?_ | refine blk_alloc ?_ _));exact BK103.out) hb);have n1_:=Aside0.mk (below_step (by repeat (first | (with_reducible first | exact HB.out | apply below_alloc | apply pw_below_drewN | apply below_drew1 | refine below_set ?_ GE103.out) | exact HB.out)) hb);clear BK103;clear HB;have BK103:=n0_;have HB:=n1_;clear n0_ n1_;(try clear hb);(try clear hb2);(try clear hk);(try clear hi)))
  go_ret
  exact ⟨by first | rfl | (simp [errW_none,errW_some] <;> rfl) | (simp [*,errW_none,errW_some] <;> rfl),by repeat (first | (with_reducible first | exact HB.out | apply below_alloc | apply pw_below_drewN | apply below_drew1 | refine below_set ?_ GE103.out) | exact HB.out)⟩
 ·rw [if_neg c4] at H
  have c4b0 : decide (t104 < 0) = false:=decide_eq_false c4
  clear c4
  obtain rfl:=Option.some.inj H
  go_enter Tryd.func5,Tryd.ntmps5
  go_wp2_with (first | ((with_reducible refine gate_dst (N:=2) rfl ?_);refine box_event ?hg (N:=2) ?hd (cs := #[.int .i64 a0_0, .int .i64 a0_1, .int .i64 a0_2, .int .i64 a0_3, .int .i64 a0_4, .int .i64 a0_5, .bool a0_6, .int .u32 a0_7, .bool a0_8, .int .i64 a0_9, .slice A0_10 l0_10.length c0_10]) (t:=27) ?hr ?_;(case hd => rfl);(case hg => rfl);(case hr => first | (go_simp;done) | (go_simp;rfl));intro gb103 hg w8 hbox hb;have n0_:=Aside0.mk (below_step (by repeat (first | (with_reducible first | exact HB.out | apply below_alloc | apply pw_below_drewN | apply below_drew1) | exact HB.out)) hb);have n1_:=Aside0.mk (hbox);have n2_:=Aside0.mk ((by rw [hg];exact (below_size (by repeat (first | (with_reducible first | exact HB.out | apply below_alloc | apply pw_below_drewN | apply below_drew1) | exact HB.out))) : w.heap.size ≤ gb103));have n3_:=Aside0.mk ((by rw [hg];exact (below_size (by repeat (first | (with_reducible first | exact HB.out | apply below_alloc | apply pw_below_drewN | apply below_drew1) | exact HB.out))) : w.heap.size ≤ gb103));clear HB;have HB:=n0_;have BK103:=n1_;have GW103:=n2_;have GE103:=n3_;clear n0_ n1_ n2_ n3_;clear hb hbox hg;obtain ⟨hcz9_0,hcz9_1,hcz9_2,hcz9_3,hcz9_4,hcz9_5,hcz9_6,hcz9_7,hcz9_8,hcz9_9,hcz9_10⟩:=bc11 BK103.out;obtain ⟨hfz9_0,hfz9_1,hfz9_2,hfz9_3,hfz9_4,hfz9_5,hfz9_6,hfz9_7,hfz9_8,hfz9_9,hfz9_10⟩:=bf11 BK103.out) | ((with_reducible refine gate_callee (f:=18) rfl ?_);refine goesL_ (some 8) rfl rfl Tryd.func18 (by kernel_rfl) rfl #[.agg #[.bool a0_6, .int .u32 a0_7, .bool a0_8, .int .i64 a0_9, .slice A0_10 l0_10.length c0_10], .int .i64 a1] rfl (by (try simp only [List.map_toArray,List.map_cons,List.map_nil]);first | done | rfl | (simp only [List.length_drop,List.length_take];rfl)) ?_;(with_reducible refine (laws_szFrame.calls a0_6 a0_7 a0_8 a0_9 _ _ l0_10 a1 t104 _ ?side1 ?side2 A3.out).mono ?_);(case side1 => repeat (first | exact (Kd.C_below HR0_10.out HB.out) | (with_reducible refine Kd.C_alloc ?_ _) | (with_reducible refine Kd.C_drewN ?_ _) | (with_reducible refine Kd.C_drew ?_)));(case side2 => exact HC0_10.out);rintro e w10 ⟨rfl,hb⟩;refine ⟨_,rfl, ?_⟩;have n0_:=Aside0.mk (blk_below (g:=gb103) (o := .cells #[.int .i64 a0_0, .int .i64 a0_1, .int .i64 a0_2, .int .i64 a0_3, .int .i64 a0_4, .int .i64 a0_5, .bool a0_6, .int .u32 a0_7, .bool a0_8, .int .i64 a0_9, .slice A0_10 l0_10.length c0_10] 27 (0,0)) (by (with_reducible repeat (first | refine blk_drewN ?_ _ | refine blk_drew ?_ | refine blk_alloc ?_ _));exact BK103.out) hb);have n1_:=Aside0.mk (below_step (by repeat (first | (with_reducible first | exact HB.out | apply below_alloc | apply pw_below_drewN | apply below_drew1 | refine below_set ?_ GE103.out) | exact HB.out)) hb);clear BK103;clear HB;have BK103:=n0_;have HB:=n1_;clear n0_ n1_;(try clear hb);(try clear hb2);(try clear hk);(try clear hi)))
  go_ret
  exact ⟨by first | rfl | (simp [errW_none,errW_some] <;> rfl) | (simp [*,errW_none,errW_some] <;> rfl),by repeat (first | (with_reducible first | exact HB.out | apply below_alloc | apply pw_below_drewN | apply below_drew1 | refine below_set ?_ GE103.out) | exact HB.out)⟩
end Go.Proofs.YtdoclpgciadjaaaDoor.P

namespace Go.Proofs.YtdoclpgciadjaaaDoor.P
open Go.RowKit Go.Proofs.YtdoclpgciadjaaaDoorW.PrintWords Go.Proofs.YtdoclpgciadjaaaDoorW.PrintLast Go.Proofs.YtdoclpgciadjaaaDoorW.PrintMore
set_option linter.unusedVariables false
set_option linter.unusedSimpArgs false
def laws_toScan.f (k : Nat) (a0_0 : Int) (a0_1 : Int) (a0_2 : Int) (a0_3 : Int) (a0_4 : Int) (a0_5 : Int) (a0_6 : Bool) (a0_7 : Int) (a0_8 : Bool) (a0_9 : Int) (l0_10 : List Int) : Option (Int × Int × Int × Int × Int × Int × Bool × Int × Bool × Int × List Int):=(laws_toFrame.f k a0_6 a0_7 a0_8 a0_9 l0_10).bind fun bt142 => (some (a0_0,a0_1,a0_2,a0_3,a0_4,a0_5,bt142.1,bt142.2.1,bt142.2.2.1,bt142.2.2.2.1,bt142.2.2.2.2))
set_option maxHeartbeats 8000000 in
set_option maxRecDepth 100000 in
theorem laws_toScan.calls (k : Nat) (a0_0 : Int) (a0_1 : Int) (a0_2 : Int) (a0_3 : Int) (a0_4 : Int) (a0_5 : Int) (a0_6 : Bool) (a0_7 : Int) (a0_8 : Bool) (a0_9 : Int) (A0_10 : Option Addr) (c0_10 : Nat) (l0_10 : List Int) (r1 : Int) (r2 : Int) (r3 : Int) (r4 : Int) (r5 : Int) (r6 : Int) (r7 : Bool) (r8 : Int) (r9 : Bool) (r10 : Int) (r11 : List Int) (w : World) (hr0_10 : Kd.C (Kd.int .u8) w A0_10 l0_10.length l0_10) (hc0_10 : l0_10.length ≤ c0_10) (h : laws_toScan.f k a0_0 a0_1 a0_2 a0_3 a0_4 a0_5 a0_6 a0_7 a0_8 a0_9 l0_10 = some (r1,r2,r3,r4,r5,r6,r7,r8,r9,r10,r11)) :
  Calls Tryd.prog 7 #[.agg #[.int .i64 a0_0, .int .i64 a0_1, .int .i64 a0_2, .int .i64 a0_3, .int .i64 a0_4, .int .i64 a0_5, .bool a0_6, .int .u32 a0_7, .bool a0_8, .int .i64 a0_9, .slice A0_10 l0_10.length c0_10]] w fun e w' => ∃ v10_ : Value,e = .returned (.agg #[.int .i64 r1, .int .i64 r2, .int .i64 r3, .int .i64 r4, .int .i64 r5, .int .i64 r6, .bool r7, .int .u32 r8, .bool r9, .int .i64 r10,v10_]) ∧ Kd.R (Kd.int .u8) 5 w' w.heap.size (fun _ => True) v10_ r11 ∧ Below w.heap.size w w':=by
 have hu27:=Tryd.underlying27
 have hu31:=Tryd.underlying31
 have hu25:=Tryd.underlying25
 have hu29:=Tryd.underlying29
 have HR0_10:=Aside0.mk hr0_10
 have HC0_10:=Aside0.mk hc0_10
 clear hr0_10 hc0_10
 have HB:=Aside0.mk (Below.refl w.heap.size w)
 have H : ((laws_toFrame.f k a0_6 a0_7 a0_8 a0_9 l0_10).bind fun bt142 => (some (a0_0,a0_1,a0_2,a0_3,a0_4,a0_5,bt142.1,bt142.2.1,bt142.2.2.1,bt142.2.2.2.1,bt142.2.2.2.2))) = some (r1,r2,r3,r4,r5,r6,r7,r8,r9,r10,r11):=h
 clear h
 replace H:=Option.bind_eq_some_iff.mp H
 obtain ⟨⟨t142,t143,t144,t145,t146⟩,A20,H⟩:=H
 replace H : (some (a0_0,a0_1,a0_2,a0_3,a0_4,a0_5,t142,t143,t144,t145,t146)) = some (r1,r2,r3,r4,r5,r6,r7,r8,r9,r10,r11):=H
 have A2:=Aside0.mk A20
 clear A20
 simp only [Option.some.injEq,Prod.mk.injEq] at H
 obtain ⟨rfl,rfl,rfl,rfl,rfl,rfl,rfl,rfl,rfl,rfl,rfl⟩:=H
 go_enter Tryd.func7,Tryd.ntmps7
 go_wp2_with (first | ((with_reducible refine gate_dst (N:=1) rfl ?_);refine box_event ?hg (N:=1) ?hd (cs := #[.int .i64 a0_0, .int .i64 a0_1, .int .i64 a0_2, .int .i64 a0_3, .int .i64 a0_4, .int .i64 a0_5, .bool a0_6, .int .u32 a0_7, .bool a0_8, .int .i64 a0_9, .slice A0_10 l0_10.length c0_10]) (t:=27) ?hr ?_;(case hd => rfl);(case hg => rfl);(case hr => first | (go_simp;done) | (go_simp;rfl));intro gb139 hg w3 hbox hb;have n0_:=Aside0.mk (below_step (by repeat (first | (with_reducible first | exact HB.out | apply below_alloc | apply pw_below_drewN | apply below_drew1) | exact HB.out)) hb);have n1_:=Aside0.mk (hbox);have n2_:=Aside0.mk ((by rw [hg];exact (below_size (by repeat (first | (with_reducible first | exact HB.out | apply below_alloc | apply pw_below_drewN | apply below_drew1) | exact HB.out))) : w.heap.size ≤ gb139));have n3_:=Aside0.mk ((by rw [hg];exact (below_size (by repeat (first | (with_reducible first | exact HB.out | apply below_alloc | apply pw_below_drewN | apply below_drew1) | exact HB.out))) : w.heap.size ≤ gb139));clear HB;have HB:=n0_;have BK139:=n1_;have GW139:=n2_;have GE139:=n3_;clear n0_ n1_ n2_ n3_;clear hb hbox hg) | ((with_reducible refine gate_dst (N:=2) rfl ?_);refine box_event ?hg (N:=2) ?hd (cs := #[.int .i64 0, .int .i64 0, .int .i64 0, .int .i64 0, .int .i64 0, .int .i64 0, .bool false, .int .u32 0, .bool false, .int .i64 0, .slice none 0 0]) (t:=31) ?hr ?_;(case hd => rfl);(case hg => rfl);(case hr => first | (go_simp;done) | (go_simp;rfl));intro gb140 hg w4 hbox hb;have n0_:=Aside0.mk (blk_below (g:=gb139) (o := .cells #[.int .i64 a0_0, .int .i64 a0_1, .int .i64 a0_2, .int .i64 a0_3, .int .i64 a0_4, .int .i64 a0_5, .bool a0_6, .int .u32 a0_7, .bool a0_8, .int .i64 a0_9, .slice A0_10 l0_10.length c0_10] 27 (0,0)) (by (with_reducible repeat (first | refine blk_drewN ?_ _ | refine blk_drew ?_ | refine blk_alloc ?_ _));exact BK139.out) hb);have n1_:=Aside0.mk (below_step (by repeat (first | (with_reducible first | exact HB.out | apply below_alloc | apply pw_below_drewN | apply below_drew1 | refine below_set ?_ GE139.out) | exact HB.out)) hb);have n2_:=Aside0.mk (hbox);have n3_:=Aside0.mk ((by rw [hg];exact (below_size (by repeat (first | (with_reducible first | exact HB.out | apply below_alloc | apply pw_below_drewN | apply below_drew1 | refine below_set ?_ GE139.out) | exact HB.out))) : w.heap.size ≤ gb140));have n4_:=Aside0.mk ((by rw [hg];exact (below_size (by repeat (first | (with_reducible first | exact HB.out | apply below_alloc | apply pw_below_drewN | apply below_drew1 | refine below_set ?_ GE139.out) | exact HB.out))) : w.heap.size ≤ gb140));have n5_:=Aside0.mk ((by rw [hg];exact Nat.ne_of_lt (blk_lt (g:=gb139) (o := .cells #[.int .i64 a0_0, .int .i64 a0_1, .int .i64 a0_2, .int .i64 a0_3, .int .i64 a0_4, .int .i64 a0_5, .bool a0_6, .int .u32 a0_7, .bool a0_8, .int .i64 a0_9, .slice A0_10 l0_10.length c0_10] 27 (0,0)) (by (with_reducible repeat (first | refine blk_drewN ?_ _ | refine blk_drew ?_ | refine blk_alloc ?_ _));exact BK139.out)) : gb139 ≠ gb140));have n6_:=Aside0.mk ((by rw [hg];exact Nat.ne_of_gt (blk_lt (g:=gb139) (o := .cells #[.int .i64 a0_0, .int .i64 a0_1, .int .i64 a0_2, .int .i64 a0_3, .int .i64 a0_4, .int .i64 a0_5, .bool a0_6, .int .u32 a0_7, .bool a0_8, .int .i64 a0_9, .slice A0_10 l0_10.length c0_10] 27 (0,0)) (by (with_reducible repeat (first | refine blk_drewN ?_ _ | refine blk_drew ?_ | refine blk_alloc ?_ _));exact BK139.out)) : gb140 ≠ gb139));clear BK139;clear HB;have BK139:=n0_;have HB:=n1_;have BK140:=n2_;have GW140:=n3_;have GE140:=n4_;have NB139_140:=n5_;have NB140_139:=n6_;clear n0_ n1_ n2_ n3_ n4_ n5_ n6_;clear hb hbox hg) | ((with_reducible refine gate_dst (N:=3) rfl ?_);refine box_event ?hg (N:=3) ?hd (cs := #[.int .i64 0, .int .i64 0, .int .i64 0, .int .i64 0, .int .i64 0, .int .i64 0, .bool false, .int .u32 0, .bool false, .int .i64 0, .slice none 0 0]) (t:=31) ?hr ?_;(case hd => rfl);(case hg => rfl);(case hr => first | (go_simp;done) | (go_simp;rfl));intro gb141 hg w5 hbox hb;have n0_:=Aside0.mk (blk_below (g:=gb139) (o := .cells #[.int .i64 a0_0, .int .i64 a0_1, .int .i64 a0_2, .int .i64 a0_3, .int .i64 a0_4, .int .i64 a0_5, .bool a0_6, .int .u32 a0_7, .bool a0_8, .int .i64 a0_9, .slice A0_10 l0_10.length c0_10] 27 (0,0)) (by (with_reducible repeat (first | refine blk_drewN ?_ _ | refine blk_drew ?_ | refine blk_alloc ?_ _));exact BK139.out) hb);have n1_:=Aside0.mk (blk_below (g:=gb140) (o := .cells #[.int .i64 0, .int .i64 0, .int .i64 0, .int .i64 0, .int .i64 0, .int .i64 0, .bool false, .int .u32 0, .bool false, .int .i64 0, .slice none 0 0] 31 (0,0)) (by (with_reducible repeat (first | refine blk_drewN ?_ _ | refine blk_drew ?_ | refine blk_alloc ?_ _));exact BK140.out) hb);have n2_:=Aside0.mk (below_step (by repeat (first | (with_reducible first | exact HB.out | apply below_alloc | apply pw_below_drewN | apply below_drew1 | refine below_set ?_ GE139.out | refine below_set ?_ GE140.out) | exact HB.out)) hb);have n3_:=Aside0.mk (hbox);have n4_:=Aside0.mk ((by rw [hg];exact (below_size (by repeat (first | (with_reducible first | exact HB.out | apply below_alloc | apply pw_below_drewN | apply below_drew1 | refine below_set ?_ GE139.out | refine below_set ?_ GE140.out) | exact HB.out))) : w.heap.size ≤ gb141));have n5_:=Aside0.mk ((by rw [hg];exact (below_size (by repeat (first | (with_reducible first | exact HB.out | apply below_alloc | apply pw_below_drewN | apply below_drew1 | refine below_set ?_ GE139.out | refine below_set ?_ GE140.out) | exact HB.out))) : w.heap.size ≤ gb141));have n6_:=Aside0.mk ((by rw [hg];exact Nat.ne_of_lt (blk_lt (g:=gb139) (o := .cells #[.int .i64 a0_0, .int .i64 a0_1, .int .i64 a0_2, .int .i64 a0_3, .int .i64 a0_4, .int .i64 a0_5, .bool a0_6, .int .u32 a0_7, .bool a0_8, .int .i64 a0_9, .slice A0_10 l0_10.length c0_10] 27 (0,0)) (by (with_reducible repeat (first | refine blk_drewN ?_ _ | refine blk_drew ?_ | refine blk_alloc ?_ _));exact BK139.out)) : gb139 ≠ gb141));have n7_:=Aside0.mk ((by rw [hg];exact Nat.ne_of_gt (blk_lt (g:=gb139) (o := .cells #[.int .i64 a0_0, .int .i64 a0_1, .int .i64 a0_2, .int .i64 a0_3, .int .i64 a0_4, .int .i64 a0_5, .bool a0_6, .int .u32 a0_7, .bool a0_8, .int .i64 a0_9, .slice A0_10 l0_10.length c0_10] 27 (0,0)) (by (with_reducible repeat (first | refine blk_drewN ?_ _ | refine blk_drew ?_ | refine blk_alloc ?_ _));exact BK139.out)) : gb141 ≠ gb139));have n8_:=Aside0.mk ((by rw [hg];exact Nat.ne_of_lt (blk_lt (g:=gb140) (o := .cells #[.int .i64 0, .int .i64 0, .int .i64 0, .int .i64 0, .int .i64 0, .int .i64 0, .bool false, .int .u32 0, .bool false, .int .i64 0, .slice none 0 0] 31 (0,0)) (by (with_reducible repeat (first | refine blk_drewN ?_ _ | refine blk_drew ?_ | refine blk_alloc ?_ _));exact BK140.out)) : gb140 ≠ gb141));have n9_:=Aside0.mk ((by rw [hg];exact Nat.ne_of_gt (blk_lt (g:=gb140) (o := .cells #[.int .i64 0, .int .i64 0, .int .i64 0, .int .i64 0, .int .i64 0, .int .i64 0, .bool false, .int .u32 0, .bool false, .int .i64 0, .slice none 0 0] 31 (0,0)) (by (with_reducible repeat (first | refine blk_drewN ?_ _ | refine blk_drew ?_ | refine blk_alloc ?_ _));exact BK140.out)) : gb141 ≠ gb140));clear BK139;clear BK140;clear HB;have BK139:=n0_;have BK140:=n1_;have HB:=n2_;have BK141:=n3_;have GW141:=n4_;have GE141:=n5_;have NB139_141:=n6_;have NB141_139:=n7_;have NB140_141:=n8_;have NB141_140:=n9_;clear n0_ n1_ n2_ n3_ n4_ n5_ n6_ n7_ n8_ n9_;clear hb hbox hg;have hnb6:=NB139_140.out;have hnc6:=NB140_139.out;have hnb7:=NB139_141.out;have hnc7:=NB141_139.out;obtain ⟨hcz8_0,hcz8_1,hcz8_2,hcz8_3,hcz8_4,hcz8_5,hcz8_6,hcz8_7,hcz8_8,hcz8_9,hcz8_10⟩:=bc11 BK139.out;obtain ⟨hfz8_0,hfz8_1,hfz8_2,hfz8_3,hfz8_4,hfz8_5,hfz8_6,hfz8_7,hfz8_8,hfz8_9,hfz8_10⟩:=bf11 BK139.out;have hnb9:=NB141_140.out;have hnc9:=NB140_141.out;obtain ⟨hcz10_0,hcz10_1,hcz10_2,hcz10_3,hcz10_4,hcz10_5,hcz10_6,hcz10_7,hcz10_8,hcz10_9,hcz10_10⟩:=bc11 BK141.out;obtain ⟨hfz10_0,hfz10_1,hfz10_2,hfz10_3,hfz10_4,hfz10_5,hfz10_6,hfz10_7,hfz10_8,hfz10_9,hfz10_10⟩:=bf11 BK141.out) | ((with_reducible refine gate_callee (f:=26) rfl ?_);refine goesL_ (some 24) rfl rfl Tryd.func26 (by kernel_rfl) rfl #[.agg #[.bool a0_6, .int .u32 a0_7, .bool a0_8, .int .i64 a0_9, .slice A0_10 l0_10.length c0_10]] rfl (by (try simp only [List.map_toArray,List.map_cons,List.map_nil]);first | done | rfl | (simp only [List.length_drop,List.length_take];rfl)) ?_;(with_reducible refine (laws_toFrame.calls k a0_6 a0_7 a0_8 a0_9 _ _ l0_10 t142 t143 t144 t145 t146 _ ?side1 ?side2 A2.out).mono ?_);(case side1 => exact Kd.C_below HR0_10.out (by repeat (first | (with_reducible first | exact HB.out | apply below_alloc | apply pw_below_drewN | apply below_drew1 | refine below_set ?_ GE139.out | refine below_set ?_ GE140.out | refine below_set ?_ GE141.out) | exact HB.out)));(case side2 => exact HC0_10.out);rintro e w11 ⟨v147,rfl,ho0,hb⟩;refine ⟨_,rfl, ?_⟩;have n0_:=Aside0.mk (Kd.R_lower ho0 (below_size (by repeat (first | (with_reducible first | exact HB.out | apply below_alloc | apply pw_below_drewN | apply below_drew1 | refine below_set ?_ GE139.out | refine below_set ?_ GE140.out | refine below_set ?_ GE141.out) | exact HB.out))));have n1_:=Aside0.mk (blk_below (g:=gb139) (o := .cells #[.int .i64 a0_0, .int .i64 a0_1, .int .i64 a0_2, .int .i64 a0_3, .int .i64 a0_4, .int .i64 a0_5, .bool a0_6, .int .u32 a0_7, .bool a0_8, .int .i64 a0_9, .slice A0_10 l0_10.length c0_10] 27 (0,0)) (by (with_reducible repeat (first | refine blk_drewN ?_ _ | refine blk_drew ?_ | refine blk_alloc ?_ _));refine blk_far ?_ NB139_141.out _;(with_reducible repeat (first | refine blk_drewN ?_ _ | refine blk_drew ?_ | refine blk_alloc ?_ _));refine blk_far ?_ NB139_141.out _;(with_reducible repeat (first | refine blk_drewN ?_ _ | refine blk_drew ?_ | refine blk_alloc ?_ _));refine blk_far ?_ NB139_141.out _;(with_reducible repeat (first | refine blk_drewN ?_ _ | refine blk_drew ?_ | refine blk_alloc ?_ _));refine blk_far ?_ NB139_141.out _;(with_reducible repeat (first | refine blk_drewN ?_ _ | refine blk_drew ?_ | refine blk_alloc ?_ _));refine blk_far ?_ NB139_141.out _;(with_reducible repeat (first | refine blk_drewN ?_ _ | refine blk_drew ?_ | refine blk_alloc ?_ _));refine blk_far ?_ NB139_141.out _;(with_reducible repeat (first | refine blk_drewN ?_ _ | refine blk_drew ?_ | refine blk_alloc ?_ _));exact BK139.out) hb);have n2_:=Aside0.mk (blk_below (g:=gb140) (o := .cells #[.int .i64 0, .int .i64 0, .int .i64 0, .int .i64 0, .int .i64 0, .int .i64 0, .bool false, .int .u32 0, .bool false, .int .i64 0, .slice none 0 0] 31 (0,0)) (by (with_reducible repeat (first | refine blk_drewN ?_ _ | refine blk_drew ?_ | refine blk_alloc ?_ _));refine blk_far ?_ NB140_141.out _;(with_reducible repeat (first | refine blk_drewN ?_ _ | refine blk_drew ?_ | refine blk_alloc ?_ _));refine blk_far ?_ NB140_141.out _;(with_reducible repeat (first | refine blk_drewN ?_ _ | refine blk_drew ?_ | refine blk_alloc ?_ _));refine blk_far ?_ NB140_141.out _;(with_reducible repeat (first | refine blk_drewN ?_ _ | refine blk_drew ?_ | refine blk_alloc ?_ _));refine blk_far ?_ NB140_141.out _;(with_reducible repeat (first | refine blk_drewN ?_ _ | refine blk_drew ?_ | refine blk_alloc ?_ _));refine blk_far ?_ NB140_141.out _;(with_reducible repeat (first | refine blk_drewN ?_ _ | refine blk_drew ?_ | refine blk_alloc ?_ _));refine blk_far ?_ NB140_141.out _;(with_reducible repeat (first | refine blk_drewN ?_ _ | refine blk_drew ?_ | refine blk_alloc ?_ _));exact BK140.out) hb);have n3_:=Aside0.mk (blk_below (g:=gb141) (o := .cells #[.int .i64 a0_0, .int .i64 a0_1, .int .i64 a0_2, .int .i64 a0_3, .int .i64 a0_4, .int .i64 a0_5, .bool false, .int .u32 0, .bool false, .int .i64 0, .slice none 0 0] 31 (0,0)) (by (with_reducible repeat (first | refine blk_drewN ?_ _ | refine blk_drew ?_ | refine blk_alloc ?_ _));refine blk_put (cs := #[.int .i64 a0_0, .int .i64 a0_1, .int .i64 a0_2, .int .i64 a0_3, .int .i64 a0_4, .int .i64 0, .bool false, .int .u32 0, .bool false, .int .i64 0, .slice none 0 0]) ?_ 5 _ rfl;(with_reducible repeat (first | refine blk_drewN ?_ _ | refine blk_drew ?_ | refine blk_alloc ?_ _));refine blk_put (cs := #[.int .i64 a0_0, .int .i64 a0_1, .int .i64 a0_2, .int .i64 a0_3, .int .i64 0, .int .i64 0, .bool false, .int .u32 0, .bool false, .int .i64 0, .slice none 0 0]) ?_ 4 _ rfl;(with_reducible repeat (first | refine blk_drewN ?_ _ | refine blk_drew ?_ | refine blk_alloc ?_ _));refine blk_put (cs := #[.int .i64 a0_0, .int .i64 a0_1, .int .i64 a0_2, .int .i64 0, .int .i64 0, .int .i64 0, .bool false, .int .u32 0, .bool false, .int .i64 0, .slice none 0 0]) ?_ 3 _ rfl;(with_reducible repeat (first | refine blk_drewN ?_ _ | refine blk_drew ?_ | refine blk_alloc ?_ _));refine blk_put (cs := #[.int .i64 a0_0, .int .i64 a0_1, .int .i64 0, .int .i64 0, .int .i64 0, .int .i64 0, .bool false, .int .u32 0, .bool false, .int .i64 0, .slice none 0 0]) ?_ 2 _ rfl;(with_reducible repeat (first | refine blk_drewN ?_ _ | refine blk_drew ?_ | refine blk_alloc ?_ _));refine blk_put (cs := #[.int .i64 a0_0, .int .i64 0, .int .i64 0, .int .i64 0, .int .i64 0, .int .i64 0, .bool false, .int .u32 0, .bool false, .int .i64 0, .slice none 0 0]) ?_ 1 _ rfl;(with_reducible repeat (first | refine blk_drewN ?_ _ | refine blk_drew ?_ | refine blk_alloc ?_ _));refine blk_put (cs := #[.int .i64 0, .int .i64 0, .int .i64 0, .int .i64 0, .int .i64 0, .int .i64 0, .bool false, .int .u32 0, .bool false, .int .i64 0, .slice none 0 0]) ?_ 0 _ rfl;(with_reducible repeat (first | refine blk_drewN ?_ _ | refine blk_drew ?_ | refine blk_alloc ?_ _));exact BK141.out) hb);have n4_:=Aside0.mk (below_step (by repeat (first | (with_reducible first | exact HB.out | apply below_alloc | apply pw_below_drewN | apply below_drew1 | refine below_set ?_ GE139.out | refine below_set ?_ GE140.out | refine below_set ?_ GE141.out) | exact HB.out)) hb);clear BK139;clear BK140;clear BK141;clear HB;have HO148:=n0_;have BK139:=n1_;have BK140:=n2_;have BK141:=n3_;have HB:=n4_;clear n0_ n1_ n2_ n3_ n4_;(try clear hb);(try clear hb2);(try clear hk);(try clear hi);(try clear ho0);obtain ⟨hcz12_0,hcz12_1,hcz12_2,hcz12_3,hcz12_4,hcz12_5,hcz12_6,hcz12_7,hcz12_8,hcz12_9,hcz12_10⟩:=bc11 BK141.out;obtain ⟨hfz12_0,hfz12_1,hfz12_2,hfz12_3,hfz12_4,hfz12_5,hfz12_6,hfz12_7,hfz12_8,hfz12_9,hfz12_10⟩:=bf11 BK141.out;obtain ⟨Ao13,co13,eo13⟩:=Kd.R_slice HO148.out;subst eo13;obtain ⟨hcz14_0,hcz14_1,hcz14_2,hcz14_3,hcz14_4,hcz14_5,hcz14_6,hcz14_7,hcz14_8,hcz14_9,hcz14_10⟩:=bc11 BK140.out;obtain ⟨hfz14_0,hfz14_1,hfz14_2,hfz14_3,hfz14_4,hfz14_5,hfz14_6,hfz14_7,hfz14_8,hfz14_9,hfz14_10⟩:=bf11 BK140.out))
 refine bodyPost_ret (results_cell_row rfl _ _ gb140 31 #[.int .i64 a0_0, .int .i64 a0_1, .int .i64 a0_2, .int .i64 a0_3, .int .i64 a0_4, .int .i64 a0_5, .bool t142, .int .u32 t143, .bool t144, .int .i64 t145, .slice Ao13 t146.length co13] (0,0) _ rfl (by (with_reducible repeat (first | refine blk_drewN ?_ _ | refine blk_drew ?_ | refine blk_alloc ?_ _));refine blk_put (cs := #[.int .i64 a0_0, .int .i64 a0_1, .int .i64 a0_2, .int .i64 a0_3, .int .i64 a0_4, .int .i64 a0_5, .bool t142, .int .u32 t143, .bool t144, .int .i64 t145, .slice none 0 0]) ?_ 10 _ rfl;(with_reducible repeat (first | refine blk_drewN ?_ _ | refine blk_drew ?_ | refine blk_alloc ?_ _));refine blk_put (cs := #[.int .i64 a0_0, .int .i64 a0_1, .int .i64 a0_2, .int .i64 a0_3, .int .i64 a0_4, .int .i64 a0_5, .bool t142, .int .u32 t143, .bool t144, .int .i64 0, .slice none 0 0]) ?_ 9 _ rfl;(with_reducible repeat (first | refine blk_drewN ?_ _ | refine blk_drew ?_ | refine blk_alloc ?_ _));refine blk_put (cs := #[.int .i64 a0_0, .int .i64 a0_1, .int .i64 a0_2, .int .i64 a0_3, .int .i64 a0_4, .int .i64 a0_5, .bool t142, .int .u32 t143, .bool false, .int .i64 0, .slice none 0 0]) ?_ 8 _ rfl;(with_reducible repeat (first | refine blk_drewN ?_ _ | refine blk_drew ?_ | refine blk_alloc ?_ _));refine blk_put (cs := #[.int .i64 a0_0, .int .i64 a0_1, .int .i64 a0_2, .int .i64 a0_3, .int .i64 a0_4, .int .i64 a0_5, .bool t142, .int .u32 0, .bool false, .int .i64 0, .slice none 0 0]) ?_ 7 _ rfl;(with_reducible repeat (first | refine blk_drewN ?_ _ | refine blk_drew ?_ | refine blk_alloc ?_ _));refine blk_put (cs := #[.int .i64 a0_0, .int .i64 a0_1, .int .i64 a0_2, .int .i64 a0_3, .int .i64 a0_4, .int .i64 a0_5, .bool false, .int .u32 0, .bool false, .int .i64 0, .slice none 0 0]) ?_ 6 _ rfl;(with_reducible repeat (first | refine blk_drewN ?_ _ | refine blk_drew ?_ | refine blk_alloc ?_ _));refine blk_put (cs := #[.int .i64 a0_0, .int .i64 a0_1, .int .i64 a0_2, .int .i64 a0_3, .int .i64 a0_4, .int .i64 0, .bool false, .int .u32 0, .bool false, .int .i64 0, .slice none 0 0]) ?_ 5 _ rfl;(with_reducible repeat (first | refine blk_drewN ?_ _ | refine blk_drew ?_ | refine blk_alloc ?_ _));refine blk_put (cs := #[.int .i64 a0_0, .int .i64 a0_1, .int .i64 a0_2, .int .i64 a0_3, .int .i64 0, .int .i64 0, .bool false, .int .u32 0, .bool false, .int .i64 0, .slice none 0 0]) ?_ 4 _ rfl;(with_reducible repeat (first | refine blk_drewN ?_ _ | refine blk_drew ?_ | refine blk_alloc ?_ _));refine blk_put (cs := #[.int .i64 a0_0, .int .i64 a0_1, .int .i64 a0_2, .int .i64 0, .int .i64 0, .int .i64 0, .bool false, .int .u32 0, .bool false, .int .i64 0, .slice none 0 0]) ?_ 3 _ rfl;(with_reducible repeat (first | refine blk_drewN ?_ _ | refine blk_drew ?_ | refine blk_alloc ?_ _));refine blk_put (cs := #[.int .i64 a0_0, .int .i64 a0_1, .int .i64 0, .int .i64 0, .int .i64 0, .int .i64 0, .bool false, .int .u32 0, .bool false, .int .i64 0, .slice none 0 0]) ?_ 2 _ rfl;(with_reducible repeat (first | refine blk_drewN ?_ _ | refine blk_drew ?_ | refine blk_alloc ?_ _));refine blk_put (cs := #[.int .i64 a0_0, .int .i64 0, .int .i64 0, .int .i64 0, .int .i64 0, .int .i64 0, .bool false, .int .u32 0, .bool false, .int .i64 0, .slice none 0 0]) ?_ 1 _ rfl;(with_reducible repeat (first | refine blk_drewN ?_ _ | refine blk_drew ?_ | refine blk_alloc ?_ _));refine blk_put (cs := #[.int .i64 0, .int .i64 0, .int .i64 0, .int .i64 0, .int .i64 0, .int .i64 0, .bool false, .int .u32 0, .bool false, .int .i64 0, .slice none 0 0]) ?_ 0 _ rfl;(with_reducible repeat (first | refine blk_drewN ?_ _ | refine blk_drew ?_ | refine blk_alloc ?_ _));refine blk_far ?_ NB140_141.out _;(with_reducible repeat (first | refine blk_drewN ?_ _ | refine blk_drew ?_ | refine blk_alloc ?_ _));refine blk_far ?_ NB140_141.out _;(with_reducible repeat (first | refine blk_drewN ?_ _ | refine blk_drew ?_ | refine blk_alloc ?_ _));refine blk_far ?_ NB140_141.out _;(with_reducible repeat (first | refine blk_drewN ?_ _ | refine blk_drew ?_ | refine blk_alloc ?_ _));refine blk_far ?_ NB140_141.out _;(with_reducible repeat (first | refine blk_drewN ?_ _ | refine blk_drew ?_ | refine blk_alloc ?_ _));refine blk_far ?_ NB140_141.out _;(with_reducible repeat (first | refine blk_drewN ?_ _ | refine blk_drew ?_ | refine blk_alloc ?_ _));exact BK140.out) Tryd.underlying31 rfl (by kernel_rfl)) rfl ?_
 exact ⟨_,by first | rfl | (simp [errW_none,errW_some] <;> rfl) | (simp [*,errW_none,errW_some] <;> rfl),by (with_reducible repeat (first | apply Kd.R_alloc | apply Kd.R_drewN | apply Kd.R_drew));exact Kd.R_mono (Kd.R_far (p:=⟨gb140,10,none⟩) (Kd.R_far (p:=⟨gb140,9,none⟩) (Kd.R_far (p:=⟨gb140,8,none⟩) (Kd.R_far (p:=⟨gb140,7,none⟩) (Kd.R_far (p:=⟨gb140,6,none⟩) (Kd.R_far (p:=⟨gb140,5,none⟩) (Kd.R_far (p:=⟨gb140,4,none⟩) (Kd.R_far (p:=⟨gb140,3,none⟩) (Kd.R_far (p:=⟨gb140,2,none⟩) (Kd.R_far (p:=⟨gb140,1,none⟩) (Kd.R_far (p:=⟨gb140,0,none⟩) (Kd.R_far (p:=⟨gb141,10,none⟩) (Kd.R_far (p:=⟨gb141,9,none⟩) (Kd.R_far (p:=⟨gb141,8,none⟩) (Kd.R_far (p:=⟨gb141,7,none⟩) (Kd.R_far (p:=⟨gb141,6,none⟩) (Kd.R_types (Kd.R_types HO148.out BK141.out (by decide)) BK140.out (by decide)) (fun _ hk => hk.1.2) (.bool t142)) (fun _ hk => hk.1.2) (.int .u32 t143)) (fun _ hk => hk.1.2) (.bool t144)) (fun _ hk => hk.1.2) (.int .i64 t145)) (fun _ hk => hk.1.2) (.slice Ao13 t146.length co13)) (fun _ hk => hk.2) (.int .i64 a0_0)) (fun _ hk => hk.2) (.int .i64 a0_1)) (fun _ hk => hk.2) (.int .i64 a0_2)) (fun _ hk => hk.2) (.int .i64 a0_3)) (fun _ hk => hk.2) (.int .i64 a0_4)) (fun _ hk => hk.2) (.int .i64 a0_5)) (fun _ hk => hk.2) (.bool t142)) (fun _ hk => hk.2) (.int .u32 t143)) (fun _ hk => hk.2) (.bool t144)) (fun _ hk => hk.2) (.int .i64 t145)) (fun _ hk => hk.2) (.slice Ao13 t146.length co13)) (fun _ hk => trivial),by repeat (first | (with_reducible first | exact HB.out | apply below_alloc | apply pw_below_drewN | apply below_drew1 | refine below_set ?_ GE139.out | refine below_set ?_ GE140.out | refine below_set ?_ GE141.out) | exact HB.out)⟩
end Go.Proofs.YtdoclpgciadjaaaDoor.P
