/- Texts of the proof of CFnExactScanBit, joined. -/
import Derived.Test.YtdoclpgciadjaaaDoorSCFnExactScanBit21
import Derived.Test.YtdoclpgciadjaaaDoorSCFnExactScanBit22
import Derived.Test.YtdoclpgciadjaaaDoorSCFnExactScanBit24
import Derived.Test.YtdoclpgciadjaaaDoorSCFnExactScanBit25
import Derived.Test.YtdoclpgciadjaaaDoorSCFnExactScanBit26
import Derived.Test.YtdoclpgciadjaaaDoorSCFnExactScanBit27
import Derived.Test.YtdoclpgciadjaaaDoorSCFnExactScanBit28
import Derived.Deep.RegionHeld3
namespace Go.Proofs.YtdoclpgciadjaaaDoor.P
open Go.RowKit Go.Proofs.YtdoclpgciadjaaaDoorW.PrintWords Go.Proofs.YtdoclpgciadjaaaDoorW.PrintLast Go.Proofs.YtdoclpgciadjaaaDoorW.PrintMore
set_option linter.unusedVariables false
set_option linter.unusedSimpArgs false
structure TkW (w w1 : World) (cs : Array Value) : Prop where
 box : w1.heap[w.heap.size]? = some (.cells cs 29 (0,0))
 res : w1.heap[w.heap.size + 1]? = some (.cells #[.bool false, .int .u32 0, .bool false, .int .i64 0, .slice none 0 0] 29 (0,0))
 below : Below w.heap.size w w1
theorem TkW.start (w : World) (cs : Array Value) : TkW w ((w.alloc (.cells cs 29)).alloc (.cells #[.bool false, .int .u32 0, .bool false, .int .i64 0, .slice none 0 0] 29)) cs :=
 ⟨blk_alloc (blk_new w _) _,by have h:=blk_new (w.alloc (.cells cs 29)) (.cells #[.bool false, .int .u32 0, .bool false, .int .i64 0, .slice none 0 0] 29);rw [World.size_alloc] at h;exact h,((Below.refl _ _).alloc (Nat.le_refl _) _).alloc (by simp) _⟩
theorem TkW.put {w w1 : World} {cs cs' : Array Value} (h : TkW w w1 cs) {j : Nat} {u : Value} (hc : cs.setIfInBounds j u = cs') : TkW w (w1.setCell ⟨w.heap.size,j,none⟩ u) cs' :=
 ⟨blk_put h.box j u hc,(Below.heap_setCell _ _ _ _ (show w.heap.size + 1 ≠ w.heap.size by omega)).trans h.res,h.below.setCell (Nat.le_refl _) _⟩
theorem TkW.lt {w w1 : World} {cs : Array Value} (h : TkW w w1 cs) : w.heap.size + 1 < w1.heap.size:=(Array.getElem?_eq_some_iff.1 h.res).1
theorem take_2_0 (w0 w : World) (s : SS) (A : Option Addr) (c : Nat) (t : Int) (P : Nat → Prop) (hr : Kd.R (Kd.int .u8) 5 w w0.heap.size P (.slice A s.data.length c) s.data) (hB : Below w0.heap.size w0 w) (hF : ∀ k,w.heap.size ≤ k → P k) (ok : SOk s) (hfld : s.field = 2) :
  Calls Tryd.prog 23 #[.agg #[.bool s.ext, .int .u32 s.id, .bool s.rtr, .int .i64 s.dlc, .slice A s.data.length c], .int .i64 s.field, .int .i64 t, .int .i64 0] w fun e w' => ∃ v' : Value,e = .returned (.agg #[.bool (takeS s 0).ext, .int .u32 (takeS s 0).id, .bool (takeS s 0).rtr, .int .i64 (takeS s 0).dlc,v']) ∧ Kd.R (Kd.int .u8) 5 w' w0.heap.size P v' (takeS s 0).data ∧ Tch w w' P:=by
 have HR:=Lib.hid hr
 have HB:=Lib.hid hB
 have HF:=Lib.hid hF
 have OK:=Lib.hid ok
 rw [hfld]
 have HL : Hid (takeS s 0 = { s with id:=2 * s.id % 536870912 }):=Lib.hid (by unfold takeS;rw [if_pos (by omega)];simp only [Int.add_zero])
 clear hr hB hF ok hfld
 go_enter Tryd.func23,Tryd.ntmps23
 go_wp2_with (fail)
 refine bodyPost_ret (results_cell_row rfl _ _ (w.heap.size + 1) 29 #[.bool s.ext, .int .u32 (2 * s.id % 536870912), .bool s.rtr, .int .i64 s.dlc, .slice A s.data.length c] (0,0) _ rfl (by have h:=blk_new (w.alloc (.cells #[.bool s.ext, .int .u32 (2 * s.id % 536870912), .bool s.rtr, .int .i64 s.dlc, .slice A s.data.length c] 29)) (.cells #[.bool s.ext, .int .u32 (2 * s.id % 536870912), .bool s.rtr, .int .i64 s.dlc, .slice A s.data.length c] 29);rw [World.size_alloc] at h;exact h) Tryd.underlying29 rfl (by kernel_rfl)) rfl ?_
 rw [HL.out]
 have HBZ : Below w.heap.size w ((w.alloc (.cells #[.bool s.ext, .int .u32 (2 * s.id % 536870912), .bool s.rtr, .int .i64 s.dlc, .slice A s.data.length c] 29)).alloc (.cells #[.bool s.ext, .int .u32 (2 * s.id % 536870912), .bool s.rtr, .int .i64 s.dlc, .slice A s.data.length c] 29)):=((Below.refl _ _).alloc (Nat.le_refl _) _).alloc (by simp) _
 exact ⟨_,rfl,Kd.R_below HR.out HBZ,Tch.of_below P HBZ⟩
theorem take_2_1 (w0 w : World) (s : SS) (A : Option Addr) (c : Nat) (t : Int) (P : Nat → Prop) (hr : Kd.R (Kd.int .u8) 5 w w0.heap.size P (.slice A s.data.length c) s.data) (hB : Below w0.heap.size w0 w) (hF : ∀ k,w.heap.size ≤ k → P k) (ok : SOk s) (hfld : s.field = 2) :
  Calls Tryd.prog 23 #[.agg #[.bool s.ext, .int .u32 s.id, .bool s.rtr, .int .i64 s.dlc, .slice A s.data.length c], .int .i64 s.field, .int .i64 t, .int .i64 1] w fun e w' => ∃ v' : Value,e = .returned (.agg #[.bool (takeS s 1).ext, .int .u32 (takeS s 1).id, .bool (takeS s 1).rtr, .int .i64 (takeS s 1).dlc,v']) ∧ Kd.R (Kd.int .u8) 5 w' w0.heap.size P v' (takeS s 1).data ∧ Tch w w' P:=by
 have HR:=Lib.hid hr
 have HB:=Lib.hid hB
 have HF:=Lib.hid hF
 have OK:=Lib.hid ok
 rw [hfld]
 have HL : Hid (takeS s 1 = { s with id:=(2 * s.id % 4294967296 + 1) % 536870912 }):=Lib.hid (by unfold takeS;rw [if_pos (by omega)];rw [show (2 * s.id + 1) % 536870912 = (2 * s.id % 4294967296 + 1) % 536870912 by omega])
 clear hr hB hF ok hfld
 go_enter Tryd.func23,Tryd.ntmps23
 go_wp2_with (fail)
 refine bodyPost_ret (results_cell_row rfl _ _ (w.heap.size + 1) 29 #[.bool s.ext, .int .u32 ((2 * s.id % 4294967296 + 1) % 536870912), .bool s.rtr, .int .i64 s.dlc, .slice A s.data.length c] (0,0) _ rfl (by have h:=blk_new (w.alloc (.cells #[.bool s.ext, .int .u32 ((2 * s.id % 4294967296 + 1) % 536870912), .bool s.rtr, .int .i64 s.dlc, .slice A s.data.length c] 29)) (.cells #[.bool s.ext, .int .u32 ((2 * s.id % 4294967296 + 1) % 536870912), .bool s.rtr, .int .i64 s.dlc, .slice A s.data.length c] 29);rw [World.size_alloc] at h;exact h) Tryd.underlying29 rfl (by kernel_rfl)) rfl ?_
 rw [HL.out]
 have HBZ : Below w.heap.size w ((w.alloc (.cells #[.bool s.ext, .int .u32 ((2 * s.id % 4294967296 + 1) % 536870912), .bool s.rtr, .int .i64 s.dlc, .slice A s.data.length c] 29)).alloc (.cells #[.bool s.ext, .int .u32 ((2 * s.id % 4294967296 + 1) % 536870912), .bool s.rtr, .int .i64 s.dlc, .slice A s.data.length c] 29)):=((Below.refl _ _).alloc (Nat.le_refl _) _).alloc (by simp) _
 exact ⟨_,rfl,Kd.R_below HR.out HBZ,Tch.of_below P HBZ⟩
theorem take_5_0 (w0 w : World) (s : SS) (A : Option Addr) (c : Nat) (t : Int) (P : Nat → Prop) (hr : Kd.R (Kd.int .u8) 5 w w0.heap.size P (.slice A s.data.length c) s.data) (hB : Below w0.heap.size w0 w) (hF : ∀ k,w.heap.size ≤ k → P k) (ok : SOk s) (hfld : s.field = 5) :
  Calls Tryd.prog 23 #[.agg #[.bool s.ext, .int .u32 s.id, .bool s.rtr, .int .i64 s.dlc, .slice A s.data.length c], .int .i64 s.field, .int .i64 t, .int .i64 0] w fun e w' => ∃ v' : Value,e = .returned (.agg #[.bool (takeS s 0).ext, .int .u32 (takeS s 0).id, .bool (takeS s 0).rtr, .int .i64 (takeS s 0).dlc,v']) ∧ Kd.R (Kd.int .u8) 5 w' w0.heap.size P v' (takeS s 0).data ∧ Tch w w' P:=by
 have HR:=Lib.hid hr
 have HB:=Lib.hid hB
 have HF:=Lib.hid hF
 have OK:=Lib.hid ok
 rw [hfld]
 have HL : Hid (takeS s 0 = { s with id:=2 * s.id % 536870912 }):=Lib.hid (by unfold takeS;rw [if_pos (by omega)];simp only [Int.add_zero])
 clear hr hB hF ok hfld
 go_enter Tryd.func23,Tryd.ntmps23
 go_wp2_with (fail)
 refine bodyPost_ret (results_cell_row rfl _ _ (w.heap.size + 1) 29 #[.bool s.ext, .int .u32 (2 * s.id % 536870912), .bool s.rtr, .int .i64 s.dlc, .slice A s.data.length c] (0,0) _ rfl (by have h:=blk_new (w.alloc (.cells #[.bool s.ext, .int .u32 (2 * s.id % 536870912), .bool s.rtr, .int .i64 s.dlc, .slice A s.data.length c] 29)) (.cells #[.bool s.ext, .int .u32 (2 * s.id % 536870912), .bool s.rtr, .int .i64 s.dlc, .slice A s.data.length c] 29);rw [World.size_alloc] at h;exact h) Tryd.underlying29 rfl (by kernel_rfl)) rfl ?_
 rw [HL.out]
 have HBZ : Below w.heap.size w ((w.alloc (.cells #[.bool s.ext, .int .u32 (2 * s.id % 536870912), .bool s.rtr, .int .i64 s.dlc, .slice A s.data.length c] 29)).alloc (.cells #[.bool s.ext, .int .u32 (2 * s.id % 536870912), .bool s.rtr, .int .i64 s.dlc, .slice A s.data.length c] 29)):=((Below.refl _ _).alloc (Nat.le_refl _) _).alloc (by simp) _
 exact ⟨_,rfl,Kd.R_below HR.out HBZ,Tch.of_below P HBZ⟩
theorem take_5_1 (w0 w : World) (s : SS) (A : Option Addr) (c : Nat) (t : Int) (P : Nat → Prop) (hr : Kd.R (Kd.int .u8) 5 w w0.heap.size P (.slice A s.data.length c) s.data) (hB : Below w0.heap.size w0 w) (hF : ∀ k,w.heap.size ≤ k → P k) (ok : SOk s) (hfld : s.field = 5) :
  Calls Tryd.prog 23 #[.agg #[.bool s.ext, .int .u32 s.id, .bool s.rtr, .int .i64 s.dlc, .slice A s.data.length c], .int .i64 s.field, .int .i64 t, .int .i64 1] w fun e w' => ∃ v' : Value,e = .returned (.agg #[.bool (takeS s 1).ext, .int .u32 (takeS s 1).id, .bool (takeS s 1).rtr, .int .i64 (takeS s 1).dlc,v']) ∧ Kd.R (Kd.int .u8) 5 w' w0.heap.size P v' (takeS s 1).data ∧ Tch w w' P:=by
 have HR:=Lib.hid hr
 have HB:=Lib.hid hB
 have HF:=Lib.hid hF
 have OK:=Lib.hid ok
 rw [hfld]
 have HL : Hid (takeS s 1 = { s with id:=(2 * s.id % 4294967296 + 1) % 536870912 }):=Lib.hid (by unfold takeS;rw [if_pos (by omega)];rw [show (2 * s.id + 1) % 536870912 = (2 * s.id % 4294967296 + 1) % 536870912 by omega])
 clear hr hB hF ok hfld
 go_enter Tryd.func23,Tryd.ntmps23
 go_wp2_with (fail)
 refine bodyPost_ret (results_cell_row rfl _ _ (w.heap.size + 1) 29 #[.bool s.ext, .int .u32 ((2 * s.id % 4294967296 + 1) % 536870912), .bool s.rtr, .int .i64 s.dlc, .slice A s.data.length c] (0,0) _ rfl (by have h:=blk_new (w.alloc (.cells #[.bool s.ext, .int .u32 ((2 * s.id % 4294967296 + 1) % 536870912), .bool s.rtr, .int .i64 s.dlc, .slice A s.data.length c] 29)) (.cells #[.bool s.ext, .int .u32 ((2 * s.id % 4294967296 + 1) % 536870912), .bool s.rtr, .int .i64 s.dlc, .slice A s.data.length c] 29);rw [World.size_alloc] at h;exact h) Tryd.underlying29 rfl (by kernel_rfl)) rfl ?_
 rw [HL.out]
 have HBZ : Below w.heap.size w ((w.alloc (.cells #[.bool s.ext, .int .u32 ((2 * s.id % 4294967296 + 1) % 536870912), .bool s.rtr, .int .i64 s.dlc, .slice A s.data.length c] 29)).alloc (.cells #[.bool s.ext, .int .u32 ((2 * s.id % 4294967296 + 1) % 536870912), .bool s.rtr, .int .i64 s.dlc, .slice A s.data.length c] 29)):=((Below.refl _ _).alloc (Nat.le_refl _) _).alloc (by simp) _
 exact ⟨_,rfl,Kd.R_below HR.out HBZ,Tch.of_below P HBZ⟩
theorem take_3_0 (w0 w : World) (s : SS) (A : Option Addr) (c : Nat) (t : Int) (P : Nat → Prop) (hr : Kd.R (Kd.int .u8) 5 w w0.heap.size P (.slice A s.data.length c) s.data) (hB : Below w0.heap.size w0 w) (hF : ∀ k,w.heap.size ≤ k → P k) (ok : SOk s) (hfld : s.field = 3) :
  Calls Tryd.prog 23 #[.agg #[.bool s.ext, .int .u32 s.id, .bool s.rtr, .int .i64 s.dlc, .slice A s.data.length c], .int .i64 s.field, .int .i64 t, .int .i64 0] w fun e w' => ∃ v' : Value,e = .returned (.agg #[.bool (takeS s 0).ext, .int .u32 (takeS s 0).id, .bool (takeS s 0).rtr, .int .i64 (takeS s 0).dlc,v']) ∧ Kd.R (Kd.int .u8) 5 w' w0.heap.size P v' (takeS s 0).data ∧ Tch w w' P:=by
 have HR:=Lib.hid hr
 have HB:=Lib.hid hB
 have HF:=Lib.hid hF
 have OK:=Lib.hid ok
 rw [hfld]
 have HL : Hid (takeS s 0 = { s with rtr:=false }):=Lib.hid (by unfold takeS;rw [if_neg (by omega),if_pos (by omega)];rfl)
 clear hr hB hF ok hfld
 go_enter Tryd.func23,Tryd.ntmps23
 go_wp2_with (fail)
 refine bodyPost_ret (results_cell_row rfl _ _ (w.heap.size + 1) 29 #[.bool s.ext, .int .u32 s.id, .bool false, .int .i64 s.dlc, .slice A s.data.length c] (0,0) _ rfl (by have h:=blk_new (w.alloc (.cells #[.bool s.ext, .int .u32 s.id, .bool false, .int .i64 s.dlc, .slice A s.data.length c] 29)) (.cells #[.bool s.ext, .int .u32 s.id, .bool false, .int .i64 s.dlc, .slice A s.data.length c] 29);rw [World.size_alloc] at h;exact h) Tryd.underlying29 rfl (by kernel_rfl)) rfl ?_
 rw [HL.out]
 have HBZ : Below w.heap.size w ((w.alloc (.cells #[.bool s.ext, .int .u32 s.id, .bool false, .int .i64 s.dlc, .slice A s.data.length c] 29)).alloc (.cells #[.bool s.ext, .int .u32 s.id, .bool false, .int .i64 s.dlc, .slice A s.data.length c] 29)):=((Below.refl _ _).alloc (Nat.le_refl _) _).alloc (by simp) _
 exact ⟨_,rfl,Kd.R_below HR.out HBZ,Tch.of_below P HBZ⟩
theorem take_3_1 (w0 w : World) (s : SS) (A : Option Addr) (c : Nat) (t : Int) (P : Nat → Prop) (hr : Kd.R (Kd.int .u8) 5 w w0.heap.size P (.slice A s.data.length c) s.data) (hB : Below w0.heap.size w0 w) (hF : ∀ k,w.heap.size ≤ k → P k) (ok : SOk s) (hfld : s.field = 3) :
  Calls Tryd.prog 23 #[.agg #[.bool s.ext, .int .u32 s.id, .bool s.rtr, .int .i64 s.dlc, .slice A s.data.length c], .int .i64 s.field, .int .i64 t, .int .i64 1] w fun e w' => ∃ v' : Value,e = .returned (.agg #[.bool (takeS s 1).ext, .int .u32 (takeS s 1).id, .bool (takeS s 1).rtr, .int .i64 (takeS s 1).dlc,v']) ∧ Kd.R (Kd.int .u8) 5 w' w0.heap.size P v' (takeS s 1).data ∧ Tch w w' P:=by
 have HR:=Lib.hid hr
 have HB:=Lib.hid hB
 have HF:=Lib.hid hF
 have OK:=Lib.hid ok
 rw [hfld]
 have HL : Hid (takeS s 1 = { s with rtr:=true }):=Lib.hid (by unfold takeS;rw [if_neg (by omega),if_pos (by omega)];rfl)
 clear hr hB hF ok hfld
 go_enter Tryd.func23,Tryd.ntmps23
 go_wp2_with (fail)
 refine bodyPost_ret (results_cell_row rfl _ _ (w.heap.size + 1) 29 #[.bool s.ext, .int .u32 s.id, .bool true, .int .i64 s.dlc, .slice A s.data.length c] (0,0) _ rfl (by have h:=blk_new (w.alloc (.cells #[.bool s.ext, .int .u32 s.id, .bool true, .int .i64 s.dlc, .slice A s.data.length c] 29)) (.cells #[.bool s.ext, .int .u32 s.id, .bool true, .int .i64 s.dlc, .slice A s.data.length c] 29);rw [World.size_alloc] at h;exact h) Tryd.underlying29 rfl (by kernel_rfl)) rfl ?_
 rw [HL.out]
 have HBZ : Below w.heap.size w ((w.alloc (.cells #[.bool s.ext, .int .u32 s.id, .bool true, .int .i64 s.dlc, .slice A s.data.length c] 29)).alloc (.cells #[.bool s.ext, .int .u32 s.id, .bool true, .int .i64 s.dlc, .slice A s.data.length c] 29)):=((Below.refl _ _).alloc (Nat.le_refl _) _).alloc (by simp) _
 exact ⟨_,rfl,Kd.R_below HR.out HBZ,Tch.of_below P HBZ⟩
theorem take_6_0 (w0 w : World) (s : SS) (A : Option Addr) (c : Nat) (t : Int) (P : Nat → Prop) (hr : Kd.R (Kd.int .u8) 5 w w0.heap.size P (.slice A s.data.length c) s.data) (hB : Below w0.heap.size w0 w) (hF : ∀ k,w.heap.size ≤ k → P k) (ok : SOk s) (hfld : s.field = 6) :
  Calls Tryd.prog 23 #[.agg #[.bool s.ext, .int .u32 s.id, .bool s.rtr, .int .i64 s.dlc, .slice A s.data.length c], .int .i64 s.field, .int .i64 t, .int .i64 0] w fun e w' => ∃ v' : Value,e = .returned (.agg #[.bool (takeS s 0).ext, .int .u32 (takeS s 0).id, .bool (takeS s 0).rtr, .int .i64 (takeS s 0).dlc,v']) ∧ Kd.R (Kd.int .u8) 5 w' w0.heap.size P v' (takeS s 0).data ∧ Tch w w' P:=by
 have HR:=Lib.hid hr
 have HB:=Lib.hid hB
 have HF:=Lib.hid hF
 have OK:=Lib.hid ok
 rw [hfld]
 have HL : Hid (takeS s 0 = { s with rtr:=false }):=Lib.hid (by unfold takeS;rw [if_neg (by omega),if_pos (by omega)];rfl)
 clear hr hB hF ok hfld
 go_enter Tryd.func23,Tryd.ntmps23
 go_wp2_with (fail)
 refine bodyPost_ret (results_cell_row rfl _ _ (w.heap.size + 1) 29 #[.bool s.ext, .int .u32 s.id, .bool false, .int .i64 s.dlc, .slice A s.data.length c] (0,0) _ rfl (by have h:=blk_new (w.alloc (.cells #[.bool s.ext, .int .u32 s.id, .bool false, .int .i64 s.dlc, .slice A s.data.length c] 29)) (.cells #[.bool s.ext, .int .u32 s.id, .bool false, .int .i64 s.dlc, .slice A s.data.length c] 29);rw [World.size_alloc] at h;exact h) Tryd.underlying29 rfl (by kernel_rfl)) rfl ?_
 rw [HL.out]
 have HBZ : Below w.heap.size w ((w.alloc (.cells #[.bool s.ext, .int .u32 s.id, .bool false, .int .i64 s.dlc, .slice A s.data.length c] 29)).alloc (.cells #[.bool s.ext, .int .u32 s.id, .bool false, .int .i64 s.dlc, .slice A s.data.length c] 29)):=((Below.refl _ _).alloc (Nat.le_refl _) _).alloc (by simp) _
 exact ⟨_,rfl,Kd.R_below HR.out HBZ,Tch.of_below P HBZ⟩
theorem take_6_1 (w0 w : World) (s : SS) (A : Option Addr) (c : Nat) (t : Int) (P : Nat → Prop) (hr : Kd.R (Kd.int .u8) 5 w w0.heap.size P (.slice A s.data.length c) s.data) (hB : Below w0.heap.size w0 w) (hF : ∀ k,w.heap.size ≤ k → P k) (ok : SOk s) (hfld : s.field = 6) :
  Calls Tryd.prog 23 #[.agg #[.bool s.ext, .int .u32 s.id, .bool s.rtr, .int .i64 s.dlc, .slice A s.data.length c], .int .i64 s.field, .int .i64 t, .int .i64 1] w fun e w' => ∃ v' : Value,e = .returned (.agg #[.bool (takeS s 1).ext, .int .u32 (takeS s 1).id, .bool (takeS s 1).rtr, .int .i64 (takeS s 1).dlc,v']) ∧ Kd.R (Kd.int .u8) 5 w' w0.heap.size P v' (takeS s 1).data ∧ Tch w w' P:=by
 have HR:=Lib.hid hr
 have HB:=Lib.hid hB
 have HF:=Lib.hid hF
 have OK:=Lib.hid ok
 rw [hfld]
 have HL : Hid (takeS s 1 = { s with rtr:=true }):=Lib.hid (by unfold takeS;rw [if_neg (by omega),if_pos (by omega)];rfl)
 clear hr hB hF ok hfld
 go_enter Tryd.func23,Tryd.ntmps23
 go_wp2_with (fail)
 refine bodyPost_ret (results_cell_row rfl _ _ (w.heap.size + 1) 29 #[.bool s.ext, .int .u32 s.id, .bool true, .int .i64 s.dlc, .slice A s.data.length c] (0,0) _ rfl (by have h:=blk_new (w.alloc (.cells #[.bool s.ext, .int .u32 s.id, .bool true, .int .i64 s.dlc, .slice A s.data.length c] 29)) (.cells #[.bool s.ext, .int .u32 s.id, .bool true, .int .i64 s.dlc, .slice A s.data.length c] 29);rw [World.size_alloc] at h;exact h) Tryd.underlying29 rfl (by kernel_rfl)) rfl ?_
 rw [HL.out]
 have HBZ : Below w.heap.size w ((w.alloc (.cells #[.bool s.ext, .int .u32 s.id, .bool true, .int .i64 s.dlc, .slice A s.data.length c] 29)).alloc (.cells #[.bool s.ext, .int .u32 s.id, .bool true, .int .i64 s.dlc, .slice A s.data.length c] 29)):=((Below.refl _ _).alloc (Nat.le_refl _) _).alloc (by simp) _
 exact ⟨_,rfl,Kd.R_below HR.out HBZ,Tch.of_below P HBZ⟩
theorem take_4_0 (w0 w : World) (s : SS) (A : Option Addr) (c : Nat) (t : Int) (P : Nat → Prop) (hr : Kd.R (Kd.int .u8) 5 w w0.heap.size P (.slice A s.data.length c) s.data) (hB : Below w0.heap.size w0 w) (hF : ∀ k,w.heap.size ≤ k → P k) (ok : SOk s) (hfld : s.field = 4) :
  Calls Tryd.prog 23 #[.agg #[.bool s.ext, .int .u32 s.id, .bool s.rtr, .int .i64 s.dlc, .slice A s.data.length c], .int .i64 s.field, .int .i64 t, .int .i64 0] w fun e w' => ∃ v' : Value,e = .returned (.agg #[.bool (takeS s 0).ext, .int .u32 (takeS s 0).id, .bool (takeS s 0).rtr, .int .i64 (takeS s 0).dlc,v']) ∧ Kd.R (Kd.int .u8) 5 w' w0.heap.size P v' (takeS s 0).data ∧ Tch w w' P:=by
 have HR:=Lib.hid hr
 have HB:=Lib.hid hB
 have HF:=Lib.hid hF
 have OK:=Lib.hid ok
 rw [hfld]
 have HL : Hid (takeS s 0 = { s with ext:=false }):=Lib.hid (by unfold takeS;rw [if_neg (by omega),if_neg (by omega),if_pos hfld];rfl)
 clear hr hB hF ok hfld
 go_enter Tryd.func23,Tryd.ntmps23
 go_wp2_with (fail)
 refine bodyPost_ret (results_cell_row rfl _ _ (w.heap.size + 1) 29 #[.bool false, .int .u32 s.id, .bool s.rtr, .int .i64 s.dlc, .slice A s.data.length c] (0,0) _ rfl (by have h:=blk_new (w.alloc (.cells #[.bool false, .int .u32 s.id, .bool s.rtr, .int .i64 s.dlc, .slice A s.data.length c] 29)) (.cells #[.bool false, .int .u32 s.id, .bool s.rtr, .int .i64 s.dlc, .slice A s.data.length c] 29);rw [World.size_alloc] at h;exact h) Tryd.underlying29 rfl (by kernel_rfl)) rfl ?_
 rw [HL.out]
 have HBZ : Below w.heap.size w ((w.alloc (.cells #[.bool false, .int .u32 s.id, .bool s.rtr, .int .i64 s.dlc, .slice A s.data.length c] 29)).alloc (.cells #[.bool false, .int .u32 s.id, .bool s.rtr, .int .i64 s.dlc, .slice A s.data.length c] 29)):=((Below.refl _ _).alloc (Nat.le_refl _) _).alloc (by simp) _
 exact ⟨_,rfl,Kd.R_below HR.out HBZ,Tch.of_below P HBZ⟩
theorem take_4_1 (w0 w : World) (s : SS) (A : Option Addr) (c : Nat) (t : Int) (P : Nat → Prop) (hr : Kd.R (Kd.int .u8) 5 w w0.heap.size P (.slice A s.data.length c) s.data) (hB : Below w0.heap.size w0 w) (hF : ∀ k,w.heap.size ≤ k → P k) (ok : SOk s) (hfld : s.field = 4) :
  Calls Tryd.prog 23 #[.agg #[.bool s.ext, .int .u32 s.id, .bool s.rtr, .int .i64 s.dlc, .slice A s.data.length c], .int .i64 s.field, .int .i64 t, .int .i64 1] w fun e w' => ∃ v' : Value,e = .returned (.agg #[.bool (takeS s 1).ext, .int .u32 (takeS s 1).id, .bool (takeS s 1).rtr, .int .i64 (takeS s 1).dlc,v']) ∧ Kd.R (Kd.int .u8) 5 w' w0.heap.size P v' (takeS s 1).data ∧ Tch w w' P:=by
 have HR:=Lib.hid hr
 have HB:=Lib.hid hB
 have HF:=Lib.hid hF
 have OK:=Lib.hid ok
 rw [hfld]
 have HL : Hid (takeS s 1 = { s with ext:=true,rtr:=false }):=Lib.hid (by unfold takeS;rw [if_neg (by omega),if_neg (by omega),if_pos hfld];rfl)
 clear hr hB hF ok hfld
 go_enter Tryd.func23,Tryd.ntmps23
 go_wp2_with (fail)
 refine bodyPost_ret (results_cell_row rfl _ _ (w.heap.size + 1) 29 #[.bool true, .int .u32 s.id, .bool false, .int .i64 s.dlc, .slice A s.data.length c] (0,0) _ rfl (by have h:=blk_new (w.alloc (.cells #[.bool true, .int .u32 s.id, .bool false, .int .i64 s.dlc, .slice A s.data.length c] 29)) (.cells #[.bool true, .int .u32 s.id, .bool false, .int .i64 s.dlc, .slice A s.data.length c] 29);rw [World.size_alloc] at h;exact h) Tryd.underlying29 rfl (by kernel_rfl)) rfl ?_
 rw [HL.out]
 have HBZ : Below w.heap.size w ((w.alloc (.cells #[.bool true, .int .u32 s.id, .bool false, .int .i64 s.dlc, .slice A s.data.length c] 29)).alloc (.cells #[.bool true, .int .u32 s.id, .bool false, .int .i64 s.dlc, .slice A s.data.length c] 29)):=((Below.refl _ _).alloc (Nat.le_refl _) _).alloc (by simp) _
 exact ⟨_,rfl,Kd.R_below HR.out HBZ,Tch.of_below P HBZ⟩
theorem take_8_0 (w0 w : World) (s : SS) (A : Option Addr) (c : Nat) (t : Int) (P : Nat → Prop) (hr : Kd.R (Kd.int .u8) 5 w w0.heap.size P (.slice A s.data.length c) s.data) (hB : Below w0.heap.size w0 w) (hF : ∀ k,w.heap.size ≤ k → P k) (ok : SOk s) (hfld : s.field = 8) :
  Calls Tryd.prog 23 #[.agg #[.bool s.ext, .int .u32 s.id, .bool s.rtr, .int .i64 s.dlc, .slice A s.data.length c], .int .i64 s.field, .int .i64 t, .int .i64 0] w fun e w' => ∃ v' : Value,e = .returned (.agg #[.bool (takeS s 0).ext, .int .u32 (takeS s 0).id, .bool (takeS s 0).rtr, .int .i64 (takeS s 0).dlc,v']) ∧ Kd.R (Kd.int .u8) 5 w' w0.heap.size P v' (takeS s 0).data ∧ Tch w w' P:=by
 have HR:=Lib.hid hr
 have HB:=Lib.hid hB
 have HF:=Lib.hid hF
 have OK:=Lib.hid ok
 rw [hfld]
 have d0:=ok.d0
 have d1:=ok.d1
 have HL : Hid (takeS s 0 = { s with dlc:=2 * s.dlc % 16 }):=Lib.hid (by unfold takeS;rw [if_neg (by omega),if_neg (by omega),if_neg (by omega),if_pos hfld];simp only [Int.add_zero])
 clear hr hB hF ok hfld
 go_enter Tryd.func23,Tryd.ntmps23
 go_wp2_with (fail)
 refine bodyPost_ret (results_cell_row rfl _ _ (w.heap.size + 1) 29 #[.bool s.ext, .int .u32 s.id, .bool s.rtr, .int .i64 (2 * s.dlc % 16), .slice A s.data.length c] (0,0) _ rfl (by have h:=blk_new (w.alloc (.cells #[.bool s.ext, .int .u32 s.id, .bool s.rtr, .int .i64 (2 * s.dlc % 16), .slice A s.data.length c] 29)) (.cells #[.bool s.ext, .int .u32 s.id, .bool s.rtr, .int .i64 (2 * s.dlc % 16), .slice A s.data.length c] 29);rw [World.size_alloc] at h;exact h) Tryd.underlying29 rfl (by kernel_rfl)) rfl ?_
 rw [HL.out]
 have HBZ : Below w.heap.size w ((w.alloc (.cells #[.bool s.ext, .int .u32 s.id, .bool s.rtr, .int .i64 (2 * s.dlc % 16), .slice A s.data.length c] 29)).alloc (.cells #[.bool s.ext, .int .u32 s.id, .bool s.rtr, .int .i64 (2 * s.dlc % 16), .slice A s.data.length c] 29)):=((Below.refl _ _).alloc (Nat.le_refl _) _).alloc (by simp) _
 exact ⟨_,rfl,Kd.R_below HR.out HBZ,Tch.of_below P HBZ⟩
theorem take_8_1 (w0 w : World) (s : SS) (A : Option Addr) (c : Nat) (t : Int) (P : Nat → Prop) (hr : Kd.R (Kd.int .u8) 5 w w0.heap.size P (.slice A s.data.length c) s.data) (hB : Below w0.heap.size w0 w) (hF : ∀ k,w.heap.size ≤ k → P k) (ok : SOk s) (hfld : s.field = 8) :
  Calls Tryd.prog 23 #[.agg #[.bool s.ext, .int .u32 s.id, .bool s.rtr, .int .i64 s.dlc, .slice A s.data.length c], .int .i64 s.field, .int .i64 t, .int .i64 1] w fun e w' => ∃ v' : Value,e = .returned (.agg #[.bool (takeS s 1).ext, .int .u32 (takeS s 1).id, .bool (takeS s 1).rtr, .int .i64 (takeS s 1).dlc,v']) ∧ Kd.R (Kd.int .u8) 5 w' w0.heap.size P v' (takeS s 1).data ∧ Tch w w' P:=by
 have HR:=Lib.hid hr
 have HB:=Lib.hid hB
 have HF:=Lib.hid hF
 have OK:=Lib.hid ok
 rw [hfld]
 have d0:=ok.d0
 have d1:=ok.d1
 have HL : Hid (takeS s 1 = { s with dlc:=(2 * s.dlc + 1) % 16 }):=Lib.hid (by unfold takeS;rw [if_neg (by omega),if_neg (by omega),if_neg (by omega),if_pos hfld])
 clear hr hB hF ok hfld
 go_enter Tryd.func23,Tryd.ntmps23
 go_wp2_with (fail)
 refine bodyPost_ret (results_cell_row rfl _ _ (w.heap.size + 1) 29 #[.bool s.ext, .int .u32 s.id, .bool s.rtr, .int .i64 ((2 * s.dlc + 1) % 16), .slice A s.data.length c] (0,0) _ rfl (by have h:=blk_new (w.alloc (.cells #[.bool s.ext, .int .u32 s.id, .bool s.rtr, .int .i64 ((2 * s.dlc + 1) % 16), .slice A s.data.length c] 29)) (.cells #[.bool s.ext, .int .u32 s.id, .bool s.rtr, .int .i64 ((2 * s.dlc + 1) % 16), .slice A s.data.length c] 29);rw [World.size_alloc] at h;exact h) Tryd.underlying29 rfl (by kernel_rfl)) rfl ?_
 rw [HL.out]
 have HBZ : Below w.heap.size w ((w.alloc (.cells #[.bool s.ext, .int .u32 s.id, .bool s.rtr, .int .i64 ((2 * s.dlc + 1) % 16), .slice A s.data.length c] 29)).alloc (.cells #[.bool s.ext, .int .u32 s.id, .bool s.rtr, .int .i64 ((2 * s.dlc + 1) % 16), .slice A s.data.length c] 29)):=((Below.refl _ _).alloc (Nat.le_refl _) _).alloc (by simp) _
 exact ⟨_,rfl,Kd.R_below HR.out HBZ,Tch.of_below P HBZ⟩
theorem take_other (w0 w : World) (s : SS) (A : Option Addr) (c : Nat) (t : Int) (P : Nat → Prop) (hr : Kd.R (Kd.int .u8) 5 w w0.heap.size P (.slice A s.data.length c) s.data) (hB : Below w0.heap.size w0 w) (hF : ∀ k,w.heap.size ≤ k → P k) (ok : SOk s) (b : Int) (hfld : s.field ≠ 2 ∧ s.field ≠ 5 ∧ s.field ≠ 3 ∧ s.field ≠ 6 ∧ s.field ≠ 4 ∧ s.field ≠ 8 ∧ s.field ≠ 9) :
  Calls Tryd.prog 23 #[.agg #[.bool s.ext, .int .u32 s.id, .bool s.rtr, .int .i64 s.dlc, .slice A s.data.length c], .int .i64 s.field, .int .i64 t, .int .i64 b] w fun e w' => ∃ v' : Value,e = .returned (.agg #[.bool (takeS s b).ext, .int .u32 (takeS s b).id, .bool (takeS s b).rtr, .int .i64 (takeS s b).dlc,v']) ∧ Kd.R (Kd.int .u8) 5 w' w0.heap.size P v' (takeS s b).data ∧ Tch w w' P:=by
 have HR:=Lib.hid hr
 obtain ⟨h2,h5,h3,h6,h4,h8,h9⟩:=hfld
 have b2 : (s.field == 2) = false:=beq_eq_false_iff_ne.mpr h2
 have b5 : (s.field == 5) = false:=beq_eq_false_iff_ne.mpr h5
 have b3 : (s.field == 3) = false:=beq_eq_false_iff_ne.mpr h3
 have b6 : (s.field == 6) = false:=beq_eq_false_iff_ne.mpr h6
 have b4 : (s.field == 4) = false:=beq_eq_false_iff_ne.mpr h4
 have b8 : (s.field == 8) = false:=beq_eq_false_iff_ne.mpr h8
 have b9 : (s.field == 9) = false:=beq_eq_false_iff_ne.mpr h9
 have HL : Hid ((takeS s b).ext = s.ext ∧ (takeS s b).id = s.id ∧ (takeS s b).rtr = s.rtr ∧ (takeS s b).dlc = s.dlc ∧ (takeS s b).data = s.data):=Lib.hid (by
  unfold takeS
  rw [if_neg (by omega),if_neg (by omega),if_neg h4,if_neg h8,if_neg h9]
  split <;> exact ⟨rfl,rfl,rfl,rfl,rfl⟩)
 clear hr hB hF ok h2 h5 h3 h6 h4 h8 h9
 go_enter Tryd.func23,Tryd.ntmps23
 go_wp2_with (fail)
 refine bodyPost_ret (results_cell_row rfl _ _ (w.heap.size + 1) 29 #[.bool s.ext, .int .u32 s.id, .bool s.rtr, .int .i64 s.dlc, .slice A s.data.length c] (0,0) _ rfl (by have h:=blk_new (w.alloc (.cells #[.bool s.ext, .int .u32 s.id, .bool s.rtr, .int .i64 s.dlc, .slice A s.data.length c] 29)) (.cells #[.bool s.ext, .int .u32 s.id, .bool s.rtr, .int .i64 s.dlc, .slice A s.data.length c] 29);rw [World.size_alloc] at h;exact h) Tryd.underlying29 rfl (by kernel_rfl)) rfl ?_
 obtain ⟨e1,e2,e3,e4,e5⟩:=HL.out
 rw [e1,e2,e3,e4,e5]
 have HBZ : Below w.heap.size w ((w.alloc (.cells #[.bool s.ext, .int .u32 s.id, .bool s.rtr, .int .i64 s.dlc, .slice A s.data.length c] 29)).alloc (.cells #[.bool s.ext, .int .u32 s.id, .bool s.rtr, .int .i64 s.dlc, .slice A s.data.length c] 29)):=((Below.refl _ _).alloc (Nat.le_refl _) _).alloc (by simp) _
 exact ⟨_,rfl,Kd.R_below HR.out HBZ,Tch.of_below P HBZ⟩
set_option maxRecDepth 100000 in
theorem take_9_0_app (w0 w : World) (s : SS) (A : Option Addr) (c : Nat) (t : Int) (P : Nat → Prop) (hr : Kd.R (Kd.int .u8) 5 w w0.heap.size P (.slice A s.data.length c) s.data) (hB : Below w0.heap.size w0 w) (hF : ∀ k,w.heap.size ≤ k → P k) (ok : SOk s) (hfld : s.field = 9) (hm : Int.tmod t 8 = 0) (hm8 : s.left % 8 = 0) :
  Calls Tryd.prog 23 #[.agg #[.bool s.ext, .int .u32 s.id, .bool s.rtr, .int .i64 s.dlc, .slice A s.data.length c], .int .i64 s.field, .int .i64 t, .int .i64 0] w fun e w' => ∃ v' : Value,e = .returned (.agg #[.bool (takeS s 0).ext, .int .u32 (takeS s 0).id, .bool (takeS s 0).rtr, .int .i64 (takeS s 0).dlc,v']) ∧ Kd.R (Kd.int .u8) 5 w' w0.heap.size P v' (takeS s 0).data ∧ Tch w w' P:=by
 have HR:=Lib.hid hr
 have HB:=Lib.hid hB
 have HF:=Lib.hid hF
 have hdl:=ok.dl
 have hmb : (Int.tmod t 8 == 0) = true:=beq_iff_eq.mpr hm
 have HLT:=Lib.hid (Kd.R_lt hr)
 rw [hfld]
 have HL : Hid (takeS s 0 = { s with data:=s.data ++ [0] }):=Lib.hid (by
  have hd : dataS s 0 = s.data ++ [0]:=by
   unfold dataS
   simp only []
   rw [if_pos hm8]
   have hr : rd (s.data ++ [0]) (((s.data ++ [0]).length : Int) - 1) = 0:=by
    have : (((s.data ++ [0]).length : Int) - 1) = (s.data.length : Int):=by rw [List.length_append,List.length_singleton];omega
    rw [this]
    unfold rd
    rw [Int.toNat_natCast,List.getD_eq_getElem?_getD,List.getElem?_append_right (Nat.le_refl _),Nat.sub_self];rfl
   rw [hr,List.length_append,List.length_singleton,show s.data.length + 1 - 1 = s.data.length by omega,List.set_append_right _ _ (Nat.le_refl _),Nat.sub_self]
   rfl
  unfold takeS
  rw [if_neg (by omega),if_neg (by omega),if_neg (by omega),if_neg (by omega),if_pos hfld,hd])
 have HW:=Lib.hid (TkW.start w #[.bool s.ext, .int .u32 s.id, .bool s.rtr, .int .i64 s.dlc, .slice A s.data.length c])
 clear hr hB hF ok hfld hm
 go_enter Tryd.func23,Tryd.ntmps23
 go_wp2_with (first | (at_builtin;go_loud (refine Kd.R_append (Kd.int .u8) (w0:=w0) w0.heap.size rfl (.tmp 51) (.tmp 54) 23 5 (.int .u8 0) 1 rfl Tryd.underlying23 infoU8s rfl (by decide) (by omega) (.slice A s.data.length c) s.data 0 [.int .u8 0] P (fun _ => False) rfl (by first | (go_simp;done) | (go_simp;rfl)) ?aP (fun _ hk => hk.elim) ?aF ?aO ?aB ?aS ?aL ?_;(case aP => exact rfl);(case aF => exact fun k hk => HF.out k (by have:=HW.out.below.size;omega));(case aO => exact Kd.R_below HR.out HW.out.below);(case aB => exact HB.out.trans (HW.out.below.mono HB.out.size));(case aS => have:=HB.out.size;have:=HW.out.below.size;omega);(case aL => omega);intro v1 w2 ho hb hg hat;obtain ⟨A1,c1,rfl⟩:=Kd.R_slice ho;rw [List.length_append,List.length_singleton] at ho;have HO:=Lib.hid ho;have HTG:=Lib.hid ((Tch.of_below P HW.out.below).grown hg (fun k hk => .inl (HR.out.1 k hk)));have HBX:=Lib.hid (blk_grown HW.out.box hg (fun e => by have:=HLT.out _ e.symm;omega));have HRX:=Lib.hid (blk_grown HW.out.res hg (fun e => by have:=HLT.out _ e.symm;omega));clear ho hb hg hat;have hq0:=blk_cell HBX.out 0;have hq1:=blk_cell HBX.out 1;have hq2:=blk_cell HBX.out 2;have hq3:=blk_cell HBX.out 3;have hq4:=blk_cell HBX.out 4;have hqf:=blk_frozen HBX.out 4;simp at hq0 hq1 hq2 hq3 hq4;have HRX2:=Lib.hid ((Below.heap_setCell w2 ⟨w.heap.size,4,none⟩ (.slice A1 (s.data.length + 1) c1) (w.heap.size + 1) (show w.heap.size + 1 ≠ w.heap.size by omega)).trans HRX.out))) | ((with_reducible refine gate_store (t:=29) (p:=8) rfl ?_);refine store_box rfl rfl rfl (g:=w.heap.size + 1) (j:=0) (cs := #[.bool false, .int .u32 0, .bool false, .int .i64 0, .slice none 0 0]) (cs' := #[.bool s.ext, .int .u32 s.id, .bool s.rtr, .int .i64 s.dlc,(.slice A1 (s.data.length + 1) c1)]) (T:=29) (u := .agg #[.bool s.ext, .int .u32 s.id, .bool s.rtr, .int .i64 s.dlc,(.slice A1 (s.data.length + 1) c1)]) (seg := [.bool s.ext, .int .u32 s.id, .bool s.rtr, .int .i64 s.dlc,(.slice A1 (s.data.length + 1) c1)]) rfl rfl HRX2.out rfl (by kernel_rfl) rfl rfl rfl ?_;intro wz hx hT;have HX:=Lib.hid hx;have HTZ:=Lib.hid hT;clear hx hT))
 refine bodyPost_ret (results_cell_row rfl _ _ (w.heap.size + 1) 29 #[.bool s.ext, .int .u32 s.id, .bool s.rtr, .int .i64 s.dlc,(.slice A1 (s.data.length + 1) c1)] (0,0) _ rfl HX.out Tryd.underlying29 rfl (by kernel_rfl)) rfl ?_
 rw [HL.out]
 have hpp : P w.heap.size:=HF.out _ (Nat.le_refl _)
 have hpq : P (w.heap.size + 1):=HF.out _ (by omega)
 refine ⟨_,rfl, ?_,(HTG.out.setCell (.inl hpp) _).then_ (HTZ.out) (fun k hk => .inl (hk ▸ hpq))⟩
 exact R_tch (R_tch HO.out HBX.out (by decide) ((Tch.refl1 _ _).one 4 _)) HRX2.out (by decide) HTZ.out
set_option maxRecDepth 100000 in
theorem take_9_1_app (w0 w : World) (s : SS) (A : Option Addr) (c : Nat) (t : Int) (P : Nat → Prop) (hr : Kd.R (Kd.int .u8) 5 w w0.heap.size P (.slice A s.data.length c) s.data) (hB : Below w0.heap.size w0 w) (hF : ∀ k,w.heap.size ≤ k → P k) (ok : SOk s) (hfld : s.field = 9) (hm : Int.tmod t 8 = 0) (hm8 : s.left % 8 = 0) :
  Calls Tryd.prog 23 #[.agg #[.bool s.ext, .int .u32 s.id, .bool s.rtr, .int .i64 s.dlc, .slice A s.data.length c], .int .i64 s.field, .int .i64 t, .int .i64 1] w fun e w' => ∃ v' : Value,e = .returned (.agg #[.bool (takeS s 1).ext, .int .u32 (takeS s 1).id, .bool (takeS s 1).rtr, .int .i64 (takeS s 1).dlc,v']) ∧ Kd.R (Kd.int .u8) 5 w' w0.heap.size P v' (takeS s 1).data ∧ Tch w w' P:=by
 have HR:=Lib.hid hr
 have HB:=Lib.hid hB
 have HF:=Lib.hid hF
 have hdl:=ok.dl
 have hmb : (Int.tmod t 8 == 0) = true:=beq_iff_eq.mpr hm
 have HLT:=Lib.hid (Kd.R_lt hr)
 rw [hfld]
 have HL : Hid (takeS s 1 = { s with data:=s.data ++ [1] }):=Lib.hid (by
  have hd : dataS s 1 = s.data ++ [1]:=by
   unfold dataS
   simp only []
   rw [if_pos hm8]
   have hr : rd (s.data ++ [0]) (((s.data ++ [0]).length : Int) - 1) = 0:=by
    have : (((s.data ++ [0]).length : Int) - 1) = (s.data.length : Int):=by rw [List.length_append,List.length_singleton];omega
    rw [this]
    unfold rd
    rw [Int.toNat_natCast,List.getD_eq_getElem?_getD,List.getElem?_append_right (Nat.le_refl _),Nat.sub_self];rfl
   rw [hr,List.length_append,List.length_singleton,show s.data.length + 1 - 1 = s.data.length by omega,List.set_append_right _ _ (Nat.le_refl _),Nat.sub_self]
   rfl
  unfold takeS
  rw [if_neg (by omega),if_neg (by omega),if_neg (by omega),if_neg (by omega),if_pos hfld,hd])
 have HW:=Lib.hid (TkW.start w #[.bool s.ext, .int .u32 s.id, .bool s.rtr, .int .i64 s.dlc, .slice A s.data.length c])
 clear hr hB hF ok hfld hm
 go_enter Tryd.func23,Tryd.ntmps23
 go_wp2_with (first | (at_builtin;go_loud (refine Kd.R_append (Kd.int .u8) (w0:=w0) w0.heap.size rfl (.tmp 51) (.tmp 54) 23 5 (.int .u8 0) 1 rfl Tryd.underlying23 infoU8s rfl (by decide) (by omega) (.slice A s.data.length c) s.data 1 [.int .u8 1] P (fun _ => False) rfl (by first | (go_simp;done) | (go_simp;rfl)) ?aP (fun _ hk => hk.elim) ?aF ?aO ?aB ?aS ?aL ?_;(case aP => exact rfl);(case aF => exact fun k hk => HF.out k (by have:=HW.out.below.size;omega));(case aO => exact Kd.R_below HR.out HW.out.below);(case aB => exact HB.out.trans (HW.out.below.mono HB.out.size));(case aS => have:=HB.out.size;have:=HW.out.below.size;omega);(case aL => omega);intro v1 w2 ho hb hg hat;obtain ⟨A1,c1,rfl⟩:=Kd.R_slice ho;rw [List.length_append,List.length_singleton] at ho;have HO:=Lib.hid ho;have HTG:=Lib.hid ((Tch.of_below P HW.out.below).grown hg (fun k hk => .inl (HR.out.1 k hk)));have HBX:=Lib.hid (blk_grown HW.out.box hg (fun e => by have:=HLT.out _ e.symm;omega));have HRX:=Lib.hid (blk_grown HW.out.res hg (fun e => by have:=HLT.out _ e.symm;omega));clear ho hb hg hat;have hq0:=blk_cell HBX.out 0;have hq1:=blk_cell HBX.out 1;have hq2:=blk_cell HBX.out 2;have hq3:=blk_cell HBX.out 3;have hq4:=blk_cell HBX.out 4;have hqf:=blk_frozen HBX.out 4;simp at hq0 hq1 hq2 hq3 hq4;have HRX2:=Lib.hid ((Below.heap_setCell w2 ⟨w.heap.size,4,none⟩ (.slice A1 (s.data.length + 1) c1) (w.heap.size + 1) (show w.heap.size + 1 ≠ w.heap.size by omega)).trans HRX.out))) | ((with_reducible refine gate_store (t:=29) (p:=8) rfl ?_);refine store_box rfl rfl rfl (g:=w.heap.size + 1) (j:=0) (cs := #[.bool false, .int .u32 0, .bool false, .int .i64 0, .slice none 0 0]) (cs' := #[.bool s.ext, .int .u32 s.id, .bool s.rtr, .int .i64 s.dlc,(.slice A1 (s.data.length + 1) c1)]) (T:=29) (u := .agg #[.bool s.ext, .int .u32 s.id, .bool s.rtr, .int .i64 s.dlc,(.slice A1 (s.data.length + 1) c1)]) (seg := [.bool s.ext, .int .u32 s.id, .bool s.rtr, .int .i64 s.dlc,(.slice A1 (s.data.length + 1) c1)]) rfl rfl HRX2.out rfl (by kernel_rfl) rfl rfl rfl ?_;intro wz hx hT;have HX:=Lib.hid hx;have HTZ:=Lib.hid hT;clear hx hT))
 refine bodyPost_ret (results_cell_row rfl _ _ (w.heap.size + 1) 29 #[.bool s.ext, .int .u32 s.id, .bool s.rtr, .int .i64 s.dlc,(.slice A1 (s.data.length + 1) c1)] (0,0) _ rfl HX.out Tryd.underlying29 rfl (by kernel_rfl)) rfl ?_
 rw [HL.out]
 have hpp : P w.heap.size:=HF.out _ (Nat.le_refl _)
 have hpq : P (w.heap.size + 1):=HF.out _ (by omega)
 refine ⟨_,rfl, ?_,(HTG.out.setCell (.inl hpp) _).then_ (HTZ.out) (fun k hk => .inl (hk ▸ hpq))⟩
 exact R_tch (R_tch HO.out HBX.out (by decide) ((Tch.refl1 _ _).one 4 _)) HRX2.out (by decide) HTZ.out
set_option maxRecDepth 100000 in
theorem take_9_0_in (w0 w : World) (s : SS) (A : Option Addr) (c : Nat) (t : Int) (P : Nat → Prop) (hr : Kd.R (Kd.int .u8) 5 w w0.heap.size P (.slice A s.data.length c) s.data) (hB : Below w0.heap.size w0 w) (hF : ∀ k,w.heap.size ≤ k → P k) (ok : SOk s) (hfld : s.field = 9) (hm : ¬ Int.tmod t 8 = 0) (hm8 : ¬ s.left % 8 = 0) :
  Calls Tryd.prog 23 #[.agg #[.bool s.ext, .int .u32 s.id, .bool s.rtr, .int .i64 s.dlc, .slice A s.data.length c], .int .i64 s.field, .int .i64 t, .int .i64 0] w fun e w' => ∃ v' : Value,e = .returned (.agg #[.bool (takeS s 0).ext, .int .u32 (takeS s 0).id, .bool (takeS s 0).rtr, .int .i64 (takeS s 0).dlc,v']) ∧ Kd.R (Kd.int .u8) 5 w' w0.heap.size P v' (takeS s 0).data ∧ Tch w w' P:=by
 have HR:=Lib.hid hr
 have HB:=Lib.hid hB
 have HF:=Lib.hid hF
 have hmb : (Int.tmod t 8 == 0) = false:=beq_eq_false_iff_ne.mpr hm
 obtain ⟨m,hm0⟩ : ∃ m,s.data.length = m + 1:=⟨s.data.length - 1,by have h1:=ok.ne hfld hm8;have:=List.length_pos_iff.2 h1;omega⟩
 have hml : m < 1000:=by have:=ok.dl;omega
 obtain ⟨g,c1,ev,hgb,hgl, -, -⟩:=Kd.R_form hr (by omega)
 have HG0 : Hid (P g):=Lib.hid (hr.1 g (by rw [ev];rfl))
 rw [ev,hm0] at hr ⊢
 have HLT : Hid (g < w.heap.size):=Lib.hid hgl
 have HRR:=Lib.hid hr
 obtain ⟨hx,hfx⟩:=Kd.R_celln 0 hr (m : Int) (by omega) (by omega)
 rw [Int.toNat_natCast] at hx hfx
 have HL : Hid (takeS s 0 = { s with data:=s.data.set m (2 * rd s.data (m : Int) % 256) }):=Lib.hid (by
  have hd : dataS s 0 = s.data.set m (2 * rd s.data (m : Int) % 256):=by
   unfold dataS
   simp only []
   rw [if_neg hm8,hm0,show ((m + 1 : Nat) : Int) - 1 = (m : Int) by omega,show m + 1 - 1 = m by omega]
   congr 1
   omega
  unfold takeS
  rw [if_neg (by omega),if_neg (by omega),if_neg (by omega),if_neg (by omega),if_pos hfld,hd])
 have p0 : (0 ≤ (m : Int)) = True:=eq_true (by omega)
 have q0 : ((m : Int) < ((m + 1 : Nat) : Int)) = True:=eq_true (by omega)
 rw [hfld]
 clear hr hB hF ok hm hm0 ev hfld
 go_enter Tryd.func23,Tryd.ntmps23
 go_wp2_with (fail)
 go_region
 go_wp2_with (fail)
 have hsz : (w.setCell ⟨g,m,none⟩ (.int .u8 (2 * rd s.data (m : Int) % 256))).heap.size = w.heap.size:=by simp [World.setCell]
 refine bodyPost_ret (results_cell_row rfl _ _ (w.heap.size + 1) 29 #[.bool s.ext, .int .u32 s.id, .bool s.rtr, .int .i64 s.dlc,(.slice (some ⟨g,0,none⟩) (m + 1) c1)] (0,0) _ rfl (by have h:=blk_new ((w.setCell ⟨g,m,none⟩ (.int .u8 (2 * rd s.data (m : Int) % 256))).alloc (.cells #[.bool s.ext, .int .u32 s.id, .bool s.rtr, .int .i64 s.dlc,(.slice (some ⟨g,0,none⟩) (m + 1) c1)] 29)) (.cells #[.bool s.ext, .int .u32 s.id, .bool s.rtr, .int .i64 s.dlc,(.slice (some ⟨g,0,none⟩) (m + 1) c1)] 29);rw [World.size_alloc,hsz] at h;exact h) Tryd.underlying29 rfl (by kernel_rfl)) rfl ?_
 rw [HL.out]
 obtain ⟨h1,h2⟩:=Kd.R_putg HRR.out (m : Int) (2 * rd s.data (m : Int) % 256)
 rw [Int.toNat_natCast] at h1 h2
 exact ⟨_,rfl,Kd.R_drew (Kd.R_alloc (Kd.R_alloc h1 _) _),((((Tch.refl w P).setCell (p:=⟨g,m,none⟩) (.inl HG0.out) _).alloc _).alloc _).drew⟩
set_option maxRecDepth 100000 in
theorem take_9_1_in (w0 w : World) (s : SS) (A : Option Addr) (c : Nat) (t : Int) (P : Nat → Prop) (hr : Kd.R (Kd.int .u8) 5 w w0.heap.size P (.slice A s.data.length c) s.data) (hB : Below w0.heap.size w0 w) (hF : ∀ k,w.heap.size ≤ k → P k) (ok : SOk s) (hfld : s.field = 9) (hm : ¬ Int.tmod t 8 = 0) (hm8 : ¬ s.left % 8 = 0) :
  Calls Tryd.prog 23 #[.agg #[.bool s.ext, .int .u32 s.id, .bool s.rtr, .int .i64 s.dlc, .slice A s.data.length c], .int .i64 s.field, .int .i64 t, .int .i64 1] w fun e w' => ∃ v' : Value,e = .returned (.agg #[.bool (takeS s 1).ext, .int .u32 (takeS s 1).id, .bool (takeS s 1).rtr, .int .i64 (takeS s 1).dlc,v']) ∧ Kd.R (Kd.int .u8) 5 w' w0.heap.size P v' (takeS s 1).data ∧ Tch w w' P:=by
 have HR:=Lib.hid hr
 have HB:=Lib.hid hB
 have HF:=Lib.hid hF
 have hmb : (Int.tmod t 8 == 0) = false:=beq_eq_false_iff_ne.mpr hm
 obtain ⟨m,hm0⟩ : ∃ m,s.data.length = m + 1:=⟨s.data.length - 1,by have h1:=ok.ne hfld hm8;have:=List.length_pos_iff.2 h1;omega⟩
 have hml : m < 1000:=by have:=ok.dl;omega
 obtain ⟨g,c1,ev,hgb,hgl, -, -⟩:=Kd.R_form hr (by omega)
 have HG0 : Hid (P g):=Lib.hid (hr.1 g (by rw [ev];rfl))
 rw [ev,hm0] at hr ⊢
 have HLT : Hid (g < w.heap.size):=Lib.hid hgl
 have HRR:=Lib.hid hr
 obtain ⟨hx,hfx⟩:=Kd.R_celln 0 hr (m : Int) (by omega) (by omega)
 rw [Int.toNat_natCast] at hx hfx
 have HL : Hid (takeS s 1 = { s with data:=s.data.set m (2 * rd s.data (m : Int) % 256 + 1) }):=Lib.hid (by
  have hd : dataS s 1 = s.data.set m (2 * rd s.data (m : Int) % 256 + 1):=by
   unfold dataS
   simp only []
   rw [if_neg hm8,hm0,show ((m + 1 : Nat) : Int) - 1 = (m : Int) by omega,show m + 1 - 1 = m by omega]
   congr 1
   omega
  unfold takeS
  rw [if_neg (by omega),if_neg (by omega),if_neg (by omega),if_neg (by omega),if_pos hfld,hd])
 have p0 : (0 ≤ (m : Int)) = True:=eq_true (by omega)
 have q0 : ((m : Int) < ((m + 1 : Nat) : Int)) = True:=eq_true (by omega)
 rw [hfld]
 clear hr hB hF ok hm hm0 ev hfld
 go_enter Tryd.func23,Tryd.ntmps23
 go_wp2_with (fail)
 go_region
 go_wp2_with (fail)
 have hsz : (w.setCell ⟨g,m,none⟩ (.int .u8 (2 * rd s.data (m : Int) % 256 + 1))).heap.size = w.heap.size:=by simp [World.setCell]
 refine bodyPost_ret (results_cell_row rfl _ _ (w.heap.size + 1) 29 #[.bool s.ext, .int .u32 s.id, .bool s.rtr, .int .i64 s.dlc,(.slice (some ⟨g,0,none⟩) (m + 1) c1)] (0,0) _ rfl (by have h:=blk_new ((w.setCell ⟨g,m,none⟩ (.int .u8 (2 * rd s.data (m : Int) % 256 + 1))).alloc (.cells #[.bool s.ext, .int .u32 s.id, .bool s.rtr, .int .i64 s.dlc,(.slice (some ⟨g,0,none⟩) (m + 1) c1)] 29)) (.cells #[.bool s.ext, .int .u32 s.id, .bool s.rtr, .int .i64 s.dlc,(.slice (some ⟨g,0,none⟩) (m + 1) c1)] 29);rw [World.size_alloc,hsz] at h;exact h) Tryd.underlying29 rfl (by kernel_rfl)) rfl ?_
 rw [HL.out]
 obtain ⟨h1,h2⟩:=Kd.R_putg HRR.out (m : Int) (2 * rd s.data (m : Int) % 256 + 1)
 rw [Int.toNat_natCast] at h1 h2
 exact ⟨_,rfl,Kd.R_drew (Kd.R_alloc (Kd.R_alloc h1 _) _),((((Tch.refl w P).setCell (p:=⟨g,m,none⟩) (.inl HG0.out) _).alloc _).alloc _).drew⟩
theorem spec_l2take.at_ (w0 w : World) (s : SS) (A : Option Addr) (c : Nat) (t : Int) (P : Nat → Prop) (hr : Kd.R (Kd.int .u8) 5 w w0.heap.size P (.slice A s.data.length c) s.data) (hB : Below w0.heap.size w0 w) (hF : ∀ k,w.heap.size ≤ k → P k) (ok : SOk s) (b : Int) (hb : b = 0 ∨ b = 1) (ht0 : 0 ≤ t) (ht : s.field = 9 → (t % 8 = 0 ↔ s.left % 8 = 0)) :
  Calls Tryd.prog 23 #[.agg #[.bool s.ext, .int .u32 s.id, .bool s.rtr, .int .i64 s.dlc, .slice A s.data.length c], .int .i64 s.field, .int .i64 t, .int .i64 b] w fun e w' => ∃ v' : Value,e = .returned (.agg #[.bool (takeS s b).ext, .int .u32 (takeS s b).id, .bool (takeS s b).rtr, .int .i64 (takeS s b).dlc,v']) ∧ Kd.R (Kd.int .u8) 5 w' w0.heap.size P v' (takeS s b).data ∧ Tch w w' P:=by
 have hmod : Int.tmod t 8 = t % 8:=Int.tmod_eq_emod_of_nonneg ht0
 by_cases h2 : s.field = 2
 ·rcases hb with rfl | rfl;exact take_2_0 w0 w s A c t P hr hB hF ok h2;exact take_2_1 w0 w s A c t P hr hB hF ok h2
 by_cases h5 : s.field = 5
 ·rcases hb with rfl | rfl;exact take_5_0 w0 w s A c t P hr hB hF ok h5;exact take_5_1 w0 w s A c t P hr hB hF ok h5
 by_cases h3 : s.field = 3
 ·rcases hb with rfl | rfl;exact take_3_0 w0 w s A c t P hr hB hF ok h3;exact take_3_1 w0 w s A c t P hr hB hF ok h3
 by_cases h6 : s.field = 6
 ·rcases hb with rfl | rfl;exact take_6_0 w0 w s A c t P hr hB hF ok h6;exact take_6_1 w0 w s A c t P hr hB hF ok h6
 by_cases h4 : s.field = 4
 ·rcases hb with rfl | rfl;exact take_4_0 w0 w s A c t P hr hB hF ok h4;exact take_4_1 w0 w s A c t P hr hB hF ok h4
 by_cases h8 : s.field = 8
 ·rcases hb with rfl | rfl;exact take_8_0 w0 w s A c t P hr hB hF ok h8;exact take_8_1 w0 w s A c t P hr hB hF ok h8
 by_cases h9 : s.field = 9
 ·by_cases hm : t % 8 = 0
  ·rcases hb with rfl | rfl;exact take_9_0_app w0 w s A c t P hr hB hF ok h9 (by rw [hmod];exact hm) ((ht h9).1 hm);exact take_9_1_app w0 w s A c t P hr hB hF ok h9 (by rw [hmod];exact hm) ((ht h9).1 hm)
  ·rcases hb with rfl | rfl;exact take_9_0_in w0 w s A c t P hr hB hF ok h9 (by rw [hmod];exact hm) (fun h => hm ((ht h9).2 h));exact take_9_1_in w0 w s A c t P hr hB hF ok h9 (by rw [hmod];exact hm) (fun h => hm ((ht h9).2 h))
 exact take_other w0 w s A c t P hr hB hF ok b ⟨h2,h5,h3,h6,h4,h8,h9⟩
end Go.Proofs.YtdoclpgciadjaaaDoor.P

namespace Go.Proofs.YtdoclpgciadjaaaDoor.P
open Go Go.RowKit Go.Proofs.YtdoclpgciadjaaaDoorW.PrintWords
set_option linter.unusedVariables false
theorem specSize {s : SS} (f0 : 1 ≤ s.field) (f1 : s.field ≤ 14) (d0 : 0 ≤ s.dlc) (d1 : s.dlc ≤ 15) : spec_l2size.f s.field s.ext s.id s.rtr s.dlc s.data = some (sizeF s):=by
 unfold spec_l2size.f sizeF
 by_cases c7 : s.field = 7 ∧ s.ext = true
 ·rw [if_neg (by omega),if_neg (by omega),if_pos c7.1,if_pos c7.2,if_pos c7]
 rw [if_neg c7]
 by_cases c9 : s.field = 9
 ·rw [if_neg (by omega),if_neg (by omega),if_neg (by omega),if_neg (by omega),if_pos c9,if_pos c9]
  by_cases cd : s.dlc > 8
  ·rw [if_pos cd,if_neg (show ¬ s.dlc < 8 by omega)];rfl
  ·rw [if_neg cd,w64 (by omega) (by omega)]
   by_cases ce : s.dlc < 8
   ·rw [if_pos ce]
   ·rw [if_neg ce,show s.dlc = 8 by omega]
 rw [if_neg c9,if_neg c9]
 have h7 : s.field = 7 → s.ext = false:=fun h => by cases he : s.ext;rfl;exact absurd ⟨h,he⟩ c7
 obtain ⟨n,hn⟩ : ∃ n : Nat,s.field = (n : Int):=⟨s.field.toNat,by omega⟩
 rw [hn] at f0 f1 c9 h7 ⊢
 rw [Int.toNat_natCast]
 by_cases c7 : (n : Int) = 7
 ·have h:=h7 c7
  obtain rfl : n = 7:=by omega
  rw [h]
  rfl
 have : ∀ m : Fin 15,1 ≤ m.val → m.val ≠ 7 → m.val ≠ 9 → (if (m.val : Int) = 2 then (some 11 : Option Int) else if (m.val : Int) = 5 then some 18 else if (m.val : Int) = 8 then some 4 else if (m.val : Int) = 10 then some 15 else if (m.val : Int) = 14 then some 7 else some 1) = some (rowsL.getD (m.val * 2) 0):=by decide
 have h:=this ⟨n,by omega⟩ (by show 1 ≤ n;omega) (by show n ≠ 7;omega) (by show n ≠ 9;omega)
 rw [if_neg c7]
 exact h
theorem soundSp (k : Nat) (s : SS) : spec_l2sound.f (k + 6) s.field s.left s.run s.level s.crc s.acc s.ext s.id s.rtr s.dlc s.data = some (soundB s):=by
 unfold spec_l2sound.f
 have j0t : spec_l2sound.j0 (k + 6) true s.field s.left s.run s.level s.crc s.acc s.ext s.id s.rtr s.dlc s.data = some false:=by simp only [spec_l2sound.j0,if_true]
 have j1t : spec_l2sound.j1 (k + 5) true s.field s.left s.run s.level s.crc s.acc s.ext s.id s.rtr s.dlc s.data = some false:=by simp only [spec_l2sound.j1,if_true]
 by_cases f0 : s.field < 1
 ·rw [if_pos f0,j0t,soundB_false (fun h => by have:=h.f0;omega)]
 rw [if_neg f0]
 by_cases f1 : s.field > 14
 ·rw [decide_eq_true f1,j0t,soundB_false (fun h => by have:=h.f1;omega)]
 rw [decide_eq_false f1]
 simp only [spec_l2sound.j0]
 rw [if_neg Bool.false_ne_true]
 by_cases i1 : s.id ≥ 536870912
 ·rw [if_pos i1,j1t,soundB_false (fun h => by have:=h.i1;omega)]
 rw [if_neg i1]
 by_cases d0 : s.dlc < 0
 ·rw [if_pos d0,j1t,soundB_false (fun h => by have:=h.d0;omega)]
 rw [if_neg d0]
 by_cases d1 : s.dlc > 15
 ·rw [if_pos d1,j1t,soundB_false (fun h => by have:=h.d1;omega)]
 rw [if_neg d1]
 by_cases dl : (s.data.length : Int) > 8
 ·rw [decide_eq_true dl,j1t,soundB_false (fun h => by have:=h.dl;omega)]
 rw [decide_eq_false dl]
 simp only [spec_l2sound.j1]
 rw [if_neg Bool.false_ne_true,specSize (by omega) (by omega) (by omega) (by omega),Option.bind_some]
 have hsz:=sizeF_le (s:=s) (by omega) (by omega) (by omega)
 have j2t : spec_l2sound.j2 (k + 4) (sizeF s) true s.field s.left s.run s.level s.crc s.acc s.ext s.id s.rtr s.dlc s.data = some false:=by simp only [spec_l2sound.j2,if_true]
 by_cases l0 : s.left < 1
 ·rw [if_pos l0,j2t,soundB_false (fun h => by have:=h.l0;omega)]
 rw [if_neg l0]
 by_cases l1 : s.left > sizeF s
 ·rw [decide_eq_true l1,j2t,soundB_false (fun h => by have:=h.l1;omega)]
 rw [decide_eq_false l1]
 simp only [spec_l2sound.j2]
 rw [if_neg Bool.false_ne_true]
 have j3t : spec_l2sound.j3 (k + 3) (sizeF s) true s.field s.left s.run s.level s.crc s.acc s.ext s.id s.rtr s.dlc s.data = some false:=by simp only [spec_l2sound.j3,if_true]
 by_cases r0 : s.run < 0
 ·rw [if_pos r0,j3t,soundB_false (fun h => by have:=h.r0;omega)]
 rw [if_neg r0]
 by_cases r1 : s.run > 5
 ·rw [if_pos r1,j3t,soundB_false (fun h => by have:=h.r1;omega)]
 rw [if_neg r1]
 by_cases v0 : s.level < 0
 ·rw [if_pos v0,j3t,soundB_false (fun h => by have:=h.v0;omega)]
 rw [if_neg v0]
 by_cases v1 : s.level > 1
 ·rw [if_pos v1,j3t,soundB_false (fun h => by have:=h.v1;omega)]
 rw [if_neg v1]
 have rest : (s.run = 0 → s.level = 0) → spec_l2sound.j3 (k + 3) (sizeF s) false s.field s.left s.run s.level s.crc s.acc s.ext s.id s.rtr s.dlc s.data = some (soundB s):=by
  intro hz
  simp only [spec_l2sound.j3]
  rw [if_neg Bool.false_ne_true]
  have quiet : ∀ x : Bool,(x = true ↔ (s.field = 1 ∨ s.field > 11)) → spec_l2sound.j4 (k + 2) (sizeF s) x s.field s.left s.run s.level s.crc s.acc s.ext s.id s.rtr s.dlc s.data = some (soundB s):=by
   intro x hx
   simp only [spec_l2sound.j4]
   by_cases hq : (s.run = 0 ↔ (s.field = 1 ∨ s.field > 11))
   ·have hxr : (x != (s.run == 0)) = false:=by
     cases x with
     | true => rw [beq_iff_eq.mpr (hq.2 (hx.1 rfl))];rfl
     | false => rw [beq_eq_false_iff_ne.mpr (fun h => by have:=hx.2 (hq.1 h);cases this)];rfl
    rw [hxr,if_neg Bool.false_ne_true]
    have j5t : spec_l2sound.j5 (k + 1) (sizeF s) true s.field s.left s.run s.level s.crc s.acc s.ext s.id s.rtr s.dlc s.data = some false:=by simp only [spec_l2sound.j5,if_true]
    by_cases c0 : s.crc < 0
    ·rw [if_pos c0,j5t,soundB_false (fun h => by have:=h.c0;omega)]
    rw [if_neg c0]
    by_cases c1 : s.crc > 32767
    ·rw [if_pos c1,j5t,soundB_false (fun h => by have:=h.c1;omega)]
    rw [if_neg c1]
    by_cases a0 : s.acc < 0
    ·rw [if_pos a0,j5t,soundB_false (fun h => by have:=h.a0;omega)]
    rw [if_neg a0]
    by_cases a1 : s.acc > 32767
    ·rw [decide_eq_true a1,j5t,soundB_false (fun h => by have:=h.a1;omega)]
    rw [decide_eq_false a1]
    simp only [spec_l2sound.j5]
    rw [if_neg Bool.false_ne_true]
    by_cases f9 : s.field = 9
    ·rw [if_pos f9]
     by_cases hr : s.rtr = true
     ·rw [if_pos hr,soundB_false (fun h => by have:=(h.nine f9).1;rw [hr] at this;cases this)]
     rw [if_neg hr]
     by_cases hd : s.dlc = 0
     ·rw [if_pos hd,soundB_false (fun h => by have:=(h.nine f9).2.1;omega)]
     rw [if_neg hd]
     have e1 : wrap64 (sizeF s - s.left) = sizeF s - s.left:=w64 (by omega) (by omega)
     have e2 : wrap64 (sizeF s - s.left + 7) = sizeF s - s.left + 7:=w64 (by omega) (by omega)
     have e3 : Int.tdiv (sizeF s - s.left + 7) 8 = (sizeF s - s.left + 7) / 8:=Int.tdiv_eq_ediv_of_nonneg (by omega)
     have e4 : wrap64 ((sizeF s - s.left + 7) / 8) = (sizeF s - s.left + 7) / 8:=w64 (by omega) (by omega)
     rw [e1,e2,e3,e4]
     by_cases hl : (s.data.length : Int) = (sizeF s - s.left + 7) / 8
     ·rw [if_pos hl,soundB_true ⟨by omega,by omega,by omega,by omega,by omega,by omega,by omega,by omega,by omega,by omega,by omega,by omega,hq,hz,by omega,by omega,by omega,by omega,fun _ => ⟨by simpa using hr,by omega,hl⟩⟩]
     ·rw [if_neg hl,soundB_false (fun h => hl (h.nine f9).2.2)]
    ·rw [if_neg f9,soundB_true ⟨by omega,by omega,by omega,by omega,by omega,by omega,by omega,by omega,by omega,by omega,by omega,by omega,hq,hz,by omega,by omega,by omega,by omega,fun h => absurd h f9⟩]
   ·have hxr : (x != (s.run == 0)) = true:=by
     cases x with
     | true => rw [beq_eq_false_iff_ne.mpr (fun h => hq ⟨fun _ => hx.1 rfl,fun _ => h⟩)];rfl
     | false => rw [beq_iff_eq.mpr (by by_cases h : s.run = 0;exact h;exact absurd ⟨fun h2 => absurd h2 h,fun h2 => by have:=hx.2 h2;cases this⟩ hq)];rfl
    rw [hxr,if_pos rfl,soundB_false (fun h => hq h.q)]
  by_cases f1e : s.field = 1
  ·rw [if_pos f1e];exact quiet true ⟨fun _ => .inl f1e,fun _ => rfl⟩
  ·rw [if_neg f1e];exact quiet _ ⟨fun h => .inr (of_decide_eq_true h),fun h => decide_eq_true (by rcases h with h | h;exact absurd h f1e;exact h)⟩
 by_cases hr : s.run = 0
 ·rw [if_pos hr]
  by_cases hl : s.level = 1
  ·rw [beq_iff_eq.mpr hl,j3t,soundB_false (fun h => by have:=h.z hr;omega)]
  ·rw [beq_eq_false_iff_ne.mpr hl];exact rest (fun _ => by omega)
 ·rw [if_neg hr];exact rest (fun h => absurd h hr)
theorem verdictSp (k : Nat) (s : SS) (b : Int) : spec_l2verdict.f (k + 1) s.field s.left s.run s.level s.crc s.acc s.ext s.id s.rtr s.dlc s.data b = some (verdictV s b):=by
 unfold spec_l2verdict.f verdictV
 by_cases c1 : s.field = 1
 ·rw [if_pos c1]
  by_cases cb : b = 1
  ·rw [if_pos cb,if_pos (.inl ⟨c1,cb⟩)]
  ·rw [if_neg cb,if_neg (by omega),if_neg (by omega),if_pos (by omega)]
 rw [if_neg c1]
 by_cases c11 : s.field = 11
 ·rw [if_pos c11]
  by_cases cb : b = 0
  ·rw [if_pos cb,if_pos (.inr ⟨.inl c11,cb⟩)]
  ·rw [if_neg cb,if_neg (by omega),if_neg (by omega),if_pos (by omega)]
 rw [if_neg c11]
 by_cases c13 : s.field = 13
 ·rw [if_pos c13]
  by_cases cb : b = 0
  ·rw [if_pos cb,if_pos (.inr ⟨.inr c13,cb⟩)]
  ·rw [if_neg cb,if_neg (show ¬ ((s.field = 1 ∧ b = 1) ∨ ((s.field = 11 ∨ s.field = 13) ∧ b = 0)) by omega)]
   by_cases ca : s.acc = s.crc
   ·rw [if_pos ca,if_neg (fun h => h.2 ca),if_pos (by omega)]
   ·rw [if_neg ca,if_pos ⟨c13,ca⟩]
 rw [if_neg c13,if_neg (show ¬ ((s.field = 1 ∧ b = 1) ∨ ((s.field = 11 ∨ s.field = 13) ∧ b = 0)) by omega),if_neg (show ¬ (s.field = 13 ∧ s.acc ≠ s.crc) from fun h => c13 h.1)]
 by_cases c14 : s.field = 14
 ·rw [if_pos c14,if_neg (show ¬ (s.field ≠ 14) from fun h => h c14)]
  have j : ∀ x : Bool,(x = true ↔ (b = 0 ∧ 1 < s.left)) → spec_l2verdict.j0 (k + 1) b x s.field s.left s.run s.level s.crc s.acc s.ext s.id s.rtr s.dlc s.data = some (if b = 0 ∧ 1 < s.left then 4 else if b = 0 then 6 else if s.left = 2 then 1 else if s.left = 1 then 2 else 0):=by
   intro x hx
   simp only [spec_l2verdict.j0]
   by_cases c : x = true
   ·rw [if_pos c,if_pos (hx.1 c)]
   rw [if_neg c,if_neg (fun h => c (hx.2 h))]
   by_cases cb : b = 0
   ·rw [if_pos cb,if_pos cb]
   rw [if_neg cb,if_neg cb]
   by_cases c2 : s.left = 2
   ·rw [if_pos c2,if_pos c2]
   rw [if_neg c2,if_neg c2]
   by_cases c3 : s.left = 1
   ·rw [if_pos c3,if_pos c3]
   ·rw [if_neg c3,if_neg c3]
  by_cases cb : b = 0
  ·rw [if_pos cb];exact j _ ⟨fun h => ⟨cb,of_decide_eq_true h⟩,fun h => decide_eq_true h.2⟩
  ·rw [if_neg cb];exact j false ⟨fun h => (by cases h),fun h => absurd h.1 cb⟩
 ·rw [if_neg c14,if_pos c14]
theorem crcSp {r b : Int} (h0 : 0 ≤ r) (h1 : r < 32768) (hb : b = 0 ∨ b = 1) : spec_l2crc.f r b = some (crcI r b):=by
 obtain ⟨n,rfl⟩ : ∃ n : Nat,r = (n : Int):=⟨r.toNat,by omega⟩
 have e1 : wrap64 (Int.tdiv (n : Int) 16384) = ((n / 16384 : Nat) : Int):=by rw [Int.tdiv_eq_ediv_of_nonneg (by omega),w64 (by omega) (by omega)];rfl
 have e2 : wrap64 ((n : Int) * 2) = ((n * 2 : Nat) : Int):=by rw [w64 (by omega) (by omega)];rfl
 have e3 : Int.tmod ((n * 2 : Nat) : Int) 32768 = ((n * 2 % 32768 : Nat) : Int):=by rw [Int.tmod_eq_emod_of_nonneg (by omega)];rfl
 have e4 : Go.bits .and .i64 ((n : Int) / 16384) 1 = ((n / 16384 : Nat) : Int):=by
  have h:=bits_and_i64 (n / 16384) 1 (by omega) (by decide)
  have h2 : (n / 16384) &&& 1 = n / 16384:=by rw [show (1 : Nat) = 2 ^ 1 - 1 from rfl,Nat.and_two_pow_sub_one_eq_mod];omega
  rw [h2] at h
  exact h
 have e5 : Go.bits .and .i64 ((n * 2 : Nat) : Int) 32767 = ((n * 2 % 32768 : Nat) : Int):=by
  have h:=bits_and_i64 (n * 2) 32767 (by omega) (by decide)
  have h2 : (n * 2) &&& 32767 = n * 2 % 32768:=by rw [show (32767 : Nat) = 2 ^ 15 - 1 from rfl,Nat.and_two_pow_sub_one_eq_mod]
  rw [h2] at h
  exact h
 unfold spec_l2crc.f crcI
 rw [e1,e2,e3,e4,e5]
 by_cases c : Go.bits .xor .i64 ((n / 16384 : Nat) : Int) b = 1
 ·rw [if_pos c,if_pos c]
 ·rw [if_neg c,if_neg c]
theorem afterSp (k : Nat) {s : SS} (f0 : 1 ≤ s.field) (f1 : s.field ≤ 14) : spec_l2after.f (k + 1) s.field s.ext s.id s.rtr s.dlc s.data = some (afterF s):=by
 unfold spec_l2after.f afterF
 have tab : ¬ (s.field = 4 ∧ s.ext = false) → ¬ (s.field = 8 ∧ (s.rtr = true ∨ s.dlc = 0)) → wrap64 (s.field + 1) = rowsL.getD (s.field.toNat * 2 + 1) 0:=by
  intro _ _
  obtain ⟨n,hn⟩ : ∃ n : Nat,s.field = (n : Int):=⟨s.field.toNat,by omega⟩
  rw [w64 (by omega) (by omega),hn,Int.toNat_natCast]
  have : ∀ m : Fin 15,1 ≤ m.val → (m.val : Int) + 1 = rowsL.getD (m.val * 2 + 1) 0:=by decide
  exact this ⟨n,by omega⟩ (by show 1 ≤ n;omega)
 have j : ∀ x : Bool,(x = true ↔ (s.field = 4 ∧ s.ext = false)) → spec_l2after.j0 (k + 1) s.field x s.ext s.id s.rtr s.dlc s.data = some (if s.field = 4 ∧ s.ext = false then 7 else if s.field = 8 ∧ (s.rtr = true ∨ s.dlc = 0) then 10 else rowsL.getD (s.field.toNat * 2 + 1) 0):=by
  intro x hx
  simp only [spec_l2after.j0]
  by_cases c : x = true
  ·rw [if_pos c,if_pos (hx.1 c)]
  have hn : ¬ (s.field = 4 ∧ s.ext = false):=fun h => c (hx.2 h)
  rw [if_neg c,if_neg hn]
  by_cases c8 : s.field = 8
  ·rw [if_pos c8]
   by_cases cr : s.rtr = true
   ·rw [if_pos cr,if_pos ⟨c8, .inl cr⟩]
   rw [if_neg cr]
   by_cases cd : s.dlc = 0
   ·rw [if_pos cd,if_pos ⟨c8, .inr cd⟩]
   have hm : ¬ (s.field = 8 ∧ (s.rtr = true ∨ s.dlc = 0)):=by rintro ⟨_,h | h⟩;exact cr h;exact cd h
   rw [if_neg cd,if_neg hm,tab hn hm]
  ·have hm : ¬ (s.field = 8 ∧ (s.rtr = true ∨ s.dlc = 0)):=fun h => c8 h.1
   rw [if_neg c8,if_neg hm,tab hn hm]
 by_cases c4 : s.field = 4
 ·rw [if_pos c4];exact j _ ⟨fun h => ⟨c4,by simpa using h⟩,fun h => by rw [h.2];rfl⟩
 ·rw [if_neg c4];exact j false ⟨fun h => (by cases h),fun h => absurd h.1 c4⟩
theorem copySp {s : SS} (h : s.data.length ≤ 8) : Ev (fun k => spec_l2copy.f k s.field s.left s.run s.level s.crc s.acc s.ext s.id s.rtr s.dlc s.data) (s.field,s.left,s.run,s.level,s.crc,s.acc,s.ext,s.id,s.rtr,s.dlc,s.data):=by
 have loop : ∀ (d i : Nat),i + d = s.data.length → Ev (fun k => spec_l1copyFrame.l0 k (s.data.take i) (i : Int) s.ext s.id s.rtr s.dlc s.data) (s.ext,s.id,s.rtr,s.dlc,s.data):=by
  intro d
  induction d with
  | zero =>
   intro i hi
   refine Ev.step (f:=fun _ => some (s.ext,s.id,s.rtr,s.dlc,s.data)) (fun k => ?_) (Ev.now _)
   simp only [spec_l1copyFrame.l0]
   rw [if_neg (by omega),List.take_of_length_le (by omega)]
  | succ d ih =>
   intro i hi
   refine Ev.step (f:=fun k => spec_l1copyFrame.l0 k (s.data.take (i + 1)) ((i + 1 : Nat) : Int) s.ext s.id s.rtr s.dlc s.data) (fun k => ?_) (ih (i + 1) (by omega))
   simp only [spec_l1copyFrame.l0]
   have ht : s.data.take i ++ [rd s.data (i : Int)] = s.data.take (i + 1):=by
    have hg:=rd_get s.data i (by omega)
    rw [List.take_add_one,hg];rfl
   rw [if_pos (by omega),if_pos (by omega),if_pos (by rw [List.length_take];omega),ht,w64 (x:=(i : Int) + 1) (by omega) (by omega)]
   rfl
 unfold spec_l2copy.f spec_l1copyFrame.f
 exact Ev.bind (loop s.data.length 0 (by omega)) (Ev.now _)
theorem takeS_frame (s : SS) (b : Int) : takeS s b = { s with ext:=(takeS s b).ext,id:=(takeS s b).id,rtr:=(takeS s b).rtr,dlc:=(takeS s b).dlc,data:=(takeS s b).data,acc:=(takeS s b).acc }:=by
 unfold takeS
 (repeat' split) <;> rfl
theorem takeS_acc {s : SS} (a0 : 0 ≤ s.acc) (a1 : s.acc ≤ 32767) (b : Int) (hb : b = 0 ∨ b = 1) : (takeS s b).acc = if s.field = 10 then (2 * s.acc + b) % 32768 else s.acc:=by
 unfold takeS
 by_cases h : s.field = 10
 ·rw [if_neg (by omega),if_neg (by omega),if_neg (by omega),if_neg (by omega),if_neg (by omega),if_pos h,if_pos h]
 ·rw [if_neg h]
  (repeat' split) <;> first | rfl | omega
theorem level_eq {s : SS} {r B : Int} (h : s.level = B) : ({ s with run:=r } : SS) = { s with run:=r,level:=B }:=by subst h;rfl
end Go.Proofs.YtdoclpgciadjaaaDoor.P

namespace Go.Proofs.YtdoclpgciadjaaaDoor.P
open Go.RowKit Go.Proofs.YtdoclpgciadjaaaDoorW.PrintWords Go.Proofs.YtdoclpgciadjaaaDoorW.PrintLast Go.Proofs.YtdoclpgciadjaaaDoorW.PrintMore
set_option linter.unusedVariables false
set_option linter.unusedSimpArgs false
structure SpO (w w1 : World) (s : SS) (v0 : Value) (g : Nat) (T : SS) (v : Value) : Prop where
 box : w1.heap[w.heap.size]? = some (objS s v0)
 res : w1.heap[w.heap.size + 1]? = some (objS zeroS (.slice none 0 0))
 loc : w1.heap[g]? = some (objS T v)
 gg : w.heap.size + 1 < g
 below : Below w.heap.size w w1
 row : Kd.R (Kd.int .u8) 5 w1 w.heap.size (fun k => w.heap.size + 1 < k ∧ k ≠ g) v T.data
theorem SpO.lt {w w1 : World} {s T : SS} {v0 v : Value} {g : Nat} (h : SpO w w1 s v0 g T v) : w.heap.size + 1 < w1.heap.size:=(Array.getElem?_eq_some_iff.1 h.res).1
theorem SpO.glt {w w1 : World} {s T : SS} {v0 v : Value} {g : Nat} (h : SpO w w1 s v0 g T v) : g < w1.heap.size:=(Array.getElem?_eq_some_iff.1 h.loc).1
theorem SpO.step {w w1 w2 : World} {s T : SS} {v0 v : Value} {g : Nat} (h : SpO w w1 s v0 g T v) (hb : Below w1.heap.size w1 w2) : SpO w w2 s v0 g T v :=
 ⟨blk_below h.box hb,blk_below h.res hb,blk_below h.loc hb,h.gg,h.below.trans (hb.mono (by have:=h.lt;omega)),Kd.R_below h.row hb⟩
theorem SpO.put {w w1 : World} {s T T' : SS} {v0 v : Value} {g : Nat} (h : SpO w w1 s v0 g T v) {j : Nat} {u : Value} (ho : (w1.setCell ⟨g,j,none⟩ u).heap[g]? = some (objS T' v)) (hd : T'.data = T.data) : SpO w (w1.setCell ⟨g,j,none⟩ u) s v0 g T' v:=by
 have hgg:=h.gg
 exact ⟨(Below.heap_setCell _ _ _ _ (show w.heap.size ≠ g by omega)).trans h.box,(Below.heap_setCell _ _ _ _ (show w.heap.size + 1 ≠ g by omega)).trans h.res,ho,h.gg,h.below.setCell (by show w.heap.size ≤ g;omega) _,by rw [hd];exact Kd.R_step h.row (fun k hk _ => Below.heap_setCell _ _ _ k hk.2)⟩
theorem SpO.startT {w w1 w2 : World} {s T : SS} {v0 v : Value} (h : SbIn w w1 s v0) (hb : Below w1.heap.size w1 w2) (hr : Kd.R (Kd.int .u8) 5 w2 w1.heap.size (fun _ => True) v s.data) (hd : T.data = s.data) : SpO w (w2.alloc (objS T v)) s v0 w2.heap.size T v:=by
 have hlt:=h.lt
 have h2:=h.step hb
 have hsz:=hb.size
 refine ⟨blk_alloc h2.box _,blk_alloc h2.res _,blk_new _ _,by omega,h2.below.alloc (by omega) _, ?_⟩
 rw [hd]
 refine Kd.R_alloc (Kd.R_mono (Kd.R_lower (Kd.R_bound hr) (by omega)) (fun k hk => ?_)) _
 have h3:=hk.2.1
 have h4:=hk.2.2.1
 exact ⟨by omega,by omega⟩
theorem SpO.start {w w1 w2 : World} {s : SS} {v0 v : Value} (h : SbIn w w1 s v0) (hb : Below w1.heap.size w1 w2) (hr : Kd.R (Kd.int .u8) 5 w2 w1.heap.size (fun _ => True) v s.data) : SpO w (w2.alloc (objS s v)) s v0 w2.heap.size s v:=SpO.startT h hb hr rfl
theorem SpO.took {w w1 w2 : World} {s T T' : SS} {v0 v v' : Value} {g : Nat} (h : SpO w w1 s v0 g T v) (hr : Kd.R (Kd.int .u8) 5 w2 w.heap.size (fun k => w.heap.size + 1 < k ∧ k ≠ g) v' T'.data) (ht : Tch w1 w2 (fun k => w.heap.size + 1 < k ∧ k ≠ g)) (he : T' = { T with ext:=T'.ext,id:=T'.id,rtr:=T'.rtr,dlc:=T'.dlc,data:=T'.data }) :
  SpO w (((((w2.setCell ⟨g,6,none⟩ (.bool T'.ext)).setCell ⟨g,7,none⟩ (.int .u32 T'.id)).setCell ⟨g,8,none⟩ (.bool T'.rtr)).setCell ⟨g,9,none⟩ (.int .i64 T'.dlc)).setCell ⟨g,10,none⟩ v') s v0 g T' v':=by
 have hgg:=h.gg
 have hlt:=h.lt
 have hglt:=h.glt
 have hbox : w2.heap[w.heap.size]? = some (objS s v0):=(ht.block (by omega) (by rintro ⟨e,_⟩;omega)).trans h.box
 have hres : w2.heap[w.heap.size + 1]? = some (objS zeroS (.slice none 0 0)):=(ht.block (by omega) (by rintro ⟨e,_⟩;omega)).trans h.res
 have hloc : w2.heap[g]? = some (objS T v):=(ht.block hglt (by rintro ⟨_,e⟩;exact e rfl)).trans h.loc
 have hbel : Below w.heap.size w w2:=ht.below h.below h.below.size (fun k hk => by omega)
 have ne0 : w.heap.size ≠ g:=by omega
 have ne1 : w.heap.size + 1 ≠ g:=by omega
 have l5:=setS10 (setS9 (setS8 (setS7 (setS6 hloc T'.ext) T'.id) T'.rtr) T'.dlc) v'
 refine ⟨?_, ?_, ?_,hgg, ?_, ?_⟩
 ·rw [Below.heap_setCell _ _ _ _ ne0,Below.heap_setCell _ _ _ _ ne0,Below.heap_setCell _ _ _ _ ne0,Below.heap_setCell _ _ _ _ ne0,Below.heap_setCell _ _ _ _ ne0];exact hbox
 ·rw [Below.heap_setCell _ _ _ _ ne1,Below.heap_setCell _ _ _ _ ne1,Below.heap_setCell _ _ _ _ ne1,Below.heap_setCell _ _ _ _ ne1,Below.heap_setCell _ _ _ _ ne1];exact hres
 ·rw [he];exact l5
 ·exact ((((hbel.setCell (by show w.heap.size ≤ g;omega) _).setCell (by show w.heap.size ≤ g;omega) _).setCell (by show w.heap.size ≤ g;omega) _).setCell (by show w.heap.size ≤ g;omega) _).setCell (by show w.heap.size ≤ g;omega) _
 ·have st : ∀ {W : World} (j : Nat) (u : Value),Kd.R (Kd.int .u8) 5 W w.heap.size (fun k => w.heap.size + 1 < k ∧ k ≠ g) v' T'.data → Kd.R (Kd.int .u8) 5 (W.setCell ⟨g,j,none⟩ u) w.heap.size (fun k => w.heap.size + 1 < k ∧ k ≠ g) v' T'.data:=fun j u hR => Kd.R_step hR (fun k hk _ => Below.heap_setCell _ _ _ k hk.2)
  exact st _ _ (st _ _ (st _ _ (st _ _ (st _ _ hr))))
theorem SpO.nil {w w1 : World} {s T : SS} {v0 v : Value} {g : Nat} (h : SpO w w1 s v0 g T v) : SpO w ((w1.alloc (.cells #[] 5)).setCell ⟨g,10,none⟩ (.slice (some ⟨w1.heap.size,0,none⟩) 0 0)) s v0 g { T with data := [] } (.slice (some ⟨w1.heap.size,0,none⟩) 0 0):=by
 have hlt:=h.lt
 have hglt:=h.glt
 have hgg:=h.gg
 have hb:=setS10 (blk_alloc h.loc (.cells #[] 5)) (.slice (some ⟨w1.heap.size,0,none⟩) 0 0)
 refine ⟨(Below.heap_setCell _ _ _ _ (show w.heap.size ≠ g by omega)).trans (blk_alloc h.box _),(Below.heap_setCell _ _ _ _ (show w.heap.size + 1 ≠ g by omega)).trans (blk_alloc h.res _),hb,hgg,(h.below.alloc (by omega) _).setCell (by show w.heap.size ≤ g;omega) _, ?_⟩
 exact Kd.R_step (R_empty (Kd.int .u8) w1 5 w.heap.size (by omega) _ ⟨by omega,by omega⟩) (fun k hk _ => Below.heap_setCell _ _ _ k hk.2)
theorem SpO.frame {w w1 : World} {s T : SS} {v0 v : Value} {g : Nat} (h : SpO w w1 s v0 g T v) : ∀ k,w1.heap.size ≤ k → (w.heap.size + 1 < k ∧ k ≠ g):=fun k hk => ⟨by have:=h.lt;omega,by have:=h.glt;omega⟩
set_option maxRecDepth 100000 in
theorem spec_no (w : World) (s : SS) (A : Option Addr) (c : Nat) (hr : Kd.C (Kd.int .u8) w A s.data.length s.data) (hc : s.data.length ≤ c) (b : Int) (hs : soundB s = false ∨ (b ≠ 0 ∧ b ≠ 1)) :
  Calls Tryd.prog 6 #[.agg #[.int .i64 s.field, .int .i64 s.left, .int .i64 s.run, .int .i64 s.level, .int .i64 s.crc, .int .i64 s.acc, .bool s.ext, .int .u32 s.id, .bool s.rtr, .int .i64 s.dlc,(.slice A s.data.length c)], .int .i64 b] w fun e w' => e = .returned (.tuple #[.agg #[.int .i64 0, .int .i64 0, .int .i64 0, .int .i64 0, .int .i64 0, .int .i64 0, .bool false, .int .u32 0, .bool false, .int .i64 0, .slice none 0 0], .int .i64 8]) ∧ Below w.heap.size w w':=by
 have HR:=Lib.hid hr
 have HC:=Lib.hid hc
 clear hr hc
 cases hsb : soundB s with
 | false =>
  have HSB : Hid (spec_l2sound.f 6 s.field s.left s.run s.level s.crc s.acc s.ext s.id s.rtr s.dlc s.data = some false):=Lib.hid ((soundSp 0 s).trans (by rw [hsb]))
  clear hs hsb
  go_enter Tryd.func6,Tryd.ntmps6
  go_wp2_with (fail)
  (refine (spec_l2sound.calls 6 s.field s.left s.run s.level s.crc s.acc s.ext s.id s.rtr s.dlc A c s.data false _ (Kd.C_alloc (Kd.C_alloc HR.out _) _) HC.out HSB.out).mono ?_;rintro e w1 ⟨rfl,hb1⟩;have HW1:=Lib.hid ((SbIn.start w s (.slice A s.data.length c)).step hb1);clear hb1)
  go_wp2_with ((with_reducible refine gate_store (t:=31) (p:=4) rfl ?_);refine store_box rfl rfl rfl (g:=w.heap.size + 1) (j:=0) (cs := #[.int .i64 0, .int .i64 0, .int .i64 0, .int .i64 0, .int .i64 0, .int .i64 0, .bool false, .int .u32 0, .bool false, .int .i64 0, .slice none 0 0]) (cs' := #[.int .i64 0, .int .i64 0, .int .i64 0, .int .i64 0, .int .i64 0, .int .i64 0, .bool false, .int .u32 0, .bool false, .int .i64 0, .slice none 0 0]) (T:=31) (u := .agg #[.int .i64 0, .int .i64 0, .int .i64 0, .int .i64 0, .int .i64 0, .int .i64 0, .bool false, .int .u32 0, .bool false, .int .i64 0, .slice none 0 0]) (seg := [.int .i64 0, .int .i64 0, .int .i64 0, .int .i64 0, .int .i64 0, .int .i64 0, .bool false, .int .u32 0, .bool false, .int .i64 0, .slice none 0 0]) rfl rfl HW1.out.res rfl (by kernel_rfl) rfl rfl rfl ?_;intro wz hx hT;have HX:=Lib.hid hx;have HTZ:=Lib.hid hT;have HBz:=Lib.hid (hT.below HW1.out.below HW1.out.below.size (fun k hk => by omega));clear hx hT)
  refine bodyPost_ret (results_ct rfl _ _ (w.heap.size + 1) 31 #[.int .i64 0, .int .i64 0, .int .i64 0, .int .i64 0, .int .i64 0, .int .i64 0, .bool false, .int .u32 0, .bool false, .int .i64 0, .slice none 0 0] (0,0) _ rfl HX.out Tryd.underlying31 rfl (by kernel_rfl)) rfl ?_
  exact ⟨rfl,HBz.out⟩
 | true =>
  have hb2 : b ≠ 0 ∧ b ≠ 1:=by rcases hs with h | h;rw [h] at hsb;cases hsb;exact h
  have b0 : (b != 0) = true:=bne_iff_ne.mpr hb2.1
  have b1 : (b != 1) = true:=bne_iff_ne.mpr hb2.2
  have HSB : Hid (spec_l2sound.f 6 s.field s.left s.run s.level s.crc s.acc s.ext s.id s.rtr s.dlc s.data = some true):=Lib.hid ((soundSp 0 s).trans (by rw [hsb]))
  clear hs hsb hb2
  go_enter Tryd.func6,Tryd.ntmps6
  go_wp2_with (fail)
  (refine (spec_l2sound.calls 6 s.field s.left s.run s.level s.crc s.acc s.ext s.id s.rtr s.dlc A c s.data true _ (Kd.C_alloc (Kd.C_alloc HR.out _) _) HC.out HSB.out).mono ?_;rintro e w1 ⟨rfl,hb1⟩;have HW1:=Lib.hid ((SbIn.start w s (.slice A s.data.length c)).step hb1);clear hb1)
  go_wp2_with ((with_reducible refine gate_store (t:=31) (p:=4) rfl ?_);refine store_box rfl rfl rfl (g:=w.heap.size + 1) (j:=0) (cs := #[.int .i64 0, .int .i64 0, .int .i64 0, .int .i64 0, .int .i64 0, .int .i64 0, .bool false, .int .u32 0, .bool false, .int .i64 0, .slice none 0 0]) (cs' := #[.int .i64 0, .int .i64 0, .int .i64 0, .int .i64 0, .int .i64 0, .int .i64 0, .bool false, .int .u32 0, .bool false, .int .i64 0, .slice none 0 0]) (T:=31) (u := .agg #[.int .i64 0, .int .i64 0, .int .i64 0, .int .i64 0, .int .i64 0, .int .i64 0, .bool false, .int .u32 0, .bool false, .int .i64 0, .slice none 0 0]) (seg := [.int .i64 0, .int .i64 0, .int .i64 0, .int .i64 0, .int .i64 0, .int .i64 0, .bool false, .int .u32 0, .bool false, .int .i64 0, .slice none 0 0]) rfl rfl HW1.out.res rfl (by kernel_rfl) rfl rfl rfl ?_;intro wz hx hT;have HX:=Lib.hid hx;have HTZ:=Lib.hid hT;have HBz:=Lib.hid (hT.below HW1.out.below HW1.out.below.size (fun k hk => by omega));clear hx hT)
  refine bodyPost_ret (results_ct rfl _ _ (w.heap.size + 1) 31 #[.int .i64 0, .int .i64 0, .int .i64 0, .int .i64 0, .int .i64 0, .int .i64 0, .bool false, .int .u32 0, .bool false, .int .i64 0, .slice none 0 0] (0,0) _ rfl HX.out Tryd.underlying31 rfl (by kernel_rfl)) rfl ?_
  exact ⟨rfl,HBz.out⟩
set_option maxRecDepth 100000 in
theorem spec_stuff_0 (w : World) (s : SS) (A : Option Addr) (c : Nat) (hr : Kd.C (Kd.int .u8) w A s.data.length s.data) (hc : s.data.length ≤ c) (hs : Sound s) (h5 : s.run = 5) (hl : 0 = s.level) :
  Calls Tryd.prog 6 #[.agg #[.int .i64 s.field, .int .i64 s.left, .int .i64 s.run, .int .i64 s.level, .int .i64 s.crc, .int .i64 s.acc, .bool s.ext, .int .u32 s.id, .bool s.rtr, .int .i64 s.dlc,(.slice A s.data.length c)], .int .i64 0] w fun e w' => e = .returned (.tuple #[.agg #[.int .i64 0, .int .i64 0, .int .i64 0, .int .i64 0, .int .i64 0, .int .i64 0, .bool false, .int .u32 0, .bool false, .int .i64 0, .slice none 0 0], .int .i64 3]) ∧ Below w.heap.size w w':=by
 have HR:=Lib.hid hr
 have HC:=Lib.hid hc
 clear hr hc
 have HS:=Lib.hid hs
 obtain ⟨K,hcp⟩:=(copySp (s:=s) (by have:=hs.dl;omega)).rounds
 have HCP : Hid (spec_l2copy.f K s.field s.left s.run s.level s.crc s.acc s.ext s.id s.rtr s.dlc s.data = some (s.field,s.left,s.run,s.level,s.crc,s.acc,s.ext,s.id,s.rtr,s.dlc,s.data)):=Lib.hid hcp
 have HSB : Hid (spec_l2sound.f 6 s.field s.left s.run s.level s.crc s.acc s.ext s.id s.rtr s.dlc s.data = some true):=Lib.hid ((soundSp 0 s).trans (by rw [soundB_true hs]))
 have b5 : (s.run == 5) = true:=beq_iff_eq.mpr h5
 have bl : (0 == s.level) = true:=beq_iff_eq.mpr hl
 clear hs h5 hl
 clear hcp
 go_enter Tryd.func6,Tryd.ntmps6
 go_wp2_with (fail)
 (refine (spec_l2sound.calls 6 s.field s.left s.run s.level s.crc s.acc s.ext s.id s.rtr s.dlc A c s.data true _ (Kd.C_alloc (Kd.C_alloc HR.out _) _) HC.out HSB.out).mono ?_;rintro e w1 ⟨rfl,hb1⟩;have HW1:=Lib.hid ((SbIn.start w s (.slice A s.data.length c)).step hb1);clear hb1)
 obtain ⟨hx0,hx1,hx2,hx3,hx4,hx5,hx6,hx7,hx8,hx9,hx10⟩:=cSall HW1.out.box
 go_wp2_with (fail)
 clear hx0 hx1 hx2 hx3 hx4 hx5 hx6 hx7 hx8 hx9 hx10
 (refine (spec_l2copy.calls K s.field s.left s.run s.level s.crc s.acc s.ext s.id s.rtr s.dlc A c s.data s.field s.left s.run s.level s.crc s.acc s.ext s.id s.rtr s.dlc s.data _ (Kd.C_below HR.out HW1.out.below) HC.out HCP.out).mono ?_;rintro e w2 ⟨v2,rfl,hr2,hb2⟩;obtain ⟨A2,c2,rfl⟩:=Kd.R_slice hr2;have HW3:=Lib.hid (SpO.start HW1.out hb2 hr2);have hne0 : w.heap.size ≠ w2.heap.size:=(by have:=HW3.out.gg;omega);have hne1 : w2.heap.size ≠ w.heap.size:=(by omega);have hne2 : w.heap.size + 1 ≠ w2.heap.size:=(by have:=HW3.out.gg;omega);have hne3 : w2.heap.size ≠ w.heap.size + 1:=(by omega);have HB2:=Lib.hid hb2;have HR2:=Lib.hid hr2;clear hr2 hb2)
 have hx:=cSall HW3.out.box
 unfold objS cellsS at hx
 obtain ⟨hx0,hx1,hx2,hx3,hx4,hx5,hx6,hx7,hx8,hx9,hx10⟩:=hx
 go_wp2_with ((with_reducible refine gate_store (t:=31) (p:=4) rfl ?_);refine store_box rfl rfl rfl (g:=w.heap.size + 1) (j:=0) (cs := #[.int .i64 0, .int .i64 0, .int .i64 0, .int .i64 0, .int .i64 0, .int .i64 0, .bool false, .int .u32 0, .bool false, .int .i64 0, .slice none 0 0]) (cs' := #[.int .i64 0, .int .i64 0, .int .i64 0, .int .i64 0, .int .i64 0, .int .i64 0, .bool false, .int .u32 0, .bool false, .int .i64 0, .slice none 0 0]) (T:=31) (u := .agg #[.int .i64 0, .int .i64 0, .int .i64 0, .int .i64 0, .int .i64 0, .int .i64 0, .bool false, .int .u32 0, .bool false, .int .i64 0, .slice none 0 0]) (seg := [.int .i64 0, .int .i64 0, .int .i64 0, .int .i64 0, .int .i64 0, .int .i64 0, .bool false, .int .u32 0, .bool false, .int .i64 0, .slice none 0 0]) rfl rfl HW3.out.res rfl (by kernel_rfl) rfl rfl rfl ?_;intro wz hx hT;have HX:=Lib.hid hx;have HTZ:=Lib.hid hT;have HBz:=Lib.hid (hT.below HW3.out.below HW3.out.below.size (fun k hk => by omega));clear hx hT)
 refine bodyPost_ret (results_ct rfl _ _ (w.heap.size + 1) 31 #[.int .i64 0, .int .i64 0, .int .i64 0, .int .i64 0, .int .i64 0, .int .i64 0, .bool false, .int .u32 0, .bool false, .int .i64 0, .slice none 0 0] (0,0) _ rfl HX.out Tryd.underlying31 rfl (by kernel_rfl)) rfl ?_
 exact ⟨rfl,HBz.out⟩
set_option maxRecDepth 100000 in
theorem spec_stuff_1 (w : World) (s : SS) (A : Option Addr) (c : Nat) (hr : Kd.C (Kd.int .u8) w A s.data.length s.data) (hc : s.data.length ≤ c) (hs : Sound s) (h5 : s.run = 5) (hl : 1 = s.level) :
  Calls Tryd.prog 6 #[.agg #[.int .i64 s.field, .int .i64 s.left, .int .i64 s.run, .int .i64 s.level, .int .i64 s.crc, .int .i64 s.acc, .bool s.ext, .int .u32 s.id, .bool s.rtr, .int .i64 s.dlc,(.slice A s.data.length c)], .int .i64 1] w fun e w' => e = .returned (.tuple #[.agg #[.int .i64 0, .int .i64 0, .int .i64 0, .int .i64 0, .int .i64 0, .int .i64 0, .bool false, .int .u32 0, .bool false, .int .i64 0, .slice none 0 0], .int .i64 3]) ∧ Below w.heap.size w w':=by
 have HR:=Lib.hid hr
 have HC:=Lib.hid hc
 clear hr hc
 have HS:=Lib.hid hs
 obtain ⟨K,hcp⟩:=(copySp (s:=s) (by have:=hs.dl;omega)).rounds
 have HCP : Hid (spec_l2copy.f K s.field s.left s.run s.level s.crc s.acc s.ext s.id s.rtr s.dlc s.data = some (s.field,s.left,s.run,s.level,s.crc,s.acc,s.ext,s.id,s.rtr,s.dlc,s.data)):=Lib.hid hcp
 have HSB : Hid (spec_l2sound.f 6 s.field s.left s.run s.level s.crc s.acc s.ext s.id s.rtr s.dlc s.data = some true):=Lib.hid ((soundSp 0 s).trans (by rw [soundB_true hs]))
 have b5 : (s.run == 5) = true:=beq_iff_eq.mpr h5
 have bl : (1 == s.level) = true:=beq_iff_eq.mpr hl
 clear hs h5 hl
 clear hcp
 go_enter Tryd.func6,Tryd.ntmps6
 go_wp2_with (fail)
 (refine (spec_l2sound.calls 6 s.field s.left s.run s.level s.crc s.acc s.ext s.id s.rtr s.dlc A c s.data true _ (Kd.C_alloc (Kd.C_alloc HR.out _) _) HC.out HSB.out).mono ?_;rintro e w1 ⟨rfl,hb1⟩;have HW1:=Lib.hid ((SbIn.start w s (.slice A s.data.length c)).step hb1);clear hb1)
 obtain ⟨hx0,hx1,hx2,hx3,hx4,hx5,hx6,hx7,hx8,hx9,hx10⟩:=cSall HW1.out.box
 go_wp2_with (fail)
 clear hx0 hx1 hx2 hx3 hx4 hx5 hx6 hx7 hx8 hx9 hx10
 (refine (spec_l2copy.calls K s.field s.left s.run s.level s.crc s.acc s.ext s.id s.rtr s.dlc A c s.data s.field s.left s.run s.level s.crc s.acc s.ext s.id s.rtr s.dlc s.data _ (Kd.C_below HR.out HW1.out.below) HC.out HCP.out).mono ?_;rintro e w2 ⟨v2,rfl,hr2,hb2⟩;obtain ⟨A2,c2,rfl⟩:=Kd.R_slice hr2;have HW3:=Lib.hid (SpO.start HW1.out hb2 hr2);have hne0 : w.heap.size ≠ w2.heap.size:=(by have:=HW3.out.gg;omega);have hne1 : w2.heap.size ≠ w.heap.size:=(by omega);have hne2 : w.heap.size + 1 ≠ w2.heap.size:=(by have:=HW3.out.gg;omega);have hne3 : w2.heap.size ≠ w.heap.size + 1:=(by omega);have HB2:=Lib.hid hb2;have HR2:=Lib.hid hr2;clear hr2 hb2)
 have hx:=cSall HW3.out.box
 unfold objS cellsS at hx
 obtain ⟨hx0,hx1,hx2,hx3,hx4,hx5,hx6,hx7,hx8,hx9,hx10⟩:=hx
 go_wp2_with ((with_reducible refine gate_store (t:=31) (p:=4) rfl ?_);refine store_box rfl rfl rfl (g:=w.heap.size + 1) (j:=0) (cs := #[.int .i64 0, .int .i64 0, .int .i64 0, .int .i64 0, .int .i64 0, .int .i64 0, .bool false, .int .u32 0, .bool false, .int .i64 0, .slice none 0 0]) (cs' := #[.int .i64 0, .int .i64 0, .int .i64 0, .int .i64 0, .int .i64 0, .int .i64 0, .bool false, .int .u32 0, .bool false, .int .i64 0, .slice none 0 0]) (T:=31) (u := .agg #[.int .i64 0, .int .i64 0, .int .i64 0, .int .i64 0, .int .i64 0, .int .i64 0, .bool false, .int .u32 0, .bool false, .int .i64 0, .slice none 0 0]) (seg := [.int .i64 0, .int .i64 0, .int .i64 0, .int .i64 0, .int .i64 0, .int .i64 0, .bool false, .int .u32 0, .bool false, .int .i64 0, .slice none 0 0]) rfl rfl HW3.out.res rfl (by kernel_rfl) rfl rfl rfl ?_;intro wz hx hT;have HX:=Lib.hid hx;have HTZ:=Lib.hid hT;have HBz:=Lib.hid (hT.below HW3.out.below HW3.out.below.size (fun k hk => by omega));clear hx hT)
 refine bodyPost_ret (results_ct rfl _ _ (w.heap.size + 1) 31 #[.int .i64 0, .int .i64 0, .int .i64 0, .int .i64 0, .int .i64 0, .int .i64 0, .bool false, .int .u32 0, .bool false, .int .i64 0, .slice none 0 0] (0,0) _ rfl HX.out Tryd.underlying31 rfl (by kernel_rfl)) rfl ?_
 exact ⟨rfl,HBz.out⟩
set_option maxRecDepth 100000 in
theorem spec_skip_0 (w : World) (s : SS) (A : Option Addr) (c : Nat) (hr : Kd.C (Kd.int .u8) w A s.data.length s.data) (hc : s.data.length ≤ c) (hs : Sound s) (h5 : s.run = 5) (hl : 0 ≠ s.level) :
  Calls Tryd.prog 6 #[.agg #[.int .i64 s.field, .int .i64 s.left, .int .i64 s.run, .int .i64 s.level, .int .i64 s.crc, .int .i64 s.acc, .bool s.ext, .int .u32 s.id, .bool s.rtr, .int .i64 s.dlc,(.slice A s.data.length c)], .int .i64 0] w fun e w' => ∃ v : Value,e = .returned (.tuple #[.agg #[.int .i64 ({ s with run:=1,level:=0 } : SS).field, .int .i64 ({ s with run:=1,level:=0 } : SS).left, .int .i64 ({ s with run:=1,level:=0 } : SS).run, .int .i64 ({ s with run:=1,level:=0 } : SS).level, .int .i64 ({ s with run:=1,level:=0 } : SS).crc, .int .i64 ({ s with run:=1,level:=0 } : SS).acc, .bool ({ s with run:=1,level:=0 } : SS).ext, .int .u32 ({ s with run:=1,level:=0 } : SS).id, .bool ({ s with run:=1,level:=0 } : SS).rtr, .int .i64 ({ s with run:=1,level:=0 } : SS).dlc,v], .int .i64 0]) ∧ Kd.R (Kd.int .u8) 5 w' w.heap.size (fun _ => True) v ({ s with run:=1,level:=0 } : SS).data ∧ Below w.heap.size w w':=by
 have HR:=Lib.hid hr
 have HC:=Lib.hid hc
 clear hr hc
 have HS:=Lib.hid hs
 obtain ⟨K,hcp⟩:=(copySp (s:=s) (by have:=hs.dl;omega)).rounds
 have HCP : Hid (spec_l2copy.f K s.field s.left s.run s.level s.crc s.acc s.ext s.id s.rtr s.dlc s.data = some (s.field,s.left,s.run,s.level,s.crc,s.acc,s.ext,s.id,s.rtr,s.dlc,s.data)):=Lib.hid hcp
 have HSB : Hid (spec_l2sound.f 6 s.field s.left s.run s.level s.crc s.acc s.ext s.id s.rtr s.dlc s.data = some true):=Lib.hid ((soundSp 0 s).trans (by rw [soundB_true hs]))
 have b5 : (s.run == 5) = true:=beq_iff_eq.mpr h5
 have bl : (0 == s.level) = false:=beq_eq_false_iff_ne.mpr hl
 clear hs h5 hl
 clear hcp
 go_enter Tryd.func6,Tryd.ntmps6
 go_wp2_with (fail)
 (refine (spec_l2sound.calls 6 s.field s.left s.run s.level s.crc s.acc s.ext s.id s.rtr s.dlc A c s.data true _ (Kd.C_alloc (Kd.C_alloc HR.out _) _) HC.out HSB.out).mono ?_;rintro e w1 ⟨rfl,hb1⟩;have HW1:=Lib.hid ((SbIn.start w s (.slice A s.data.length c)).step hb1);clear hb1)
 obtain ⟨hx0,hx1,hx2,hx3,hx4,hx5,hx6,hx7,hx8,hx9,hx10⟩:=cSall HW1.out.box
 go_wp2_with (fail)
 clear hx0 hx1 hx2 hx3 hx4 hx5 hx6 hx7 hx8 hx9 hx10
 (refine (spec_l2copy.calls K s.field s.left s.run s.level s.crc s.acc s.ext s.id s.rtr s.dlc A c s.data s.field s.left s.run s.level s.crc s.acc s.ext s.id s.rtr s.dlc s.data _ (Kd.C_below HR.out HW1.out.below) HC.out HCP.out).mono ?_;rintro e w2 ⟨v2,rfl,hr2,hb2⟩;obtain ⟨A2,c2,rfl⟩:=Kd.R_slice hr2;have HW3:=Lib.hid (SpO.start HW1.out hb2 hr2);have hne0 : w.heap.size ≠ w2.heap.size:=(by have:=HW3.out.gg;omega);have hne1 : w2.heap.size ≠ w.heap.size:=(by omega);have hne2 : w.heap.size + 1 ≠ w2.heap.size:=(by have:=HW3.out.gg;omega);have hne3 : w2.heap.size ≠ w.heap.size + 1:=(by omega);have HB2:=Lib.hid hb2;have HR2:=Lib.hid hr2;clear hr2 hb2)
 have hx:=cSall HW3.out.box
 unfold objS cellsS at hx
 obtain ⟨hx0,hx1,hx2,hx3,hx4,hx5,hx6,hx7,hx8,hx9,hx10⟩:=hx
 have HW5:=Lib.hid (SpO.startT (T := { s with run:=1,level:=0 }) HW1.out HB2.out HR2.out rfl)
 go_wp2_with ((with_reducible refine gate_store (t:=31) (p:=4) rfl ?_);refine store_box rfl rfl rfl (g:=w.heap.size + 1) (j:=0) (cs := #[.int .i64 0, .int .i64 0, .int .i64 0, .int .i64 0, .int .i64 0, .int .i64 0, .bool false, .int .u32 0, .bool false, .int .i64 0, .slice none 0 0]) (cs' := #[.int .i64 s.field, .int .i64 s.left, .int .i64 1, .int .i64 0, .int .i64 s.crc, .int .i64 s.acc, .bool s.ext, .int .u32 s.id, .bool s.rtr, .int .i64 s.dlc,(.slice A2 s.data.length c2)]) (T:=31) (u := .agg #[.int .i64 s.field, .int .i64 s.left, .int .i64 1, .int .i64 0, .int .i64 s.crc, .int .i64 s.acc, .bool s.ext, .int .u32 s.id, .bool s.rtr, .int .i64 s.dlc,(.slice A2 s.data.length c2)]) (seg := [.int .i64 s.field, .int .i64 s.left, .int .i64 1, .int .i64 0, .int .i64 s.crc, .int .i64 s.acc, .bool s.ext, .int .u32 s.id, .bool s.rtr, .int .i64 s.dlc,(.slice A2 s.data.length c2)]) rfl rfl HW5.out.res rfl (by kernel_rfl) rfl rfl rfl ?_;intro wz hx hT;have HX:=Lib.hid hx;have HTZ:=Lib.hid hT;have HBz:=Lib.hid (hT.below HW5.out.below HW5.out.below.size (fun k hk => by omega));clear hx hT)
 refine bodyPost_ret (results_ct rfl _ _ (w.heap.size + 1) 31 #[.int .i64 s.field, .int .i64 s.left, .int .i64 1, .int .i64 0, .int .i64 s.crc, .int .i64 s.acc, .bool s.ext, .int .u32 s.id, .bool s.rtr, .int .i64 s.dlc,(.slice A2 s.data.length c2)] (0,0) _ rfl HX.out Tryd.underlying31 rfl (by kernel_rfl)) rfl ?_
 exact ⟨_,rfl,Kd.R_mono (HTZ.out.R HW5.out.row (fun k hk e => by omega)) (fun _ _ => trivial),HBz.out⟩
set_option maxRecDepth 100000 in
theorem spec_skip_1 (w : World) (s : SS) (A : Option Addr) (c : Nat) (hr : Kd.C (Kd.int .u8) w A s.data.length s.data) (hc : s.data.length ≤ c) (hs : Sound s) (h5 : s.run = 5) (hl : 1 ≠ s.level) :
  Calls Tryd.prog 6 #[.agg #[.int .i64 s.field, .int .i64 s.left, .int .i64 s.run, .int .i64 s.level, .int .i64 s.crc, .int .i64 s.acc, .bool s.ext, .int .u32 s.id, .bool s.rtr, .int .i64 s.dlc,(.slice A s.data.length c)], .int .i64 1] w fun e w' => ∃ v : Value,e = .returned (.tuple #[.agg #[.int .i64 ({ s with run:=1,level:=1 } : SS).field, .int .i64 ({ s with run:=1,level:=1 } : SS).left, .int .i64 ({ s with run:=1,level:=1 } : SS).run, .int .i64 ({ s with run:=1,level:=1 } : SS).level, .int .i64 ({ s with run:=1,level:=1 } : SS).crc, .int .i64 ({ s with run:=1,level:=1 } : SS).acc, .bool ({ s with run:=1,level:=1 } : SS).ext, .int .u32 ({ s with run:=1,level:=1 } : SS).id, .bool ({ s with run:=1,level:=1 } : SS).rtr, .int .i64 ({ s with run:=1,level:=1 } : SS).dlc,v], .int .i64 0]) ∧ Kd.R (Kd.int .u8) 5 w' w.heap.size (fun _ => True) v ({ s with run:=1,level:=1 } : SS).data ∧ Below w.heap.size w w':=by
 have HR:=Lib.hid hr
 have HC:=Lib.hid hc
 clear hr hc
 have HS:=Lib.hid hs
 obtain ⟨K,hcp⟩:=(copySp (s:=s) (by have:=hs.dl;omega)).rounds
 have HCP : Hid (spec_l2copy.f K s.field s.left s.run s.level s.crc s.acc s.ext s.id s.rtr s.dlc s.data = some (s.field,s.left,s.run,s.level,s.crc,s.acc,s.ext,s.id,s.rtr,s.dlc,s.data)):=Lib.hid hcp
 have HSB : Hid (spec_l2sound.f 6 s.field s.left s.run s.level s.crc s.acc s.ext s.id s.rtr s.dlc s.data = some true):=Lib.hid ((soundSp 0 s).trans (by rw [soundB_true hs]))
 have b5 : (s.run == 5) = true:=beq_iff_eq.mpr h5
 have bl : (1 == s.level) = false:=beq_eq_false_iff_ne.mpr hl
 clear hs h5 hl
 clear hcp
 go_enter Tryd.func6,Tryd.ntmps6
 go_wp2_with (fail)
 (refine (spec_l2sound.calls 6 s.field s.left s.run s.level s.crc s.acc s.ext s.id s.rtr s.dlc A c s.data true _ (Kd.C_alloc (Kd.C_alloc HR.out _) _) HC.out HSB.out).mono ?_;rintro e w1 ⟨rfl,hb1⟩;have HW1:=Lib.hid ((SbIn.start w s (.slice A s.data.length c)).step hb1);clear hb1)
 obtain ⟨hx0,hx1,hx2,hx3,hx4,hx5,hx6,hx7,hx8,hx9,hx10⟩:=cSall HW1.out.box
 go_wp2_with (fail)
 clear hx0 hx1 hx2 hx3 hx4 hx5 hx6 hx7 hx8 hx9 hx10
 (refine (spec_l2copy.calls K s.field s.left s.run s.level s.crc s.acc s.ext s.id s.rtr s.dlc A c s.data s.field s.left s.run s.level s.crc s.acc s.ext s.id s.rtr s.dlc s.data _ (Kd.C_below HR.out HW1.out.below) HC.out HCP.out).mono ?_;rintro e w2 ⟨v2,rfl,hr2,hb2⟩;obtain ⟨A2,c2,rfl⟩:=Kd.R_slice hr2;have HW3:=Lib.hid (SpO.start HW1.out hb2 hr2);have hne0 : w.heap.size ≠ w2.heap.size:=(by have:=HW3.out.gg;omega);have hne1 : w2.heap.size ≠ w.heap.size:=(by omega);have hne2 : w.heap.size + 1 ≠ w2.heap.size:=(by have:=HW3.out.gg;omega);have hne3 : w2.heap.size ≠ w.heap.size + 1:=(by omega);have HB2:=Lib.hid hb2;have HR2:=Lib.hid hr2;clear hr2 hb2)
 have hx:=cSall HW3.out.box
 unfold objS cellsS at hx
 obtain ⟨hx0,hx1,hx2,hx3,hx4,hx5,hx6,hx7,hx8,hx9,hx10⟩:=hx
 have HW5:=Lib.hid (SpO.startT (T := { s with run:=1,level:=1 }) HW1.out HB2.out HR2.out rfl)
 go_wp2_with ((with_reducible refine gate_store (t:=31) (p:=4) rfl ?_);refine store_box rfl rfl rfl (g:=w.heap.size + 1) (j:=0) (cs := #[.int .i64 0, .int .i64 0, .int .i64 0, .int .i64 0, .int .i64 0, .int .i64 0, .bool false, .int .u32 0, .bool false, .int .i64 0, .slice none 0 0]) (cs' := #[.int .i64 s.field, .int .i64 s.left, .int .i64 1, .int .i64 1, .int .i64 s.crc, .int .i64 s.acc, .bool s.ext, .int .u32 s.id, .bool s.rtr, .int .i64 s.dlc,(.slice A2 s.data.length c2)]) (T:=31) (u := .agg #[.int .i64 s.field, .int .i64 s.left, .int .i64 1, .int .i64 1, .int .i64 s.crc, .int .i64 s.acc, .bool s.ext, .int .u32 s.id, .bool s.rtr, .int .i64 s.dlc,(.slice A2 s.data.length c2)]) (seg := [.int .i64 s.field, .int .i64 s.left, .int .i64 1, .int .i64 1, .int .i64 s.crc, .int .i64 s.acc, .bool s.ext, .int .u32 s.id, .bool s.rtr, .int .i64 s.dlc,(.slice A2 s.data.length c2)]) rfl rfl HW5.out.res rfl (by kernel_rfl) rfl rfl rfl ?_;intro wz hx hT;have HX:=Lib.hid hx;have HTZ:=Lib.hid hT;have HBz:=Lib.hid (hT.below HW5.out.below HW5.out.below.size (fun k hk => by omega));clear hx hT)
 refine bodyPost_ret (results_ct rfl _ _ (w.heap.size + 1) 31 #[.int .i64 s.field, .int .i64 s.left, .int .i64 1, .int .i64 1, .int .i64 s.crc, .int .i64 s.acc, .bool s.ext, .int .u32 s.id, .bool s.rtr, .int .i64 s.dlc,(.slice A2 s.data.length c2)] (0,0) _ rfl HX.out Tryd.underlying31 rfl (by kernel_rfl)) rfl ?_
 exact ⟨_,rfl,Kd.R_mono (HTZ.out.R HW5.out.row (fun k hk e => by omega)) (fun _ _ => trivial),HBz.out⟩
set_option maxRecDepth 100000 in
theorem spec_bad_0 (w : World) (s : SS) (A : Option Addr) (c : Nat) (hr : Kd.C (Kd.int .u8) w A s.data.length s.data) (hc : s.data.length ≤ c) (hs : Sound s) (h5 : s.run ≠ 5) (hv0 : verdictV s 0 ≠ 0) (hv1 : verdictV s 0 ≠ 1) :
  Calls Tryd.prog 6 #[.agg #[.int .i64 s.field, .int .i64 s.left, .int .i64 s.run, .int .i64 s.level, .int .i64 s.crc, .int .i64 s.acc, .bool s.ext, .int .u32 s.id, .bool s.rtr, .int .i64 s.dlc,(.slice A s.data.length c)], .int .i64 0] w fun e w' => e = .returned (.tuple #[.agg #[.int .i64 0, .int .i64 0, .int .i64 0, .int .i64 0, .int .i64 0, .int .i64 0, .bool false, .int .u32 0, .bool false, .int .i64 0, .slice none 0 0], .int .i64 (verdictV s 0)]) ∧ Below w.heap.size w w':=by
 have HR:=Lib.hid hr
 have HC:=Lib.hid hc
 clear hr hc
 have HS:=Lib.hid hs
 obtain ⟨K,hcp⟩:=(copySp (s:=s) (by have:=hs.dl;omega)).rounds
 have HCP : Hid (spec_l2copy.f K s.field s.left s.run s.level s.crc s.acc s.ext s.id s.rtr s.dlc s.data = some (s.field,s.left,s.run,s.level,s.crc,s.acc,s.ext,s.id,s.rtr,s.dlc,s.data)):=Lib.hid hcp
 have HSB : Hid (spec_l2sound.f 6 s.field s.left s.run s.level s.crc s.acc s.ext s.id s.rtr s.dlc s.data = some true):=Lib.hid ((soundSp 0 s).trans (by rw [soundB_true hs]))
 have HVB : Hid (spec_l2verdict.f 1 s.field s.left s.run s.level s.crc s.acc s.ext s.id s.rtr s.dlc s.data 0 = some (verdictV s 0)):=Lib.hid (verdictSp 0 s 0)
 generalize verdictV s 0 = V at *
 have b5 : (s.run == 5) = false:=beq_eq_false_iff_ne.mpr h5
 have bv0 : (V != 0) = true:=bne_iff_ne.mpr hv0
 have bv1 : (V != 1) = true:=bne_iff_ne.mpr hv1
 clear hs h5 hv0 hv1
 clear hcp
 go_enter Tryd.func6,Tryd.ntmps6
 go_wp2_with (fail)
 (refine (spec_l2sound.calls 6 s.field s.left s.run s.level s.crc s.acc s.ext s.id s.rtr s.dlc A c s.data true _ (Kd.C_alloc (Kd.C_alloc HR.out _) _) HC.out HSB.out).mono ?_;rintro e w1 ⟨rfl,hb1⟩;have HW1:=Lib.hid ((SbIn.start w s (.slice A s.data.length c)).step hb1);clear hb1)
 obtain ⟨hx0,hx1,hx2,hx3,hx4,hx5,hx6,hx7,hx8,hx9,hx10⟩:=cSall HW1.out.box
 go_wp2_with (fail)
 clear hx0 hx1 hx2 hx3 hx4 hx5 hx6 hx7 hx8 hx9 hx10
 (refine (spec_l2copy.calls K s.field s.left s.run s.level s.crc s.acc s.ext s.id s.rtr s.dlc A c s.data s.field s.left s.run s.level s.crc s.acc s.ext s.id s.rtr s.dlc s.data _ (Kd.C_below HR.out HW1.out.below) HC.out HCP.out).mono ?_;rintro e w2 ⟨v2,rfl,hr2,hb2⟩;obtain ⟨A2,c2,rfl⟩:=Kd.R_slice hr2;have HW3:=Lib.hid (SpO.start HW1.out hb2 hr2);have hne0 : w.heap.size ≠ w2.heap.size:=(by have:=HW3.out.gg;omega);have hne1 : w2.heap.size ≠ w.heap.size:=(by omega);have hne2 : w.heap.size + 1 ≠ w2.heap.size:=(by have:=HW3.out.gg;omega);have hne3 : w2.heap.size ≠ w.heap.size + 1:=(by omega);have HB2:=Lib.hid hb2;have HR2:=Lib.hid hr2;clear hr2 hb2)
 have hx:=cSall HW3.out.box
 unfold objS cellsS at hx
 obtain ⟨hx0,hx1,hx2,hx3,hx4,hx5,hx6,hx7,hx8,hx9,hx10⟩:=hx
 go_wp2_with (fail)
 (refine (spec_l2verdict.calls 1 s.field s.left s.run s.level s.crc s.acc s.ext s.id s.rtr s.dlc A c s.data 0 V _ (Kd.C_below HR.out HW3.out.below) HC.out HVB.out).mono ?_;rintro e w4 ⟨rfl,hb4⟩;have HW4:=Lib.hid (HW3.out.step hb4);clear hb4;clear hx0 hx1 hx2 hx3 hx4 hx5 hx6 hx7 hx8 hx9 hx10)
 obtain ⟨hx0,hx1,hx2,hx3,hx4,hx5,hx6,hx7,hx8,hx9,hx10⟩:=cSall HW4.out.box
 obtain ⟨hg0,hg1,hg2,hg3,hg4,hg5,hg6,hg7,hg8,hg9,hg10⟩:=cSall HW4.out.loc
 obtain ⟨hk0,hk1,hk2,hk3,hk4,hk5,hk6,hk7,hk8,hk9,hk10⟩:=fSall HW4.out.loc
 go_wp2_with ((with_reducible refine gate_store (t:=31) (p:=4) rfl ?_);refine store_box rfl rfl rfl (g:=w.heap.size + 1) (j:=0) (cs := #[.int .i64 0, .int .i64 0, .int .i64 0, .int .i64 0, .int .i64 0, .int .i64 0, .bool false, .int .u32 0, .bool false, .int .i64 0, .slice none 0 0]) (cs' := #[.int .i64 0, .int .i64 0, .int .i64 0, .int .i64 0, .int .i64 0, .int .i64 0, .bool false, .int .u32 0, .bool false, .int .i64 0, .slice none 0 0]) (T:=31) (u := .agg #[.int .i64 0, .int .i64 0, .int .i64 0, .int .i64 0, .int .i64 0, .int .i64 0, .bool false, .int .u32 0, .bool false, .int .i64 0, .slice none 0 0]) (seg := [.int .i64 0, .int .i64 0, .int .i64 0, .int .i64 0, .int .i64 0, .int .i64 0, .bool false, .int .u32 0, .bool false, .int .i64 0, .slice none 0 0]) rfl rfl HW4.out.res rfl (by kernel_rfl) rfl rfl rfl ?_;intro wz hx hT;have HX:=Lib.hid hx;have HTZ:=Lib.hid hT;have HBz:=Lib.hid (hT.below HW4.out.below HW4.out.below.size (fun k hk => by omega));clear hx hT)
 refine bodyPost_ret (results_ct rfl _ _ (w.heap.size + 1) 31 #[.int .i64 0, .int .i64 0, .int .i64 0, .int .i64 0, .int .i64 0, .int .i64 0, .bool false, .int .u32 0, .bool false, .int .i64 0, .slice none 0 0] (0,0) _ rfl HX.out Tryd.underlying31 rfl (by kernel_rfl)) rfl ?_
 exact ⟨rfl,HBz.out⟩
set_option maxRecDepth 100000 in
theorem spec_bad_1 (w : World) (s : SS) (A : Option Addr) (c : Nat) (hr : Kd.C (Kd.int .u8) w A s.data.length s.data) (hc : s.data.length ≤ c) (hs : Sound s) (h5 : s.run ≠ 5) (hv0 : verdictV s 1 ≠ 0) (hv1 : verdictV s 1 ≠ 1) :
  Calls Tryd.prog 6 #[.agg #[.int .i64 s.field, .int .i64 s.left, .int .i64 s.run, .int .i64 s.level, .int .i64 s.crc, .int .i64 s.acc, .bool s.ext, .int .u32 s.id, .bool s.rtr, .int .i64 s.dlc,(.slice A s.data.length c)], .int .i64 1] w fun e w' => e = .returned (.tuple #[.agg #[.int .i64 0, .int .i64 0, .int .i64 0, .int .i64 0, .int .i64 0, .int .i64 0, .bool false, .int .u32 0, .bool false, .int .i64 0, .slice none 0 0], .int .i64 (verdictV s 1)]) ∧ Below w.heap.size w w':=by
 have HR:=Lib.hid hr
 have HC:=Lib.hid hc
 clear hr hc
 have HS:=Lib.hid hs
 obtain ⟨K,hcp⟩:=(copySp (s:=s) (by have:=hs.dl;omega)).rounds
 have HCP : Hid (spec_l2copy.f K s.field s.left s.run s.level s.crc s.acc s.ext s.id s.rtr s.dlc s.data = some (s.field,s.left,s.run,s.level,s.crc,s.acc,s.ext,s.id,s.rtr,s.dlc,s.data)):=Lib.hid hcp
 have HSB : Hid (spec_l2sound.f 6 s.field s.left s.run s.level s.crc s.acc s.ext s.id s.rtr s.dlc s.data = some true):=Lib.hid ((soundSp 0 s).trans (by rw [soundB_true hs]))
 have HVB : Hid (spec_l2verdict.f 1 s.field s.left s.run s.level s.crc s.acc s.ext s.id s.rtr s.dlc s.data 1 = some (verdictV s 1)):=Lib.hid (verdictSp 0 s 1)
 generalize verdictV s 1 = V at *
 have b5 : (s.run == 5) = false:=beq_eq_false_iff_ne.mpr h5
 have bv0 : (V != 0) = true:=bne_iff_ne.mpr hv0
 have bv1 : (V != 1) = true:=bne_iff_ne.mpr hv1
 clear hs h5 hv0 hv1
 clear hcp
 go_enter Tryd.func6,Tryd.ntmps6
 go_wp2_with (fail)
 (refine (spec_l2sound.calls 6 s.field s.left s.run s.level s.crc s.acc s.ext s.id s.rtr s.dlc A c s.data true _ (Kd.C_alloc (Kd.C_alloc HR.out _) _) HC.out HSB.out).mono ?_;rintro e w1 ⟨rfl,hb1⟩;have HW1:=Lib.hid ((SbIn.start w s (.slice A s.data.length c)).step hb1);clear hb1)
 obtain ⟨hx0,hx1,hx2,hx3,hx4,hx5,hx6,hx7,hx8,hx9,hx10⟩:=cSall HW1.out.box
 go_wp2_with (fail)
 clear hx0 hx1 hx2 hx3 hx4 hx5 hx6 hx7 hx8 hx9 hx10
 (refine (spec_l2copy.calls K s.field s.left s.run s.level s.crc s.acc s.ext s.id s.rtr s.dlc A c s.data s.field s.left s.run s.level s.crc s.acc s.ext s.id s.rtr s.dlc s.data _ (Kd.C_below HR.out HW1.out.below) HC.out HCP.out).mono ?_;rintro e w2 ⟨v2,rfl,hr2,hb2⟩;obtain ⟨A2,c2,rfl⟩:=Kd.R_slice hr2;have HW3:=Lib.hid (SpO.start HW1.out hb2 hr2);have hne0 : w.heap.size ≠ w2.heap.size:=(by have:=HW3.out.gg;omega);have hne1 : w2.heap.size ≠ w.heap.size:=(by omega);have hne2 : w.heap.size + 1 ≠ w2.heap.size:=(by have:=HW3.out.gg;omega);have hne3 : w2.heap.size ≠ w.heap.size + 1:=(by omega);have HB2:=Lib.hid hb2;have HR2:=Lib.hid hr2;clear hr2 hb2)
 have hx:=cSall HW3.out.box
 unfold objS cellsS at hx
 obtain ⟨hx0,hx1,hx2,hx3,hx4,hx5,hx6,hx7,hx8,hx9,hx10⟩:=hx
 go_wp2_with (fail)
 (refine (spec_l2verdict.calls 1 s.field s.left s.run s.level s.crc s.acc s.ext s.id s.rtr s.dlc A c s.data 1 V _ (Kd.C_below HR.out HW3.out.below) HC.out HVB.out).mono ?_;rintro e w4 ⟨rfl,hb4⟩;have HW4:=Lib.hid (HW3.out.step hb4);clear hb4;clear hx0 hx1 hx2 hx3 hx4 hx5 hx6 hx7 hx8 hx9 hx10)
 obtain ⟨hx0,hx1,hx2,hx3,hx4,hx5,hx6,hx7,hx8,hx9,hx10⟩:=cSall HW4.out.box
 obtain ⟨hg0,hg1,hg2,hg3,hg4,hg5,hg6,hg7,hg8,hg9,hg10⟩:=cSall HW4.out.loc
 obtain ⟨hk0,hk1,hk2,hk3,hk4,hk5,hk6,hk7,hk8,hk9,hk10⟩:=fSall HW4.out.loc
 go_wp2_with ((with_reducible refine gate_store (t:=31) (p:=4) rfl ?_);refine store_box rfl rfl rfl (g:=w.heap.size + 1) (j:=0) (cs := #[.int .i64 0, .int .i64 0, .int .i64 0, .int .i64 0, .int .i64 0, .int .i64 0, .bool false, .int .u32 0, .bool false, .int .i64 0, .slice none 0 0]) (cs' := #[.int .i64 0, .int .i64 0, .int .i64 0, .int .i64 0, .int .i64 0, .int .i64 0, .bool false, .int .u32 0, .bool false, .int .i64 0, .slice none 0 0]) (T:=31) (u := .agg #[.int .i64 0, .int .i64 0, .int .i64 0, .int .i64 0, .int .i64 0, .int .i64 0, .bool false, .int .u32 0, .bool false, .int .i64 0, .slice none 0 0]) (seg := [.int .i64 0, .int .i64 0, .int .i64 0, .int .i64 0, .int .i64 0, .int .i64 0, .bool false, .int .u32 0, .bool false, .int .i64 0, .slice none 0 0]) rfl rfl HW4.out.res rfl (by kernel_rfl) rfl rfl rfl ?_;intro wz hx hT;have HX:=Lib.hid hx;have HTZ:=Lib.hid hT;have HBz:=Lib.hid (hT.below HW4.out.below HW4.out.below.size (fun k hk => by omega));clear hx hT)
 refine bodyPost_ret (results_ct rfl _ _ (w.heap.size + 1) 31 #[.int .i64 0, .int .i64 0, .int .i64 0, .int .i64 0, .int .i64 0, .int .i64 0, .bool false, .int .u32 0, .bool false, .int .i64 0, .slice none 0 0] (0,0) _ rfl HX.out Tryd.underlying31 rfl (by kernel_rfl)) rfl ?_
 exact ⟨rfl,HBz.out⟩
end Go.Proofs.YtdoclpgciadjaaaDoor.P

namespace Go.Proofs.YtdoclpgciadjaaaDoor.P
open Go.RowKit Go.Proofs.YtdoclpgciadjaaaDoorW.PrintWords Go.Proofs.YtdoclpgciadjaaaDoorW.PrintLast Go.Proofs.YtdoclpgciadjaaaDoorW.PrintMore
set_option linter.unusedVariables false
set_option linter.unusedSimpArgs false
set_option maxHeartbeats 8000000 in
set_option maxRecDepth 100000 in
theorem spec_quiet_0_0 (w : World) (s : SS) (A : Option Addr) (c : Nat) (hr : Kd.C (Kd.int .u8) w A s.data.length s.data) (hc : s.data.length ≤ c) (hs : Sound s) (i0 : 0 ≤ s.id) (hby : ∀ x ∈ s.data,0 ≤ x ∧ x < 256) (h5 : s.run ≠ 5) (hv : verdictV s 0 = 0) (hlim : s.field = 14 → s.left ≠ 1) (hq : 10 < s.field) :
  Calls Tryd.prog 6 #[.agg #[.int .i64 s.field, .int .i64 s.left, .int .i64 s.run, .int .i64 s.level, .int .i64 s.crc, .int .i64 s.acc, .bool s.ext, .int .u32 s.id, .bool s.rtr, .int .i64 s.dlc,(.slice A s.data.length c)], .int .i64 0] w fun e w' => ∃ v : Value,e = .returned (.tuple #[.agg #[.int .i64 (stepS (takeS (crcT (runS s 0) 0) 0)).field, .int .i64 (stepS (takeS (crcT (runS s 0) 0) 0)).left, .int .i64 (stepS (takeS (crcT (runS s 0) 0) 0)).run, .int .i64 (stepS (takeS (crcT (runS s 0) 0) 0)).level, .int .i64 (stepS (takeS (crcT (runS s 0) 0) 0)).crc, .int .i64 (stepS (takeS (crcT (runS s 0) 0) 0)).acc, .bool (stepS (takeS (crcT (runS s 0) 0) 0)).ext, .int .u32 (stepS (takeS (crcT (runS s 0) 0) 0)).id, .bool (stepS (takeS (crcT (runS s 0) 0) 0)).rtr, .int .i64 (stepS (takeS (crcT (runS s 0) 0) 0)).dlc,v], .int .i64 0]) ∧ Kd.R (Kd.int .u8) 5 w' w.heap.size (fun _ => True) v (stepS (takeS (crcT (runS s 0) 0) 0)).data ∧ Below w.heap.size w w':=by
 have HR:=Lib.hid hr
 have HC:=Lib.hid hc
 clear hr hc
 have HS:=Lib.hid hs
 obtain ⟨K,hcp⟩:=(copySp (s:=s) (by have:=hs.dl;omega)).rounds
 have HCP : Hid (spec_l2copy.f K s.field s.left s.run s.level s.crc s.acc s.ext s.id s.rtr s.dlc s.data = some (s.field,s.left,s.run,s.level,s.crc,s.acc,s.ext,s.id,s.rtr,s.dlc,s.data)):=Lib.hid hcp
 have HSB : Hid (spec_l2sound.f 6 s.field s.left s.run s.level s.crc s.acc s.ext s.id s.rtr s.dlc s.data = some true):=Lib.hid ((soundSp 0 s).trans (by rw [soundB_true hs]))
 have HVB : Hid (spec_l2verdict.f 1 s.field s.left s.run s.level s.crc s.acc s.ext s.id s.rtr s.dlc s.data 0 = some 0):=Lib.hid ((verdictSp 0 s 0).trans (by rw [hv]))
 have b5 : (s.run == 5) = false:=beq_eq_false_iff_ne.mpr h5
 have r0:=hs.r0
 have r1:=hs.r1
 have f0:=hs.f0
 have f1:=hs.f1
 have l0:=hs.l0
 have l1 : s.left ≤ 64:=by have:=(sizeF_le hs.f0 hs.f1 hs.d0).2;have:=hs.l1;omega
 have HE1 : Hid (crcT (runS s 0) 0 = ({ s with run:=0,level:=0 } : SS)):=Lib.hid (by rw [show runS s 0 = ({ s with run:=0,level:=0 } : SS) by unfold runS;rw [if_pos hq]];unfold crcT;rw [if_neg (show ¬ s.field ≤ 9 by omega)])
 have HOK : Hid (SOk ({ s with run:=0,level:=0 } : SS)):=Lib.hid (by have h:=hs.ok i0 hby;exact ⟨h.f0,h.f1,h.l0,h.l1,h.d0,h.d1,h.i0,h.i1,h.a0,h.a1,h.ne,h.by_,h.dl⟩)
 have HTK : Hid ((takeS ({ s with run:=0,level:=0 } : SS) 0).field = s.field ∧ (takeS ({ s with run:=0,level:=0 } : SS) 0).left = s.left):=Lib.hid (takeS_keep _ _)
 have HTD : Hid (0 ≤ (takeS ({ s with run:=0,level:=0 } : SS) 0).dlc ∧ (takeS ({ s with run:=0,level:=0 } : SS) 0).dlc ≤ 15):=Lib.hid (takeS_dlc (s := { s with run:=0,level:=0 }) hs.d0 hs.d1 _)
 have HAC : Hid ((takeS ({ s with run:=0,level:=0 } : SS) 0).acc = s.acc):=Lib.hid (by rw [takeS_acc (s := { s with run:=0,level:=0 }) hs.a0 hs.a1 _ (by omega),if_neg (show ¬ s.field = 10 by omega)])
 have HTF:=Lib.hid (takeS_frame ({ s with run:=0,level:=0 } : SS) 0)
 have HSZ0 : Hid (spec_l2size.f s.field s.ext s.id s.rtr s.dlc s.data = some (sizeF s)):=Lib.hid (specSize hs.f0 hs.f1 hs.d0 hs.d1)
 have HSZR : Hid (0 ≤ sizeF s - s.left ∧ sizeF s ≤ 64 ∧ (s.field = 9 → ((sizeF s - s.left) % 8 = 0 ↔ s.left % 8 = 0))):=Lib.hid ⟨by have:=hs.l1;omega,(sizeF_le hs.f0 hs.f1 hs.d0).2,fun h => by have : sizeF s = 8 * (if s.dlc < 8 then s.dlc else 8):=(by unfold sizeF;rw [if_neg (by omega),if_pos h]);rw [this];split <;> omega⟩
 have HLIM:=Lib.hid hlim
 have bten : (s.field == 10) = false:=beq_eq_false_iff_ne.mpr (by omega)
 clear hs i0 hby h5 hv hlim
 rw [HE1.out]
 generalize hTT : takeS ({ s with run:=0,level:=0 } : SS) 0 = T at HTK HTD HAC HTF ⊢
 have HTT:=Lib.hid hTT
 clear hTT
 have HTF2 : Hid (T = { ({ s with run:=0,level:=0 } : SS) with ext:=T.ext,id:=T.id,rtr:=T.rtr,dlc:=T.dlc,data:=T.data }):=Lib.hid (by have h:=HTF.out;rw [HAC.out] at h;exact h)
 generalize hZ : sizeF s = SZ0 at HSZ0 HSZR
 have z0:=HSZR.out.1
 have z1:=HSZR.out.2.1
 clear hZ
 clear hcp
 go_enter Tryd.func6,Tryd.ntmps6
 go_wp2_with (fail)
 (refine (spec_l2sound.calls 6 s.field s.left s.run s.level s.crc s.acc s.ext s.id s.rtr s.dlc A c s.data true _ (Kd.C_alloc (Kd.C_alloc HR.out _) _) HC.out HSB.out).mono ?_;rintro e w1 ⟨rfl,hb1⟩;have HW1:=Lib.hid ((SbIn.start w s (.slice A s.data.length c)).step hb1);clear hb1)
 obtain ⟨hx0,hx1,hx2,hx3,hx4,hx5,hx6,hx7,hx8,hx9,hx10⟩:=cSall HW1.out.box
 go_wp2_with (fail)
 clear hx0 hx1 hx2 hx3 hx4 hx5 hx6 hx7 hx8 hx9 hx10
 (refine (spec_l2copy.calls K s.field s.left s.run s.level s.crc s.acc s.ext s.id s.rtr s.dlc A c s.data s.field s.left s.run s.level s.crc s.acc s.ext s.id s.rtr s.dlc s.data _ (Kd.C_below HR.out HW1.out.below) HC.out HCP.out).mono ?_;rintro e w2 ⟨v2,rfl,hr2,hb2⟩;obtain ⟨A2,c2,rfl⟩:=Kd.R_slice hr2;have HW3:=Lib.hid (SpO.start HW1.out hb2 hr2);have hne0 : w.heap.size ≠ w2.heap.size:=(by have:=HW3.out.gg;omega);have hne1 : w2.heap.size ≠ w.heap.size:=(by omega);have hne2 : w.heap.size + 1 ≠ w2.heap.size:=(by have:=HW3.out.gg;omega);have hne3 : w2.heap.size ≠ w.heap.size + 1:=(by omega);have HB2:=Lib.hid hb2;have HR2:=Lib.hid hr2;clear hr2 hb2)
 have hx:=cSall HW3.out.box
 unfold objS cellsS at hx
 obtain ⟨hx0,hx1,hx2,hx3,hx4,hx5,hx6,hx7,hx8,hx9,hx10⟩:=hx
 go_wp2_with (fail)
 (refine (spec_l2verdict.calls 1 s.field s.left s.run s.level s.crc s.acc s.ext s.id s.rtr s.dlc A c s.data 0 0 _ (Kd.C_below HR.out HW3.out.below) HC.out HVB.out).mono ?_;rintro e w4 ⟨rfl,hb4⟩;have HW4:=Lib.hid (HW3.out.step hb4);clear hb4;clear hx0 hx1 hx2 hx3 hx4 hx5 hx6 hx7 hx8 hx9 hx10)
 obtain ⟨hx0,hx1,hx2,hx3,hx4,hx5,hx6,hx7,hx8,hx9,hx10⟩:=cSall HW4.out.box
 obtain ⟨hg0,hg1,hg2,hg3,hg4,hg5,hg6,hg7,hg8,hg9,hg10⟩:=cSall HW4.out.loc
 obtain ⟨hk0,hk1,hk2,hk3,hk4,hk5,hk6,hk7,hk8,hk9,hk10⟩:=fSall HW4.out.loc
 have HW7 : Hid (SpO w _ s _ _ ({ s with run:=0,level:=0 } : SS) _):=Lib.hid ((HW4.out.put (setS2 HW4.out.loc (0)) rfl).put (setS3 (setS2 HW4.out.loc (0)) (0)) rfl)
 go_wp2_with (fail)
 clear hx0 hg0 hk0 hx1 hg1 hk1 hx2 hg2 hk2 hx3 hg3 hk3 hx4 hg4 hk4 hx5 hg5 hk5 hx6 hg6 hk6 hx7 hg7 hk7 hx8 hg8 hk8 hx9 hg9 hk9 hx10 hg10 hk10
 generalize hW7 : ((w4.setCell ⟨w2.heap.size,2,none⟩ (.int .i64 (0))).setCell ⟨w2.heap.size,3,none⟩ (.int .i64 (0))) = w7 at HW7 ⊢
 clear hW7
 have HW7d:=Lib.hid (HW7.out.step (below_drew (Below.refl _ _)))
 obtain ⟨hx0,hx1,hx2,hx3,hx4,hx5,hx6,hx7,hx8,hx9,hx10⟩:=cSall HW7.out.box
 obtain ⟨hg0,hg1,hg2,hg3,hg4,hg5,hg6,hg7,hg8,hg9,hg10⟩:=cSall HW7.out.loc
 obtain ⟨hk0,hk1,hk2,hk3,hk4,hk5,hk6,hk7,hk8,hk9,hk10⟩:=fSall HW7.out.loc
 have hwz : IntKind.i64.wrap (SZ0 - s.left) = SZ0 - s.left:=by rw [IntKind.wrap_i64];omega
 have HH : Hid (∀ w' : World,w'.heap[w.heap.size]? = some (objS s (.slice A s.data.length c)) → ((w'.cell? ⟨w.heap.size,0,none⟩ = some (.int .i64 s.field)) ∧ (w'.cell? ⟨w.heap.size,1,none⟩ = some (.int .i64 s.left)) ∧ (w'.cell? ⟨w.heap.size,6,none⟩ = some (.bool s.ext)) ∧ (w'.cell? ⟨w.heap.size,7,none⟩ = some (.int .u32 s.id)) ∧ (w'.cell? ⟨w.heap.size,8,none⟩ = some (.bool s.rtr)) ∧ (w'.cell? ⟨w.heap.size,9,none⟩ = some (.int .i64 s.dlc)) ∧ (w'.cell? ⟨w.heap.size,10,none⟩ = some (.slice A s.data.length c)))):=Lib.hid (fun w' h => ⟨cS0 h,cS1 h,cS6 h,cS7 h,cS8 h,cS9 h,cS10 h⟩)
 refine wp_region_noPanic ?_
 refine wp_region_held_drew (S:=fun w' => (w'.cell? ⟨w.heap.size,0,none⟩ = some (.int .i64 s.field)) ∧ (w'.cell? ⟨w.heap.size,1,none⟩ = some (.int .i64 s.left)) ∧ (w'.cell? ⟨w.heap.size,6,none⟩ = some (.bool s.ext)) ∧ (w'.cell? ⟨w.heap.size,7,none⟩ = some (.int .u32 s.id)) ∧ (w'.cell? ⟨w.heap.size,8,none⟩ = some (.bool s.rtr)) ∧ (w'.cell? ⟨w.heap.size,9,none⟩ = some (.int .i64 s.dlc)) ∧ (w'.cell? ⟨w.heap.size,10,none⟩ = some (.slice A s.data.length c))) (by kernel_rfl) (HH.out _ HW7d.out.box) (fun hH0 => ?_)
 refine wpAnyH_take (i:=0) (v := .pointer (some ⟨w2.heap.size,6,none⟩)) rfl (by kernel_rfl) (by kernel_rfl) (by kernel_rfl) (fun _ _ _ h => h) (Or.inl ⟨by rfl, ?hy1⟩) (by assumption) ?_
 case hy1 => (intro wq hSw;(try dsimp only at hSw);go_simp;try (with_reducible rfl))
 refine wpAnyH_take (i:=2) (v := .pointer (some ⟨w.heap.size,0,none⟩)) rfl (by kernel_rfl) (by kernel_rfl) (by kernel_rfl) (fun _ _ _ h => h) (Or.inl ⟨by rfl, ?hy2⟩) (by assumption) ?_
 case hy2 => (intro wq hSw;(try dsimp only at hSw);go_simp;try (with_reducible rfl))
 refine wpAnyH_take (i:=3) (v := .int .i64 s.field) rfl (by kernel_rfl) (by kernel_rfl) (by kernel_rfl) (fun _ _ _ h => h) (Or.inl ⟨by rfl, ?hy3⟩) (by assumption) ?_
 case hy3 => (intro wq hSw;(try dsimp only at hSw);go_simp;try (with_reducible rfl))
 refine wpAnyH_take (i:=4) (v := .pointer (some ⟨w.heap.size,0,none⟩)) rfl (by kernel_rfl) (by kernel_rfl) (by kernel_rfl) (fun _ _ _ h => h) (Or.inl ⟨by rfl, ?hy4⟩) (by assumption) ?_
 case hy4 => (intro wq hSw;(try dsimp only at hSw);go_simp;try (with_reducible rfl))
 refine wpAnyH_take (i:=5) (v := .int .i64 s.field) rfl (by kernel_rfl) (by kernel_rfl) (by kernel_rfl) (fun _ _ _ h => h) (Or.inl ⟨by rfl, ?hy5⟩) (by assumption) ?_
 case hy5 => (intro wq hSw;(try dsimp only at hSw);go_simp;try (with_reducible rfl))
 refine wpAnyH_take (i:=6) (v := .pointer (some ⟨w.heap.size,6,none⟩)) rfl (by kernel_rfl) (by kernel_rfl) (by kernel_rfl) (fun _ _ _ h => h) (Or.inl ⟨by rfl, ?hy6⟩) (by assumption) ?_
 case hy6 => (intro wq hSw;(try dsimp only at hSw);go_simp;try (with_reducible rfl))
 refine wpAnyH_take (i:=7) (v := .agg #[.bool s.ext, .int .u32 s.id, .bool s.rtr, .int .i64 s.dlc,(.slice A s.data.length c)]) rfl (by kernel_rfl) (by kernel_rfl) (by kernel_rfl) (fun _ _ _ h => h) (Or.inl ⟨by rfl, ?hy7⟩) (by assumption) ?_
 case hy7 => (intro wq hSw;(try dsimp only at hSw);go_simp;try (with_reducible rfl))
 refine wpAnyH_take (i:=9) (v := .pointer (some ⟨w.heap.size,1,none⟩)) rfl (by kernel_rfl) (by kernel_rfl) (by kernel_rfl) (fun _ _ _ h => h) (Or.inl ⟨by rfl, ?hy8⟩) (by assumption) ?_
 case hy8 => (intro wq hSw;(try dsimp only at hSw);go_simp;try (with_reducible rfl))
 refine wpAnyH_take (i:=10) (v := .int .i64 s.left) rfl (by kernel_rfl) (by kernel_rfl) (by kernel_rfl) (fun _ _ _ h => h) (Or.inl ⟨by rfl, ?hy9⟩) (by assumption) ?_
 case hy9 => (intro wq hSw;(try dsimp only at hSw);go_simp;try (with_reducible rfl))
 refine wpAnyH_take (i:=12) (v := .int .i64 0) rfl (by kernel_rfl) (by kernel_rfl) (by kernel_rfl) (fun _ _ _ h => h) (Or.inl ⟨by rfl, ?hy10⟩) (by assumption) ?_
 case hy10 => (intro wq hSw;(try dsimp only at hSw);go_simp;try (with_reducible rfl))
 refine wpAnyH_ready (rs := [1,8]) (by kernel_rfl) (by simp) ?_
 refine AllReadyH.cons rfl (fun K hK => ?wa) (AllReadyH.cons rfl (fun K hK => ?wb) AllReadyH.nil)
 case' wa =>
  go_simp
  refine hK.out _ _ (HH.out _ HW7d.out.box) (fun hH1 => ?_)
  clear hK K
  refine wpAnyH_ready (rs := [8]) (by kernel_rfl) (by simp) ?_
  refine AllReadyH.cons rfl (fun K hK => ?_) AllReadyH.nil
  go_simp
  go_wp2_with (first | (go_at_call 24;refine (spec_l2size.calls s.field s.ext s.id s.rtr s.dlc A c s.data SZ0 _ (Kd.C_below HR.out HW7d.out.below) HC.out HSZ0.out).mono ?_;rintro e w8 ⟨rfl,hb8⟩;have HW8:=Lib.hid (HW7d.out.step hb8);clear hb8;clear hx0 hg0 hk0 hx1 hg1 hk1 hx2 hg2 hk2 hx3 hg3 hk3 hx4 hg4 hk4 hx5 hg5 hk5 hx6 hg6 hk6 hx7 hg7 hk7 hx8 hg8 hk8 hx9 hg9 hk9 hx10 hg10 hk10;obtain ⟨hx0,hx1,hx2,hx3,hx4,hx5,hx6,hx7,hx8,hx9,hx10⟩:=cSall HW8.out.box;obtain ⟨hg0,hg1,hg2,hg3,hg4,hg5,hg6,hg7,hg8,hg9,hg10⟩:=cSall HW8.out.loc;obtain ⟨hk0,hk1,hk2,hk3,hk4,hk5,hk6,hk7,hk8,hk9,hk10⟩:=fSall HW8.out.loc))
  refine hK.out _ _ (HH.out _ HW8.out.box) (fun hH2 => ?_)
  clear hK K
  refine wpAnyH_take (i:=11) (v := .int .i64 (SZ0 - s.left)) rfl (by kernel_rfl) (by kernel_rfl) (by kernel_rfl) (fun _ _ _ h => h) (Or.inl ⟨by rfl, ?hy11⟩) (by assumption) ?_
  case hy11 => (intro wq hSw;(try dsimp only at hSw);go_simp;try (with_reducible rfl))
 case' wb =>
  go_simp
  go_wp2_with (first | (go_at_call 24;refine (spec_l2size.calls s.field s.ext s.id s.rtr s.dlc A c s.data SZ0 _ (Kd.C_below HR.out HW7d.out.below) HC.out HSZ0.out).mono ?_;rintro e w8 ⟨rfl,hb8⟩;have HW8:=Lib.hid (HW7d.out.step hb8);clear hb8;clear hx0 hg0 hk0 hx1 hg1 hk1 hx2 hg2 hk2 hx3 hg3 hk3 hx4 hg4 hk4 hx5 hg5 hk5 hx6 hg6 hk6 hx7 hg7 hk7 hx8 hg8 hk8 hx9 hg9 hk9 hx10 hg10 hk10;obtain ⟨hx0,hx1,hx2,hx3,hx4,hx5,hx6,hx7,hx8,hx9,hx10⟩:=cSall HW8.out.box;obtain ⟨hg0,hg1,hg2,hg3,hg4,hg5,hg6,hg7,hg8,hg9,hg10⟩:=cSall HW8.out.loc;obtain ⟨hk0,hk1,hk2,hk3,hk4,hk5,hk6,hk7,hk8,hk9,hk10⟩:=fSall HW8.out.loc))
  refine hK.out _ _ (HH.out _ HW8.out.box) (fun hH2 => ?_)
  clear hK K
  refine wpAnyH_take (i:=11) (v := .int .i64 (SZ0 - s.left)) rfl (by kernel_rfl) (by kernel_rfl) (by kernel_rfl) (fun _ _ _ h => h) (Or.inl ⟨by rfl, ?hy12⟩) (by assumption) ?_
  case hy12 => (intro wq hSw;(try dsimp only at hSw);go_simp;try (with_reducible rfl))
  refine wpAnyH_ready (rs := [1]) (by kernel_rfl) (by simp) ?_
  refine AllReadyH.cons rfl (fun K hK => ?_) AllReadyH.nil
  go_simp
  refine hK.out _ _ (HH.out _ HW8.out.box) (fun hH1 => ?_)
  clear hK K
 all_goals
  refine wpAnyH_ready (rs := [13]) (by kernel_rfl) (by simp) ?_
  refine AllReadyH.cons rfl (fun K hK => ?_) AllReadyH.nil
  go_simp
  go_wp2_with (first | (go_at_call 23;refine (spec_l2take.at_ w _ ({ s with run:=0,level:=0 } : SS) A2 c2 (SZ0 - s.left) (fun k => w.heap.size + 1 < k ∧ k ≠ w2.heap.size) HW8.out.row HW8.out.below HW8.out.frame HOK.out 0 (Or.inl rfl) HSZR.out.1 HSZR.out.2.2).mono ?_;rw [HTT.out];rintro e w9 ⟨v9,rfl,hr9,ht9⟩;obtain ⟨A5,c5,rfl⟩:=Kd.R_slice hr9;have HW10:=Lib.hid (SpO.took HW8.out hr9 ht9 HTF2.out);have hbx:=(ht9.block (by have:=HW8.out.lt;omega) (by rintro ⟨e,_⟩;omega)).trans HW8.out.box;have hlx:=(ht9.block HW8.out.glt (by rintro ⟨_,e⟩;exact e rfl)).trans HW8.out.loc;clear hx0 hg0 hk0 hx1 hg1 hk1 hx2 hg2 hk2 hx3 hg3 hk3 hx4 hg4 hk4 hx5 hg5 hk5 hx6 hg6 hk6 hx7 hg7 hk7 hx8 hg8 hk8 hx9 hg9 hk9 hx10 hg10 hk10;obtain ⟨hx0,hx1,hx2,hx3,hx4,hx5,hx6,hx7,hx8,hx9,hx10⟩:=cSall hbx;obtain ⟨hg0,hg1,hg2,hg3,hg4,hg5,hg6,hg7,hg8,hg9,hg10⟩:=cSall hlx;obtain ⟨hk0,hk1,hk2,hk3,hk4,hk5,hk6,hk7,hk8,hk9,hk10⟩:=fSall hlx;have HBX:=Lib.hid hbx;have HLX:=Lib.hid hlx;clear hr9 ht9 hbx hlx))
  refine hK.out _ _ (HH.out _ HBX.out) (fun hH4 => ?_)
  clear hK K
  refine wpAnyH_take (i:=14) (v := .pointer (some ⟨w2.heap.size,6,none⟩)) rfl (by kernel_rfl) (by kernel_rfl) (by kernel_rfl) (fun _ _ _ h => h) (Or.inl ⟨by rfl, ?hy13⟩) (by assumption) ?_
  case hy13 => (intro wq hSw;(try dsimp only at hSw);go_simp;try (with_reducible rfl))
  refine wpAnyH_ready (rs := [15]) (by kernel_rfl) (by simp) ?_
  refine AllReadyH.cons rfl (fun K hK => ?_) AllReadyH.nil
  go_simp
  refine hK.out _ _ (HH.out _ HW10.out.box) (fun hH5 => ?_)
  clear hK K
  refine wpAnyH_done (by kernel_rfl) ?_ _
  refine NoPanic.normal ?_
  clear hH0 hH1 hH2 hH4 hH5
  clear hx0 hg0 hk0 hx1 hg1 hk1 hx2 hg2 hk2 hx3 hg3 hk3 hx4 hg4 hk4 hx5 hg5 hk5 hx6 hg6 hk6 hx7 hg7 hk7 hx8 hg8 hk8 hx9 hg9 hk9 hx10 hg10 hk10
  generalize hW10 : ((((w9.setCell ⟨w2.heap.size,6,none⟩ (.bool T.ext)).setCell ⟨w2.heap.size,7,none⟩ (.int .u32 T.id)).setCell ⟨w2.heap.size,8,none⟩ (.bool T.rtr)).setCell ⟨w2.heap.size,9,none⟩ (.int .i64 T.dlc)).setCell ⟨w2.heap.size,10,none⟩ (.slice A5 T.data.length c5) = w10 at HW10 ⊢
  clear hW10 HB2 HR2 HW1 HW3 HW4 HBX HLX HW7 HW7d HW8 HCP HSB HVB HTF HTF2 HSZ0 HSZR HE1 HOK HAC HTT
  clear hwz
  obtain ⟨hx0,hx1,hx2,hx3,hx4,hx5,hx6,hx7,hx8,hx9,hx10⟩:=cSall HW10.out.box
  obtain ⟨hg0,hg1,hg2,hg3,hg4,hg5,hg6,hg7,hg8,hg9,hg10⟩:=cSall HW10.out.loc
  obtain ⟨hk0,hk1,hk2,hk3,hk4,hk5,hk6,hk7,hk8,hk9,hk10⟩:=fSall HW10.out.loc
  have HFT : Hid (1 ≤ T.field ∧ T.field ≤ 14 ∧ (T.field = 14 → s.left ≠ 1)):=Lib.hid (by have h:=HTK.out.1;have h2:=HLIM.out;exact ⟨by omega,by omega,by rw [h];exact h2⟩)
  have HW11:=Lib.hid (HW10.out.put (setS1 HW10.out.loc (s.left - 1)) rfl)
  by_cases hL : s.left - 1 = 0
  ·have bL : (s.left - 1 == 0) = true:=beq_iff_eq.mpr hL
   have HSTEP : Hid (stepS T = enterS T (afterF T)):=Lib.hid (by unfold stepS;rw [HTK.out.2,if_pos hL])
   have HAR : Hid (1 ≤ afterF T ∧ afterF T ≤ 14):=Lib.hid (by have h2:=HFT.out;exact afterF_range (by omega) (by omega))
   have HAI : Hid (spec_l2after.f 1 s.field T.ext T.id T.rtr T.dlc T.data = some (afterF T)):=Lib.hid (by have h:=afterSp 0 (s:=T) HFT.out.1 HFT.out.2.1;rw [HTK.out.1] at h;exact h)
   have HSI : Hid (spec_l2size.f (afterF T) T.ext T.id T.rtr T.dlc T.data = some (sizeF { T with field:=afterF T })):=Lib.hid (specSize (s := { T with field:=afterF T }) HAR.out.1 HAR.out.2 HTD.out.1 HTD.out.2)
   generalize afterF T = AF at HSTEP HAR HAI HSI
   clear hL
   go_wp2_with (fail)
   (refine (spec_l2after.calls 1 s.field T.ext T.id T.rtr T.dlc A5 c5 T.data AF _ (Kd.R_reads' HW11.out.row).2.2 (Kd.R_reads' HW11.out.row).2.1 HAI.out).mono ?_;rintro e w12 ⟨rfl,hb12⟩;have HW12:=Lib.hid (HW11.out.step hb12);clear hb12;clear hx0 hg0 hk0 hx1 hg1 hk1 hx2 hg2 hk2 hx3 hg3 hk3 hx4 hg4 hk4 hx5 hg5 hk5 hx6 hg6 hk6 hx7 hg7 hk7 hx8 hg8 hk8 hx9 hg9 hk9 hx10 hg10 hk10;obtain ⟨hx0,hx1,hx2,hx3,hx4,hx5,hx6,hx7,hx8,hx9,hx10⟩:=cSall HW12.out.box;obtain ⟨hg0,hg1,hg2,hg3,hg4,hg5,hg6,hg7,hg8,hg9,hg10⟩:=cSall HW12.out.loc;obtain ⟨hk0,hk1,hk2,hk3,hk4,hk5,hk6,hk7,hk8,hk9,hk10⟩:=fSall HW12.out.loc)
   have HW13:=Lib.hid (HW12.out.put (setS0 HW12.out.loc AF) rfl)
   go_wp2_with (fail)
   (refine (spec_l2size.calls AF T.ext T.id T.rtr T.dlc A5 c5 T.data _ _ (Kd.R_reads' HW13.out.row).2.2 (Kd.R_reads' HW13.out.row).2.1 HSI.out).mono ?_;rintro e w14 ⟨rfl,hb14⟩;have HW14:=Lib.hid (HW13.out.step hb14);clear hb14;clear hx0 hg0 hk0 hx1 hg1 hk1 hx2 hg2 hk2 hx3 hg3 hk3 hx4 hg4 hk4 hx5 hg5 hk5 hx6 hg6 hk6 hx7 hg7 hk7 hx8 hg8 hk8 hx9 hg9 hk9 hx10 hg10 hk10;obtain ⟨hx0,hx1,hx2,hx3,hx4,hx5,hx6,hx7,hx8,hx9,hx10⟩:=cSall HW14.out.box;obtain ⟨hg0,hg1,hg2,hg3,hg4,hg5,hg6,hg7,hg8,hg9,hg10⟩:=cSall HW14.out.loc;obtain ⟨hk0,hk1,hk2,hk3,hk4,hk5,hk6,hk7,hk8,hk9,hk10⟩:=fSall HW14.out.loc)
   generalize hSZ : sizeF { T with field:=AF } = SZ at HSI ⊢
   have HSZ:=Lib.hid hSZ
   clear hSZ
   have HW15:=Lib.hid (HW14.out.put (setS1 HW14.out.loc SZ) rfl)
   by_cases h9 : AF = 9
   ·have b9 : (AF == 9) = true:=beq_iff_eq.mpr h9
    have HH9:=Lib.hid h9
    clear h9
    have hns:=HW15.out.nil
    have hsz15 : (w14.setCell ⟨w2.heap.size,1,none⟩ (.int .i64 SZ)).heap.size = w14.heap.size:=by simp [World.setCell]
    rw [hsz15] at hns
    have HW16:=Lib.hid hns
    clear hns hsz15
    obtain ⟨hh0,hh1,hh2,hh3,hh4,hh5,hh6,hh7,hh8,hh9,hh10⟩:=cSall (blk_alloc HW15.out.loc (.cells #[] 5))
    have hhf:=fS (blk_alloc HW15.out.loc (.cells #[] 5)) 10
    go_wp2_with ((with_reducible refine gate_store (t:=31) (p:=4) rfl ?_);refine store_box rfl rfl rfl (g:=w.heap.size + 1) (j:=0) (cs := #[.int .i64 0, .int .i64 0, .int .i64 0, .int .i64 0, .int .i64 0, .int .i64 0, .bool false, .int .u32 0, .bool false, .int .i64 0, .slice none 0 0]) (cs' := #[.int .i64 AF, .int .i64 SZ, .int .i64 T.run, .int .i64 T.level, .int .i64 T.crc, .int .i64 T.acc, .bool T.ext, .int .u32 T.id, .bool T.rtr, .int .i64 T.dlc,(.slice (some ⟨w14.heap.size,0,none⟩) 0 0)]) (T:=31) (u := .agg #[.int .i64 AF, .int .i64 SZ, .int .i64 T.run, .int .i64 T.level, .int .i64 T.crc, .int .i64 T.acc, .bool T.ext, .int .u32 T.id, .bool T.rtr, .int .i64 T.dlc,(.slice (some ⟨w14.heap.size,0,none⟩) 0 0)]) (seg := [.int .i64 AF, .int .i64 SZ, .int .i64 T.run, .int .i64 T.level, .int .i64 T.crc, .int .i64 T.acc, .bool T.ext, .int .u32 T.id, .bool T.rtr, .int .i64 T.dlc,(.slice (some ⟨w14.heap.size,0,none⟩) 0 0)]) rfl rfl HW16.out.res rfl (by kernel_rfl) rfl rfl rfl ?_;intro wz hx hT;have HX:=Lib.hid hx;have HTZ:=Lib.hid hT;have HBz:=Lib.hid (hT.below HW16.out.below HW16.out.below.size (fun k hk => by omega));clear hx hT)
    refine bodyPost_ret (results_ct rfl _ _ (w.heap.size + 1) 31 #[.int .i64 AF, .int .i64 SZ, .int .i64 T.run, .int .i64 T.level, .int .i64 T.crc, .int .i64 T.acc, .bool T.ext, .int .u32 T.id, .bool T.rtr, .int .i64 T.dlc,(.slice (some ⟨w14.heap.size,0,none⟩) 0 0)] (0,0) _ rfl HX.out Tryd.underlying31 rfl (by kernel_rfl)) rfl ?_
    rw [HSTEP.out,show enterS T AF = { T with field:=AF,left:=SZ,data := [] } by unfold enterS;rw [if_pos HH9.out,HSZ.out]]
    exact ⟨_,rfl,Kd.R_mono (HTZ.out.R HW16.out.row (fun k hk e => by omega)) (fun _ _ => trivial),HBz.out⟩
   ·have b9 : (AF == 9) = false:=beq_eq_false_iff_ne.mpr h9
    have HH9:=Lib.hid h9
    clear h9
    go_wp2_with ((with_reducible refine gate_store (t:=31) (p:=4) rfl ?_);refine store_box rfl rfl rfl (g:=w.heap.size + 1) (j:=0) (cs := #[.int .i64 0, .int .i64 0, .int .i64 0, .int .i64 0, .int .i64 0, .int .i64 0, .bool false, .int .u32 0, .bool false, .int .i64 0, .slice none 0 0]) (cs' := #[.int .i64 AF, .int .i64 SZ, .int .i64 T.run, .int .i64 T.level, .int .i64 T.crc, .int .i64 T.acc, .bool T.ext, .int .u32 T.id, .bool T.rtr, .int .i64 T.dlc,(.slice A5 T.data.length c5)]) (T:=31) (u := .agg #[.int .i64 AF, .int .i64 SZ, .int .i64 T.run, .int .i64 T.level, .int .i64 T.crc, .int .i64 T.acc, .bool T.ext, .int .u32 T.id, .bool T.rtr, .int .i64 T.dlc,(.slice A5 T.data.length c5)]) (seg := [.int .i64 AF, .int .i64 SZ, .int .i64 T.run, .int .i64 T.level, .int .i64 T.crc, .int .i64 T.acc, .bool T.ext, .int .u32 T.id, .bool T.rtr, .int .i64 T.dlc,(.slice A5 T.data.length c5)]) rfl rfl HW15.out.res rfl (by kernel_rfl) rfl rfl rfl ?_;intro wz hx hT;have HX:=Lib.hid hx;have HTZ:=Lib.hid hT;have HBz:=Lib.hid (hT.below HW15.out.below HW15.out.below.size (fun k hk => by omega));clear hx hT)
    refine bodyPost_ret (results_ct rfl _ _ (w.heap.size + 1) 31 #[.int .i64 AF, .int .i64 SZ, .int .i64 T.run, .int .i64 T.level, .int .i64 T.crc, .int .i64 T.acc, .bool T.ext, .int .u32 T.id, .bool T.rtr, .int .i64 T.dlc,(.slice A5 T.data.length c5)] (0,0) _ rfl HX.out Tryd.underlying31 rfl (by kernel_rfl)) rfl ?_
    rw [HSTEP.out,show enterS T AF = { T with field:=AF,left:=SZ } by unfold enterS;rw [if_neg HH9.out,HSZ.out]]
    exact ⟨_,rfl,Kd.R_mono (HTZ.out.R HW15.out.row (fun k hk e => by omega)) (fun _ _ => trivial),HBz.out⟩
  ·have bL : (s.left - 1 == 0) = false:=beq_eq_false_iff_ne.mpr hL
   have HSTEP : Hid (stepS T = { T with left:=s.left - 1 }):=Lib.hid (by unfold stepS;rw [HTK.out.2,if_neg hL])
   clear hL
   go_wp2_with ((with_reducible refine gate_store (t:=31) (p:=4) rfl ?_);refine store_box rfl rfl rfl (g:=w.heap.size + 1) (j:=0) (cs := #[.int .i64 0, .int .i64 0, .int .i64 0, .int .i64 0, .int .i64 0, .int .i64 0, .bool false, .int .u32 0, .bool false, .int .i64 0, .slice none 0 0]) (cs' := #[.int .i64 T.field, .int .i64 (s.left - 1), .int .i64 T.run, .int .i64 T.level, .int .i64 T.crc, .int .i64 T.acc, .bool T.ext, .int .u32 T.id, .bool T.rtr, .int .i64 T.dlc,(.slice A5 T.data.length c5)]) (T:=31) (u := .agg #[.int .i64 T.field, .int .i64 (s.left - 1), .int .i64 T.run, .int .i64 T.level, .int .i64 T.crc, .int .i64 T.acc, .bool T.ext, .int .u32 T.id, .bool T.rtr, .int .i64 T.dlc,(.slice A5 T.data.length c5)]) (seg := [.int .i64 T.field, .int .i64 (s.left - 1), .int .i64 T.run, .int .i64 T.level, .int .i64 T.crc, .int .i64 T.acc, .bool T.ext, .int .u32 T.id, .bool T.rtr, .int .i64 T.dlc,(.slice A5 T.data.length c5)]) rfl rfl HW11.out.res rfl (by kernel_rfl) rfl rfl rfl ?_;intro wz hx hT;have HX:=Lib.hid hx;have HTZ:=Lib.hid hT;have HBz:=Lib.hid (hT.below HW11.out.below HW11.out.below.size (fun k hk => by omega));clear hx hT)
   refine bodyPost_ret (results_ct rfl _ _ (w.heap.size + 1) 31 #[.int .i64 T.field, .int .i64 (s.left - 1), .int .i64 T.run, .int .i64 T.level, .int .i64 T.crc, .int .i64 T.acc, .bool T.ext, .int .u32 T.id, .bool T.rtr, .int .i64 T.dlc,(.slice A5 T.data.length c5)] (0,0) _ rfl HX.out Tryd.underlying31 rfl (by kernel_rfl)) rfl ?_
   rw [HSTEP.out]
   exact ⟨_,rfl,Kd.R_mono (HTZ.out.R HW11.out.row (fun k hk e => by omega)) (fun _ _ => trivial),HBz.out⟩
end Go.Proofs.YtdoclpgciadjaaaDoor.P
