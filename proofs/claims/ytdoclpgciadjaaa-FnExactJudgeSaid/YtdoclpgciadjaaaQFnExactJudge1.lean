import Derived.Test.YtdoclpgciadjaaaQFnExactJudge0
import Derived.Test.YtdoclpgciadjaaaWWords
import Derived.ArgAppend
import Derived.Test.YtdoclpgciadjaaaWQPut
import Derived.Laws.BitsAllLaws
import Derived.Laws.BitsLemmas
import Derived.Lib.Strings
import Derived.Lib.SmallJoins

namespace Go.Proofs.Ytdoclpgciadjaaa.P
open Go.RowKit Go.Proofs.YtdoclpgciadjaaaW.PrintWords Go.Proofs.YtdoclpgciadjaaaW.PrintLast Go.Proofs.YtdoclpgciadjaaaW.PrintMore
attribute [local go_sem] max2_int min2_int max_two min_two max_three min_three max_four min_four
set_option linter.unusedVariables false
set_option linter.unusedSimpArgs false

-- GIVEN rounds=0 making=1 import=Derived.Test.YtdoclpgciadjaaaWalk import=Derived.Test.YtdoclpgciadjaaaPlain9
/-! ### impl_walk_plain: function 156 -/
theorem endW_left (s : WS) (b : Int) : (endW s b).left = s.left := by unfold endW; (repeat' split) <;> rfl
theorem endW_field (s : WS) (b : Int) : (endW s b).field = s.field := by unfold endW; (repeat' split) <;> rfl
theorem endW_dlc (s : WS) (b : Int) : (endW s b).dlc = s.dlc := by unfold endW; (repeat' split) <;> rfl
theorem plain_1_0 (p : Nat) (v : Value) (s : WS) (w : World) (hp : w.heap[p]? = some (objW s v)) (ok : WOk s) (hfld : s.field = 1) :
    Calls Try.prog 156 #[.pointer (some ⟨p, 0, none⟩), .int .i64 0] w (EndW w p (plainW s 0) v) := by
  have HP := Lib.hid hp
  have hc1 := cW1 hp
  have hc5 := cW5 hp
  have hf5 := fW hp 5
  have HF := Lib.hid hfld
  have OK := Lib.hid ok
  have hL : Hid (plainW s 0 = nextW { s with sum := crcI s.sum 0 }) := Lib.hid (by
    have e0 : sumW s 0 = { s with sum := crcI s.sum 0 } := by unfold sumW; rw [if_pos (by omega)]
    unfold plainW
    rw [e0]
    unfold takeW
    simp only [hfld]
    rfl)
  rw [hfld] at hc1
  clear hp hfld ok
  go_enter Try.func156, Try.ntmps156
  go_wp2_with (first | (go_at_call 78; refine (impl_crcBit.same _ _ _).mono ?_; rintro e w' ⟨rfl, rfl⟩))
  (refine (impl_walk_next.calls p v ({ s with sum := crcI s.sum 0 }) _ (setW5 HP.out _) OK.out.d0 OK.out.l0 OK.out.l1 OK.out.f0 OK.out.f1).mono ?_; intro e w2 hE; have HE := Lib.hid hE; obtain rfl := hE.ret; clear hE)
  go_wp2_with (fail)
  go_end0
  rw [hL.out]
  exact ⟨rfl, HE.out.obj, ((Tch.refl1 _ _).one 5 _).trans HE.out.tch⟩
theorem plain_1_1 (p : Nat) (v : Value) (s : WS) (w : World) (hp : w.heap[p]? = some (objW s v)) (ok : WOk s) (hfld : s.field = 1) :
    Calls Try.prog 156 #[.pointer (some ⟨p, 0, none⟩), .int .i64 1] w (EndW w p (plainW s 1) v) := by
  have HP := Lib.hid hp
  have hc1 := cW1 hp
  have hc5 := cW5 hp
  have hf5 := fW hp 5
  have hf0 := fW hp 0
  have hc0 := cW0 hp
  have HF := Lib.hid hfld
  have OK := Lib.hid ok
  have hL : Hid (plainW s 1 = nextW { s with sum := crcI s.sum 1, code := 4 }) := Lib.hid (by
    have e0 : sumW s 1 = { s with sum := crcI s.sum 1 } := by unfold sumW; rw [if_pos (by omega)]
    unfold plainW
    rw [e0]
    unfold takeW
    simp only [hfld]
    rfl)
  rw [hfld] at hc1
  clear hp hfld ok
  go_enter Try.func156, Try.ntmps156
  go_wp2_with (first | (go_at_call 78; refine (impl_crcBit.same _ _ _).mono ?_; rintro e w' ⟨rfl, rfl⟩))
  (refine (impl_walk_next.calls p v ({ s with sum := crcI s.sum 1, code := 4 }) _ (setW0 (setW5 HP.out _) _) OK.out.d0 OK.out.l0 OK.out.l1 OK.out.f0 OK.out.f1).mono ?_; intro e w2 hE; have HE := Lib.hid hE; obtain rfl := hE.ret; clear hE)
  go_wp2_with (fail)
  go_end0
  rw [hL.out]
  exact ⟨rfl, HE.out.obj, (((Tch.refl1 _ _).one 5 _).one 0 _).trans HE.out.tch⟩
theorem plain_2_0 (p : Nat) (v : Value) (s : WS) (w : World) (hp : w.heap[p]? = some (objW s v)) (ok : WOk s) (hfld : s.field = 2) :
    Calls Try.prog 156 #[.pointer (some ⟨p, 0, none⟩), .int .i64 0] w (EndW w p (plainW s 0) v) := by
  have HP := Lib.hid hp
  have hc1 := cW1 hp
  have hc5 := cW5 hp
  have hc8 := cW8 hp
  have hf5 := fW hp 5
  have hf8 := fW hp 8
  have HF := Lib.hid hfld
  have OK := Lib.hid ok
  have hL : Hid (plainW s 0 = nextW { s with sum := crcI s.sum 0, id := Go.bits .or .u32 (s.id * 2 % 4294967296) 0 }) := Lib.hid (by
    have e0 : sumW s 0 = { s with sum := crcI s.sum 0 } := by unfold sumW; rw [if_pos (by omega)]
    unfold plainW
    rw [e0]
    unfold takeW
    simp only [hfld]
    rw [or_u32 s.id 0 ok.i0 (by omega)]
    rfl)
  rw [hfld] at hc1
  clear hp hfld ok
  go_enter Try.func156, Try.ntmps156
  go_wp2_with (first | (go_at_call 78; refine (impl_crcBit.same _ _ _).mono ?_; rintro e w' ⟨rfl, rfl⟩))
  (refine (impl_walk_next.calls p v ({ s with sum := crcI s.sum 0, id := Go.bits .or .u32 (s.id * 2 % 4294967296) 0 }) _ (setW8 (setW5 HP.out _) _) OK.out.d0 OK.out.l0 OK.out.l1 OK.out.f0 OK.out.f1).mono ?_; intro e w2 hE; have HE := Lib.hid hE; obtain rfl := hE.ret; clear hE)
  go_wp2_with (fail)
  go_end0
  rw [hL.out]
  exact ⟨rfl, HE.out.obj, (((Tch.refl1 _ _).one 5 _).one 8 _).trans HE.out.tch⟩
theorem plain_2_1 (p : Nat) (v : Value) (s : WS) (w : World) (hp : w.heap[p]? = some (objW s v)) (ok : WOk s) (hfld : s.field = 2) :
    Calls Try.prog 156 #[.pointer (some ⟨p, 0, none⟩), .int .i64 1] w (EndW w p (plainW s 1) v) := by
  have HP := Lib.hid hp
  have hc1 := cW1 hp
  have hc5 := cW5 hp
  have hc8 := cW8 hp
  have hf5 := fW hp 5
  have hf8 := fW hp 8
  have HF := Lib.hid hfld
  have OK := Lib.hid ok
  have hL : Hid (plainW s 1 = nextW { s with sum := crcI s.sum 1, id := Go.bits .or .u32 (s.id * 2 % 4294967296) 1 }) := Lib.hid (by
    have e0 : sumW s 1 = { s with sum := crcI s.sum 1 } := by unfold sumW; rw [if_pos (by omega)]
    unfold plainW
    rw [e0]
    unfold takeW
    simp only [hfld]
    rw [or_u32 s.id 1 ok.i0 (by omega)]
    rfl)
  rw [hfld] at hc1
  clear hp hfld ok
  go_enter Try.func156, Try.ntmps156
  go_wp2_with (first | (go_at_call 78; refine (impl_crcBit.same _ _ _).mono ?_; rintro e w' ⟨rfl, rfl⟩))
  (refine (impl_walk_next.calls p v ({ s with sum := crcI s.sum 1, id := Go.bits .or .u32 (s.id * 2 % 4294967296) 1 }) _ (setW8 (setW5 HP.out _) _) OK.out.d0 OK.out.l0 OK.out.l1 OK.out.f0 OK.out.f1).mono ?_; intro e w2 hE; have HE := Lib.hid hE; obtain rfl := hE.ret; clear hE)
  go_wp2_with (fail)
  go_end0
  rw [hL.out]
  exact ⟨rfl, HE.out.obj, (((Tch.refl1 _ _).one 5 _).one 8 _).trans HE.out.tch⟩
theorem plain_3_0 (p : Nat) (v : Value) (s : WS) (w : World) (hp : w.heap[p]? = some (objW s v)) (ok : WOk s) (hfld : s.field = 3) :
    Calls Try.prog 156 #[.pointer (some ⟨p, 0, none⟩), .int .i64 0] w (EndW w p (plainW s 0) v) := by
  have HP := Lib.hid hp
  have hc1 := cW1 hp
  have hc5 := cW5 hp
  have hc9 := cW9 hp
  have hf5 := fW hp 5
  have hf9 := fW hp 9
  have HF := Lib.hid hfld
  have OK := Lib.hid ok
  have hL : Hid (plainW s 0 = nextW { s with sum := crcI s.sum 0, rtr := false }) := Lib.hid (by
    have e0 : sumW s 0 = { s with sum := crcI s.sum 0 } := by unfold sumW; rw [if_pos (by omega)]
    unfold plainW
    rw [e0]
    unfold takeW
    simp only [hfld]
    rfl)
  rw [hfld] at hc1
  clear hp hfld ok
  go_enter Try.func156, Try.ntmps156
  go_wp2_with (first | (go_at_call 78; refine (impl_crcBit.same _ _ _).mono ?_; rintro e w' ⟨rfl, rfl⟩))
  (refine (impl_walk_next.calls p v ({ s with sum := crcI s.sum 0, rtr := false }) _ (setW9 (setW5 HP.out _) _) OK.out.d0 OK.out.l0 OK.out.l1 OK.out.f0 OK.out.f1).mono ?_; intro e w2 hE; have HE := Lib.hid hE; obtain rfl := hE.ret; clear hE)
  go_wp2_with (fail)
  go_end0
  rw [hL.out]
  exact ⟨rfl, HE.out.obj, (((Tch.refl1 _ _).one 5 _).one 9 _).trans HE.out.tch⟩
theorem plain_3_1 (p : Nat) (v : Value) (s : WS) (w : World) (hp : w.heap[p]? = some (objW s v)) (ok : WOk s) (hfld : s.field = 3) :
    Calls Try.prog 156 #[.pointer (some ⟨p, 0, none⟩), .int .i64 1] w (EndW w p (plainW s 1) v) := by
  have HP := Lib.hid hp
  have hc1 := cW1 hp
  have hc5 := cW5 hp
  have hc9 := cW9 hp
  have hf5 := fW hp 5
  have hf9 := fW hp 9
  have HF := Lib.hid hfld
  have OK := Lib.hid ok
  have hL : Hid (plainW s 1 = nextW { s with sum := crcI s.sum 1, rtr := true }) := Lib.hid (by
    have e0 : sumW s 1 = { s with sum := crcI s.sum 1 } := by unfold sumW; rw [if_pos (by omega)]
    unfold plainW
    rw [e0]
    unfold takeW
    simp only [hfld]
    rfl)
  rw [hfld] at hc1
  clear hp hfld ok
  go_enter Try.func156, Try.ntmps156
  go_wp2_with (first | (go_at_call 78; refine (impl_crcBit.same _ _ _).mono ?_; rintro e w' ⟨rfl, rfl⟩))
  (refine (impl_walk_next.calls p v ({ s with sum := crcI s.sum 1, rtr := true }) _ (setW9 (setW5 HP.out _) _) OK.out.d0 OK.out.l0 OK.out.l1 OK.out.f0 OK.out.f1).mono ?_; intro e w2 hE; have HE := Lib.hid hE; obtain rfl := hE.ret; clear hE)
  go_wp2_with (fail)
  go_end0
  rw [hL.out]
  exact ⟨rfl, HE.out.obj, (((Tch.refl1 _ _).one 5 _).one 9 _).trans HE.out.tch⟩
theorem plain_4_0 (p : Nat) (v : Value) (s : WS) (w : World) (hp : w.heap[p]? = some (objW s v)) (ok : WOk s) (hfld : s.field = 4) :
    Calls Try.prog 156 #[.pointer (some ⟨p, 0, none⟩), .int .i64 0] w (EndW w p (plainW s 0) v) := by
  have HP := Lib.hid hp
  have hc1 := cW1 hp
  have hc5 := cW5 hp
  have hc7 := cW7 hp
  have hf5 := fW hp 5
  have hf7 := fW hp 7
  have HF := Lib.hid hfld
  have OK := Lib.hid ok
  have hL : Hid (plainW s 0 = nextW { s with sum := crcI s.sum 0, ext := false }) := Lib.hid (by
    have e0 : sumW s 0 = { s with sum := crcI s.sum 0 } := by unfold sumW; rw [if_pos (by omega)]
    unfold plainW
    rw [e0]
    unfold takeW
    simp only [hfld]
    rfl)
  rw [hfld] at hc1
  clear hp hfld ok
  go_enter Try.func156, Try.ntmps156
  go_wp2_with (first | (go_at_call 78; refine (impl_crcBit.same _ _ _).mono ?_; rintro e w' ⟨rfl, rfl⟩))
  (refine (impl_walk_next.calls p v ({ s with sum := crcI s.sum 0, ext := false }) _ (setW7 (setW5 HP.out _) _) OK.out.d0 OK.out.l0 OK.out.l1 OK.out.f0 OK.out.f1).mono ?_; intro e w2 hE; have HE := Lib.hid hE; obtain rfl := hE.ret; clear hE)
  go_wp2_with (fail)
  go_end0
  rw [hL.out]
  exact ⟨rfl, HE.out.obj, (((Tch.refl1 _ _).one 5 _).one 7 _).trans HE.out.tch⟩
theorem plain_4_1 (p : Nat) (v : Value) (s : WS) (w : World) (hp : w.heap[p]? = some (objW s v)) (ok : WOk s) (hfld : s.field = 4) :
    Calls Try.prog 156 #[.pointer (some ⟨p, 0, none⟩), .int .i64 1] w (EndW w p (plainW s 1) v) := by
  have HP := Lib.hid hp
  have hc1 := cW1 hp
  have hc5 := cW5 hp
  have hc7 := cW7 hp
  have hf5 := fW hp 5
  have hf7 := fW hp 7
  have HF := Lib.hid hfld
  have OK := Lib.hid ok
  have hL : Hid (plainW s 1 = nextW { s with sum := crcI s.sum 1, ext := true }) := Lib.hid (by
    have e0 : sumW s 1 = { s with sum := crcI s.sum 1 } := by unfold sumW; rw [if_pos (by omega)]
    unfold plainW
    rw [e0]
    unfold takeW
    simp only [hfld]
    rfl)
  rw [hfld] at hc1
  clear hp hfld ok
  go_enter Try.func156, Try.ntmps156
  go_wp2_with (first | (go_at_call 78; refine (impl_crcBit.same _ _ _).mono ?_; rintro e w' ⟨rfl, rfl⟩))
  (refine (impl_walk_next.calls p v ({ s with sum := crcI s.sum 1, ext := true }) _ (setW7 (setW5 HP.out _) _) OK.out.d0 OK.out.l0 OK.out.l1 OK.out.f0 OK.out.f1).mono ?_; intro e w2 hE; have HE := Lib.hid hE; obtain rfl := hE.ret; clear hE)
  go_wp2_with (fail)
  go_end0
  rw [hL.out]
  exact ⟨rfl, HE.out.obj, (((Tch.refl1 _ _).one 5 _).one 7 _).trans HE.out.tch⟩
theorem plain_5_0 (p : Nat) (v : Value) (s : WS) (w : World) (hp : w.heap[p]? = some (objW s v)) (ok : WOk s) (hfld : s.field = 5) :
    Calls Try.prog 156 #[.pointer (some ⟨p, 0, none⟩), .int .i64 0] w (EndW w p (plainW s 0) v) := by
  have HP := Lib.hid hp
  have hc1 := cW1 hp
  have hc5 := cW5 hp
  have hc8 := cW8 hp
  have hf5 := fW hp 5
  have hf8 := fW hp 8
  have HF := Lib.hid hfld
  have OK := Lib.hid ok
  have hL : Hid (plainW s 0 = nextW { s with sum := crcI s.sum 0, id := Go.bits .or .u32 (s.id * 2 % 4294967296) 0 }) := Lib.hid (by
    have e0 : sumW s 0 = { s with sum := crcI s.sum 0 } := by unfold sumW; rw [if_pos (by omega)]
    unfold plainW
    rw [e0]
    unfold takeW
    simp only [hfld]
    rw [or_u32 s.id 0 ok.i0 (by omega)]
    rfl)
  rw [hfld] at hc1
  clear hp hfld ok
  go_enter Try.func156, Try.ntmps156
  go_wp2_with (first | (go_at_call 78; refine (impl_crcBit.same _ _ _).mono ?_; rintro e w' ⟨rfl, rfl⟩))
  (refine (impl_walk_next.calls p v ({ s with sum := crcI s.sum 0, id := Go.bits .or .u32 (s.id * 2 % 4294967296) 0 }) _ (setW8 (setW5 HP.out _) _) OK.out.d0 OK.out.l0 OK.out.l1 OK.out.f0 OK.out.f1).mono ?_; intro e w2 hE; have HE := Lib.hid hE; obtain rfl := hE.ret; clear hE)
  go_wp2_with (fail)
  go_end0
  rw [hL.out]
  exact ⟨rfl, HE.out.obj, (((Tch.refl1 _ _).one 5 _).one 8 _).trans HE.out.tch⟩
theorem plain_5_1 (p : Nat) (v : Value) (s : WS) (w : World) (hp : w.heap[p]? = some (objW s v)) (ok : WOk s) (hfld : s.field = 5) :
    Calls Try.prog 156 #[.pointer (some ⟨p, 0, none⟩), .int .i64 1] w (EndW w p (plainW s 1) v) := by
  have HP := Lib.hid hp
  have hc1 := cW1 hp
  have hc5 := cW5 hp
  have hc8 := cW8 hp
  have hf5 := fW hp 5
  have hf8 := fW hp 8
  have HF := Lib.hid hfld
  have OK := Lib.hid ok
  have hL : Hid (plainW s 1 = nextW { s with sum := crcI s.sum 1, id := Go.bits .or .u32 (s.id * 2 % 4294967296) 1 }) := Lib.hid (by
    have e0 : sumW s 1 = { s with sum := crcI s.sum 1 } := by unfold sumW; rw [if_pos (by omega)]
    unfold plainW
    rw [e0]
    unfold takeW
    simp only [hfld]
    rw [or_u32 s.id 1 ok.i0 (by omega)]
    rfl)
  rw [hfld] at hc1
  clear hp hfld ok
  go_enter Try.func156, Try.ntmps156
  go_wp2_with (first | (go_at_call 78; refine (impl_crcBit.same _ _ _).mono ?_; rintro e w' ⟨rfl, rfl⟩))
  (refine (impl_walk_next.calls p v ({ s with sum := crcI s.sum 1, id := Go.bits .or .u32 (s.id * 2 % 4294967296) 1 }) _ (setW8 (setW5 HP.out _) _) OK.out.d0 OK.out.l0 OK.out.l1 OK.out.f0 OK.out.f1).mono ?_; intro e w2 hE; have HE := Lib.hid hE; obtain rfl := hE.ret; clear hE)
  go_wp2_with (fail)
  go_end0
  rw [hL.out]
  exact ⟨rfl, HE.out.obj, (((Tch.refl1 _ _).one 5 _).one 8 _).trans HE.out.tch⟩
theorem plain_6_0 (p : Nat) (v : Value) (s : WS) (w : World) (hp : w.heap[p]? = some (objW s v)) (ok : WOk s) (hfld : s.field = 6) :
    Calls Try.prog 156 #[.pointer (some ⟨p, 0, none⟩), .int .i64 0] w (EndW w p (plainW s 0) v) := by
  have HP := Lib.hid hp
  have hc1 := cW1 hp
  have hc5 := cW5 hp
  have hc9 := cW9 hp
  have hf5 := fW hp 5
  have hf9 := fW hp 9
  have HF := Lib.hid hfld
  have OK := Lib.hid ok
  have hL : Hid (plainW s 0 = nextW { s with sum := crcI s.sum 0, rtr := false }) := Lib.hid (by
    have e0 : sumW s 0 = { s with sum := crcI s.sum 0 } := by unfold sumW; rw [if_pos (by omega)]
    unfold plainW
    rw [e0]
    unfold takeW
    simp only [hfld]
    rfl)
  rw [hfld] at hc1
  clear hp hfld ok
  go_enter Try.func156, Try.ntmps156
  go_wp2_with (first | (go_at_call 78; refine (impl_crcBit.same _ _ _).mono ?_; rintro e w' ⟨rfl, rfl⟩))
  (refine (impl_walk_next.calls p v ({ s with sum := crcI s.sum 0, rtr := false }) _ (setW9 (setW5 HP.out _) _) OK.out.d0 OK.out.l0 OK.out.l1 OK.out.f0 OK.out.f1).mono ?_; intro e w2 hE; have HE := Lib.hid hE; obtain rfl := hE.ret; clear hE)
  go_wp2_with (fail)
  go_end0
  rw [hL.out]
  exact ⟨rfl, HE.out.obj, (((Tch.refl1 _ _).one 5 _).one 9 _).trans HE.out.tch⟩
theorem plain_6_1 (p : Nat) (v : Value) (s : WS) (w : World) (hp : w.heap[p]? = some (objW s v)) (ok : WOk s) (hfld : s.field = 6) :
    Calls Try.prog 156 #[.pointer (some ⟨p, 0, none⟩), .int .i64 1] w (EndW w p (plainW s 1) v) := by
  have HP := Lib.hid hp
  have hc1 := cW1 hp
  have hc5 := cW5 hp
  have hc9 := cW9 hp
  have hf5 := fW hp 5
  have hf9 := fW hp 9
  have HF := Lib.hid hfld
  have OK := Lib.hid ok
  have hL : Hid (plainW s 1 = nextW { s with sum := crcI s.sum 1, rtr := true }) := Lib.hid (by
    have e0 : sumW s 1 = { s with sum := crcI s.sum 1 } := by unfold sumW; rw [if_pos (by omega)]
    unfold plainW
    rw [e0]
    unfold takeW
    simp only [hfld]
    rfl)
  rw [hfld] at hc1
  clear hp hfld ok
  go_enter Try.func156, Try.ntmps156
  go_wp2_with (first | (go_at_call 78; refine (impl_crcBit.same _ _ _).mono ?_; rintro e w' ⟨rfl, rfl⟩))
  (refine (impl_walk_next.calls p v ({ s with sum := crcI s.sum 1, rtr := true }) _ (setW9 (setW5 HP.out _) _) OK.out.d0 OK.out.l0 OK.out.l1 OK.out.f0 OK.out.f1).mono ?_; intro e w2 hE; have HE := Lib.hid hE; obtain rfl := hE.ret; clear hE)
  go_wp2_with (fail)
  go_end0
  rw [hL.out]
  exact ⟨rfl, HE.out.obj, (((Tch.refl1 _ _).one 5 _).one 9 _).trans HE.out.tch⟩
theorem plain_7_0 (p : Nat) (v : Value) (s : WS) (w : World) (hp : w.heap[p]? = some (objW s v)) (ok : WOk s) (hfld : s.field = 7) :
    Calls Try.prog 156 #[.pointer (some ⟨p, 0, none⟩), .int .i64 0] w (EndW w p (plainW s 0) v) := by
  have HP := Lib.hid hp
  have hc1 := cW1 hp
  have hc5 := cW5 hp
  have hf5 := fW hp 5
  have HF := Lib.hid hfld
  have OK := Lib.hid ok
  have hL : Hid (plainW s 0 = nextW { s with sum := crcI s.sum 0 }) := Lib.hid (by
    have e0 : sumW s 0 = { s with sum := crcI s.sum 0 } := by unfold sumW; rw [if_pos (by omega)]
    unfold plainW
    rw [e0]
    unfold takeW
    simp only [hfld]
    rfl)
  rw [hfld] at hc1
  clear hp hfld ok
  go_enter Try.func156, Try.ntmps156
  go_wp2_with (first | (go_at_call 78; refine (impl_crcBit.same _ _ _).mono ?_; rintro e w' ⟨rfl, rfl⟩))
  (refine (impl_walk_next.calls p v ({ s with sum := crcI s.sum 0 }) _ (setW5 HP.out _) OK.out.d0 OK.out.l0 OK.out.l1 OK.out.f0 OK.out.f1).mono ?_; intro e w2 hE; have HE := Lib.hid hE; obtain rfl := hE.ret; clear hE)
  go_wp2_with (fail)
  go_end0
  rw [hL.out]
  exact ⟨rfl, HE.out.obj, ((Tch.refl1 _ _).one 5 _).trans HE.out.tch⟩
theorem plain_7_1 (p : Nat) (v : Value) (s : WS) (w : World) (hp : w.heap[p]? = some (objW s v)) (ok : WOk s) (hfld : s.field = 7) :
    Calls Try.prog 156 #[.pointer (some ⟨p, 0, none⟩), .int .i64 1] w (EndW w p (plainW s 1) v) := by
  have HP := Lib.hid hp
  have hc1 := cW1 hp
  have hc5 := cW5 hp
  have hf5 := fW hp 5
  have HF := Lib.hid hfld
  have OK := Lib.hid ok
  have hL : Hid (plainW s 1 = nextW { s with sum := crcI s.sum 1 }) := Lib.hid (by
    have e0 : sumW s 1 = { s with sum := crcI s.sum 1 } := by unfold sumW; rw [if_pos (by omega)]
    unfold plainW
    rw [e0]
    unfold takeW
    simp only [hfld]
    rfl)
  rw [hfld] at hc1
  clear hp hfld ok
  go_enter Try.func156, Try.ntmps156
  go_wp2_with (first | (go_at_call 78; refine (impl_crcBit.same _ _ _).mono ?_; rintro e w' ⟨rfl, rfl⟩))
  (refine (impl_walk_next.calls p v ({ s with sum := crcI s.sum 1 }) _ (setW5 HP.out _) OK.out.d0 OK.out.l0 OK.out.l1 OK.out.f0 OK.out.f1).mono ?_; intro e w2 hE; have HE := Lib.hid hE; obtain rfl := hE.ret; clear hE)
  go_wp2_with (fail)
  go_end0
  rw [hL.out]
  exact ⟨rfl, HE.out.obj, ((Tch.refl1 _ _).one 5 _).trans HE.out.tch⟩
theorem plain_8_0 (p : Nat) (v : Value) (s : WS) (w : World) (hp : w.heap[p]? = some (objW s v)) (ok : WOk s) (hfld : s.field = 8) :
    Calls Try.prog 156 #[.pointer (some ⟨p, 0, none⟩), .int .i64 0] w (EndW w p (plainW s 0) v) := by
  have HP := Lib.hid hp
  have hc1 := cW1 hp
  have hc5 := cW5 hp
  have hc10 := cW10 hp
  have hf5 := fW hp 5
  have hf10 := fW hp 10
  have hd0 := ok.d0
  have hd1 := ok.d1
  have HF := Lib.hid hfld
  have OK := Lib.hid ok
  have HD : Hid (0 ≤ Go.bits .or .i64 (s.dlc * 2) 0) := Lib.hid (by rw [show s.dlc * 2 = wrap64 (s.dlc * 2) by unfold wrap64; omega, or_i64 s.dlc 0 ok.d0 (by omega) (by omega)]; omega)
  have hL : Hid (plainW s 0 = nextW { s with sum := crcI s.sum 0, dlc := Go.bits .or .i64 (s.dlc * 2) 0 }) := Lib.hid (by
    have e0 : sumW s 0 = { s with sum := crcI s.sum 0 } := by unfold sumW; rw [if_pos (by omega)]
    unfold plainW
    rw [e0]
    unfold takeW
    simp only [hfld]
    rw [show s.dlc * 2 = wrap64 (s.dlc * 2) by unfold wrap64; omega, or_i64 s.dlc 0 ok.d0 (by omega) (by omega)]
    rfl)
  rw [hfld] at hc1
  clear hp hfld ok
  go_enter Try.func156, Try.ntmps156
  go_wp2_with (first | (go_at_call 78; refine (impl_crcBit.same _ _ _).mono ?_; rintro e w' ⟨rfl, rfl⟩))
  (refine (impl_walk_next.calls p v ({ s with sum := crcI s.sum 0, dlc := Go.bits .or .i64 (s.dlc * 2) 0 }) _ (setW10 (setW5 HP.out _) _) HD.out OK.out.l0 OK.out.l1 OK.out.f0 OK.out.f1).mono ?_; intro e w2 hE; have HE := Lib.hid hE; obtain rfl := hE.ret; clear hE)
  go_wp2_with (fail)
  go_end0
  rw [hL.out]
  exact ⟨rfl, HE.out.obj, (((Tch.refl1 _ _).one 5 _).one 10 _).trans HE.out.tch⟩
theorem plain_8_1 (p : Nat) (v : Value) (s : WS) (w : World) (hp : w.heap[p]? = some (objW s v)) (ok : WOk s) (hfld : s.field = 8) :
    Calls Try.prog 156 #[.pointer (some ⟨p, 0, none⟩), .int .i64 1] w (EndW w p (plainW s 1) v) := by
  have HP := Lib.hid hp
  have hc1 := cW1 hp
  have hc5 := cW5 hp
  have hc10 := cW10 hp
  have hf5 := fW hp 5
  have hf10 := fW hp 10
  have hd0 := ok.d0
  have hd1 := ok.d1
  have HF := Lib.hid hfld
  have OK := Lib.hid ok
  have HD : Hid (0 ≤ Go.bits .or .i64 (s.dlc * 2) 1) := Lib.hid (by rw [show s.dlc * 2 = wrap64 (s.dlc * 2) by unfold wrap64; omega, or_i64 s.dlc 1 ok.d0 (by omega) (by omega)]; omega)
  have hL : Hid (plainW s 1 = nextW { s with sum := crcI s.sum 1, dlc := Go.bits .or .i64 (s.dlc * 2) 1 }) := Lib.hid (by
    have e0 : sumW s 1 = { s with sum := crcI s.sum 1 } := by unfold sumW; rw [if_pos (by omega)]
    unfold plainW
    rw [e0]
    unfold takeW
    simp only [hfld]
    rw [show s.dlc * 2 = wrap64 (s.dlc * 2) by unfold wrap64; omega, or_i64 s.dlc 1 ok.d0 (by omega) (by omega)]
    rfl)
  rw [hfld] at hc1
  clear hp hfld ok
  go_enter Try.func156, Try.ntmps156
  go_wp2_with (first | (go_at_call 78; refine (impl_crcBit.same _ _ _).mono ?_; rintro e w' ⟨rfl, rfl⟩))
  (refine (impl_walk_next.calls p v ({ s with sum := crcI s.sum 1, dlc := Go.bits .or .i64 (s.dlc * 2) 1 }) _ (setW10 (setW5 HP.out _) _) HD.out OK.out.l0 OK.out.l1 OK.out.f0 OK.out.f1).mono ?_; intro e w2 hE; have HE := Lib.hid hE; obtain rfl := hE.ret; clear hE)
  go_wp2_with (fail)
  go_end0
  rw [hL.out]
  exact ⟨rfl, HE.out.obj, (((Tch.refl1 _ _).one 5 _).one 10 _).trans HE.out.tch⟩
theorem plain_10_0 (p : Nat) (v : Value) (s : WS) (w : World) (hp : w.heap[p]? = some (objW s v)) (ok : WOk s) (hfld : s.field = 10) :
    Calls Try.prog 156 #[.pointer (some ⟨p, 0, none⟩), .int .i64 0] w (EndW w p (plainW s 0) v) := by
  have HP := Lib.hid hp
  have hc1 := cW1 hp
  have hc6 := cW6 hp
  have hf6 := fW hp 6
  have hg0 := ok.g0
  have hg1 := ok.g1
  have HF := Lib.hid hfld
  have OK := Lib.hid ok
  have hL : Hid (plainW s 0 = nextW { s with got := Go.bits .or .i64 (s.got * 2) 0 }) := Lib.hid (by
    have e0 : sumW s 0 = s := by unfold sumW; rw [if_neg (by omega)]
    unfold plainW
    rw [e0]
    unfold takeW
    simp only [hfld]
    rw [show s.got * 2 = wrap64 (s.got * 2) by unfold wrap64; omega, or_i64 s.got 0 ok.g0 (by omega) (by omega)]
    rfl)
  rw [hfld] at hc1
  clear hp hfld ok
  go_enter Try.func156, Try.ntmps156
  go_wp2_with (fail)
  (refine (impl_walk_next.calls p v ({ s with got := Go.bits .or .i64 (s.got * 2) 0 }) _ (setW6 HP.out _) OK.out.d0 OK.out.l0 OK.out.l1 OK.out.f0 OK.out.f1).mono ?_; intro e w2 hE; have HE := Lib.hid hE; obtain rfl := hE.ret; clear hE)
  go_wp2_with (fail)
  go_end0
  rw [hL.out]
  exact ⟨rfl, HE.out.obj, ((Tch.refl1 _ _).one 6 _).trans HE.out.tch⟩
theorem plain_10_1 (p : Nat) (v : Value) (s : WS) (w : World) (hp : w.heap[p]? = some (objW s v)) (ok : WOk s) (hfld : s.field = 10) :
    Calls Try.prog 156 #[.pointer (some ⟨p, 0, none⟩), .int .i64 1] w (EndW w p (plainW s 1) v) := by
  have HP := Lib.hid hp
  have hc1 := cW1 hp
  have hc6 := cW6 hp
  have hf6 := fW hp 6
  have hg0 := ok.g0
  have hg1 := ok.g1
  have HF := Lib.hid hfld
  have OK := Lib.hid ok
  have hL : Hid (plainW s 1 = nextW { s with got := Go.bits .or .i64 (s.got * 2) 1 }) := Lib.hid (by
    have e0 : sumW s 1 = s := by unfold sumW; rw [if_neg (by omega)]
    unfold plainW
    rw [e0]
    unfold takeW
    simp only [hfld]
    rw [show s.got * 2 = wrap64 (s.got * 2) by unfold wrap64; omega, or_i64 s.got 1 ok.g0 (by omega) (by omega)]
    rfl)
  rw [hfld] at hc1
  clear hp hfld ok
  go_enter Try.func156, Try.ntmps156
  go_wp2_with (fail)
  (refine (impl_walk_next.calls p v ({ s with got := Go.bits .or .i64 (s.got * 2) 1 }) _ (setW6 HP.out _) OK.out.d0 OK.out.l0 OK.out.l1 OK.out.f0 OK.out.f1).mono ?_; intro e w2 hE; have HE := Lib.hid hE; obtain rfl := hE.ret; clear hE)
  go_wp2_with (fail)
  go_end0
  rw [hL.out]
  exact ⟨rfl, HE.out.obj, ((Tch.refl1 _ _).one 6 _).trans HE.out.tch⟩
theorem plain_11_0 (p : Nat) (v : Value) (s : WS) (w : World) (hp : w.heap[p]? = some (objW s v)) (ok : WOk s) (hfld : s.field = 11) :
    Calls Try.prog 156 #[.pointer (some ⟨p, 0, none⟩), .int .i64 0] w (EndW w p (plainW s 0) v) := by
  have HP := Lib.hid hp
  have hc1 := cW1 hp
  have hf0 := fW hp 0
  have hc0 := cW0 hp
  have HF := Lib.hid hfld
  have OK := Lib.hid ok
  have hL : Hid (plainW s 0 = nextW { s with code := 4 }) := Lib.hid (by
    have e0 : sumW s 0 = s := by unfold sumW; rw [if_neg (by omega)]
    unfold plainW
    rw [e0]
    unfold takeW
    simp only [hfld]
    rfl)
  rw [hfld] at hc1
  clear hp hfld ok
  go_enter Try.func156, Try.ntmps156
  go_wp2_with (fail)
  (refine (impl_walk_next.calls p v ({ s with code := 4 }) _ (setW0 HP.out _) OK.out.d0 OK.out.l0 OK.out.l1 OK.out.f0 OK.out.f1).mono ?_; intro e w2 hE; have HE := Lib.hid hE; obtain rfl := hE.ret; clear hE)
  go_wp2_with (fail)
  go_end0
  rw [hL.out]
  exact ⟨rfl, HE.out.obj, ((Tch.refl1 _ _).one 0 _).trans HE.out.tch⟩
theorem plain_11_1 (p : Nat) (v : Value) (s : WS) (w : World) (hp : w.heap[p]? = some (objW s v)) (ok : WOk s) (hfld : s.field = 11) :
    Calls Try.prog 156 #[.pointer (some ⟨p, 0, none⟩), .int .i64 1] w (EndW w p (plainW s 1) v) := by
  have HP := Lib.hid hp
  have hc1 := cW1 hp
  have HF := Lib.hid hfld
  have OK := Lib.hid ok
  have hL : Hid (plainW s 1 = nextW s) := Lib.hid (by
    have e0 : sumW s 1 = s := by unfold sumW; rw [if_neg (by omega)]
    unfold plainW
    rw [e0]
    unfold takeW
    simp only [hfld]
    rfl)
  rw [hfld] at hc1
  clear hp hfld ok
  go_enter Try.func156, Try.ntmps156
  go_wp2_with (fail)
  (refine (impl_walk_next.calls p v (s) _ HP.out OK.out.d0 OK.out.l0 OK.out.l1 OK.out.f0 OK.out.f1).mono ?_; intro e w2 hE; have HE := Lib.hid hE; obtain rfl := hE.ret; clear hE)
  go_wp2_with (fail)
  go_end0
  rw [hL.out]
  exact ⟨rfl, HE.out.obj, (Tch.refl1 _ _).trans HE.out.tch⟩
theorem plain_12_0 (p : Nat) (v : Value) (s : WS) (w : World) (hp : w.heap[p]? = some (objW s v)) (ok : WOk s) (hfld : s.field = 12) :
    Calls Try.prog 156 #[.pointer (some ⟨p, 0, none⟩), .int .i64 0] w (EndW w p (plainW s 0) v) := by
  have HP := Lib.hid hp
  have hc1 := cW1 hp
  have HF := Lib.hid hfld
  have OK := Lib.hid ok
  have hL : Hid (plainW s 0 = nextW s) := Lib.hid (by
    have e0 : sumW s 0 = s := by unfold sumW; rw [if_neg (by omega)]
    unfold plainW
    rw [e0]
    unfold takeW
    simp only [hfld]
    rfl)
  rw [hfld] at hc1
  clear hp hfld ok
  go_enter Try.func156, Try.ntmps156
  go_wp2_with (fail)
  (refine (impl_walk_next.calls p v (s) _ HP.out OK.out.d0 OK.out.l0 OK.out.l1 OK.out.f0 OK.out.f1).mono ?_; intro e w2 hE; have HE := Lib.hid hE; obtain rfl := hE.ret; clear hE)
  go_wp2_with (fail)
  go_end0
  rw [hL.out]
  exact ⟨rfl, HE.out.obj, (Tch.refl1 _ _).trans HE.out.tch⟩
theorem plain_12_1 (p : Nat) (v : Value) (s : WS) (w : World) (hp : w.heap[p]? = some (objW s v)) (ok : WOk s) (hfld : s.field = 12) :
    Calls Try.prog 156 #[.pointer (some ⟨p, 0, none⟩), .int .i64 1] w (EndW w p (plainW s 1) v) := by
  have HP := Lib.hid hp
  have hc1 := cW1 hp
  have HF := Lib.hid hfld
  have OK := Lib.hid ok
  have hL : Hid (plainW s 1 = nextW s) := Lib.hid (by
    have e0 : sumW s 1 = s := by unfold sumW; rw [if_neg (by omega)]
    unfold plainW
    rw [e0]
    unfold takeW
    simp only [hfld]
    rfl)
  rw [hfld] at hc1
  clear hp hfld ok
  go_enter Try.func156, Try.ntmps156
  go_wp2_with (fail)
  (refine (impl_walk_next.calls p v (s) _ HP.out OK.out.d0 OK.out.l0 OK.out.l1 OK.out.f0 OK.out.f1).mono ?_; intro e w2 hE; have HE := Lib.hid hE; obtain rfl := hE.ret; clear hE)
  go_wp2_with (fail)
  go_end0
  rw [hL.out]
  exact ⟨rfl, HE.out.obj, (Tch.refl1 _ _).trans HE.out.tch⟩
theorem plain_13_0 (p : Nat) (v : Value) (s : WS) (w : World) (hp : w.heap[p]? = some (objW s v)) (ok : WOk s) (hfld : s.field = 13) :
    Calls Try.prog 156 #[.pointer (some ⟨p, 0, none⟩), .int .i64 0] w (EndW w p (plainW s 0) v) := by
  have HP := Lib.hid hp
  have hc1 := cW1 hp
  have hf0 := fW hp 0
  have hc0 := cW0 hp
  have HF := Lib.hid hfld
  have OK := Lib.hid ok
  have hL : Hid (plainW s 0 = nextW { s with code := 4 }) := Lib.hid (by
    have e0 : sumW s 0 = s := by unfold sumW; rw [if_neg (by omega)]
    unfold plainW
    rw [e0]
    unfold takeW
    simp only [hfld]
    rfl)
  rw [hfld] at hc1
  clear hp hfld ok
  go_enter Try.func156, Try.ntmps156
  go_wp2_with (fail)
  (refine (impl_walk_next.calls p v ({ s with code := 4 }) _ (setW0 HP.out _) OK.out.d0 OK.out.l0 OK.out.l1 OK.out.f0 OK.out.f1).mono ?_; intro e w2 hE; have HE := Lib.hid hE; obtain rfl := hE.ret; clear hE)
  go_wp2_with (fail)
  go_end0
  rw [hL.out]
  exact ⟨rfl, HE.out.obj, ((Tch.refl1 _ _).one 0 _).trans HE.out.tch⟩
theorem plain_13_1_ok (p : Nat) (v : Value) (s : WS) (w : World) (hp : w.heap[p]? = some (objW s v)) (ok : WOk s) (hfld : s.field = 13) (hk : crcOkW s = true) :
    Calls Try.prog 156 #[.pointer (some ⟨p, 0, none⟩), .int .i64 1] w (EndW w p (plainW s 1) v) := by
  have HP := Lib.hid hp
  have hc1 := cW1 hp
  have HF := Lib.hid hfld
  have OK := Lib.hid ok
  have hL : Hid (plainW s 1 = nextW s) := Lib.hid (by
    have e0 : sumW s 1 = s := by unfold sumW; rw [if_neg (by omega)]
    unfold plainW
    rw [e0]
    unfold takeW
    simp only [hfld]
    rw [hk]
    rfl)
  rw [hfld] at hc1
  have HKK := Lib.hid hk
  clear hk
  clear hp hfld ok
  go_enter Try.func156, Try.ntmps156
  go_wp2_with (fail)
  (refine (crcOk_is p v s _ HP.out _ HKK.out).mono ?_; intro e w1 hE1; have HE1 := Lib.hid hE1; obtain rfl := hE1.ret; clear hE1)
  go_wp2_with (fail)
  (refine (impl_walk_next.calls p v (s) _ HE1.out.obj OK.out.d0 OK.out.l0 OK.out.l1 OK.out.f0 OK.out.f1).mono ?_; intro e w2 hE; have HE := Lib.hid hE; obtain rfl := hE.ret; clear hE)
  go_wp2_with (fail)
  go_end0
  rw [hL.out]
  exact ⟨rfl, HE.out.obj, HE1.out.tch.trans HE.out.tch⟩
theorem plain_13_1_bad (p : Nat) (v : Value) (s : WS) (w : World) (hp : w.heap[p]? = some (objW s v)) (ok : WOk s) (hfld : s.field = 13) (hk : crcOkW s = false) :
    Calls Try.prog 156 #[.pointer (some ⟨p, 0, none⟩), .int .i64 1] w (EndW w p (plainW s 1) v) := by
  have HP := Lib.hid hp
  have hc1 := cW1 hp
  have hf0 := fW hp 0
  have hc0 := cW0 hp
  have HF := Lib.hid hfld
  have OK := Lib.hid ok
  have hL : Hid (plainW s 1 = nextW { s with code := 5 }) := Lib.hid (by
    have e0 : sumW s 1 = s := by unfold sumW; rw [if_neg (by omega)]
    unfold plainW
    rw [e0]
    unfold takeW
    simp only [hfld]
    rw [hk]
    rfl)
  rw [hfld] at hc1
  have HKK := Lib.hid hk
  clear hk
  clear hp hfld ok
  go_enter Try.func156, Try.ntmps156
  go_wp2_with (fail)
  (refine (crcOk_is p v s _ HP.out _ HKK.out).mono ?_; intro e w1 hE1; have HE1 := Lib.hid hE1; obtain rfl := hE1.ret; clear hE1)
  have hc0b := cW0 HE1.out.obj
  have hf0b := fW HE1.out.obj 0
  go_wp2_with (fail)
  (refine (impl_walk_next.calls p v ({ s with code := 5 }) _ (setW0 HE1.out.obj _) OK.out.d0 OK.out.l0 OK.out.l1 OK.out.f0 OK.out.f1).mono ?_; intro e w2 hE; have HE := Lib.hid hE; obtain rfl := hE.ret; clear hE)
  go_wp2_with (fail)
  go_end0
  rw [hL.out]
  exact ⟨rfl, HE.out.obj, (HE1.out.tch.one 0 _).trans HE.out.tch⟩
theorem plain_14_0 (p : Nat) (v : Value) (s : WS) (w : World) (hp : w.heap[p]? = some (objW s v)) (ok : WOk s) (hfld : s.field = 14) :
    Calls Try.prog 156 #[.pointer (some ⟨p, 0, none⟩), .int .i64 0] w (EndW w p (plainW s 0) v) := by
  have HP := Lib.hid hp
  have hc1 := cW1 hp
  have HF := Lib.hid hfld
  have OK := Lib.hid ok
  have hL : Hid (plainW s 0 = nextW (endW s 0)) := Lib.hid (by
    have e0 : sumW s 0 = s := by unfold sumW; rw [if_neg (by omega)]
    unfold plainW
    rw [e0]
    unfold takeW
    simp only [hfld]
    rfl)
  rw [hfld] at hc1
  clear hp hfld ok
  go_enter Try.func156, Try.ntmps156
  go_wp2_with (fail)
  (refine (impl_walk_end.calls p v s 0 (by omega) _ HP.out).mono ?_; intro e w1 hE1; have HE1 := Lib.hid hE1; obtain rfl := hE1.ret; clear hE1)
  go_wp2_with (fail)
  (refine (impl_walk_next.calls p v (endW s 0) _ HE1.out.obj (by rw [endW_dlc]; exact OK.out.d0) (by rw [endW_left]; exact OK.out.l0) (by rw [endW_left]; exact OK.out.l1) (by rw [endW_field]; exact OK.out.f0) (by rw [endW_field]; exact OK.out.f1)).mono ?_; intro e w2 hE; have HE := Lib.hid hE; obtain rfl := hE.ret; clear hE)
  go_wp2_with (fail)
  go_end0
  rw [hL.out]
  exact ⟨rfl, HE.out.obj, HE1.out.tch.trans HE.out.tch⟩
theorem plain_14_1 (p : Nat) (v : Value) (s : WS) (w : World) (hp : w.heap[p]? = some (objW s v)) (ok : WOk s) (hfld : s.field = 14) :
    Calls Try.prog 156 #[.pointer (some ⟨p, 0, none⟩), .int .i64 1] w (EndW w p (plainW s 1) v) := by
  have HP := Lib.hid hp
  have hc1 := cW1 hp
  have HF := Lib.hid hfld
  have OK := Lib.hid ok
  have hL : Hid (plainW s 1 = nextW (endW s 1)) := Lib.hid (by
    have e0 : sumW s 1 = s := by unfold sumW; rw [if_neg (by omega)]
    unfold plainW
    rw [e0]
    unfold takeW
    simp only [hfld]
    rfl)
  rw [hfld] at hc1
  clear hp hfld ok
  go_enter Try.func156, Try.ntmps156
  go_wp2_with (fail)
  (refine (impl_walk_end.calls p v s 1 (by omega) _ HP.out).mono ?_; intro e w1 hE1; have HE1 := Lib.hid hE1; obtain rfl := hE1.ret; clear hE1)
  go_wp2_with (fail)
  (refine (impl_walk_next.calls p v (endW s 1) _ HE1.out.obj (by rw [endW_dlc]; exact OK.out.d0) (by rw [endW_left]; exact OK.out.l0) (by rw [endW_left]; exact OK.out.l1) (by rw [endW_field]; exact OK.out.f0) (by rw [endW_field]; exact OK.out.f1)).mono ?_; intro e w2 hE; have HE := Lib.hid hE; obtain rfl := hE.ret; clear hE)
  go_wp2_with (fail)
  go_end0
  rw [hL.out]
  exact ⟨rfl, HE.out.obj, HE1.out.tch.trans HE.out.tch⟩
theorem plain_lit (p : Nat) (v : Value) (s : WS) (b : Int) (hb : b = 0 ∨ b = 1) (w : World) (hp : w.heap[p]? = some (objW s v)) (ok : WOk s) (h9 : s.field ≠ 9) :
    Calls Try.prog 156 #[.pointer (some ⟨p, 0, none⟩), .int .i64 b] w (EndW w p (plainW s b) v) := by
  have f0 := ok.f0
  have f1 := ok.f1
  by_cases c1 : s.field = 1
  · rcases hb with rfl | rfl
    · exact plain_1_0 p v s w hp ok c1
    · exact plain_1_1 p v s w hp ok c1
  by_cases c2 : s.field = 2
  · rcases hb with rfl | rfl
    · exact plain_2_0 p v s w hp ok c2
    · exact plain_2_1 p v s w hp ok c2
  by_cases c3 : s.field = 3
  · rcases hb with rfl | rfl
    · exact plain_3_0 p v s w hp ok c3
    · exact plain_3_1 p v s w hp ok c3
  by_cases c4 : s.field = 4
  · rcases hb with rfl | rfl
    · exact plain_4_0 p v s w hp ok c4
    · exact plain_4_1 p v s w hp ok c4
  by_cases c5 : s.field = 5
  · rcases hb with rfl | rfl
    · exact plain_5_0 p v s w hp ok c5
    · exact plain_5_1 p v s w hp ok c5
  by_cases c6 : s.field = 6
  · rcases hb with rfl | rfl
    · exact plain_6_0 p v s w hp ok c6
    · exact plain_6_1 p v s w hp ok c6
  by_cases c7 : s.field = 7
  · rcases hb with rfl | rfl
    · exact plain_7_0 p v s w hp ok c7
    · exact plain_7_1 p v s w hp ok c7
  by_cases c8 : s.field = 8
  · rcases hb with rfl | rfl
    · exact plain_8_0 p v s w hp ok c8
    · exact plain_8_1 p v s w hp ok c8
  by_cases c10 : s.field = 10
  · rcases hb with rfl | rfl
    · exact plain_10_0 p v s w hp ok c10
    · exact plain_10_1 p v s w hp ok c10
  by_cases c11 : s.field = 11
  · rcases hb with rfl | rfl
    · exact plain_11_0 p v s w hp ok c11
    · exact plain_11_1 p v s w hp ok c11
  by_cases c12 : s.field = 12
  · rcases hb with rfl | rfl
    · exact plain_12_0 p v s w hp ok c12
    · exact plain_12_1 p v s w hp ok c12
  by_cases c13 : s.field = 13
  · rcases hb with rfl | rfl
    · exact plain_13_0 p v s w hp ok c13
    · by_cases hk : crcOkW s = true
      · exact plain_13_1_ok p v s w hp ok c13 hk
      · exact plain_13_1_bad p v s w hp ok c13 (Bool.eq_false_iff.mpr hk)
  by_cases c14 : s.field = 14
  · rcases hb with rfl | rfl
    · exact plain_14_0 p v s w hp ok c14
    · exact plain_14_1 p v s w hp ok c14
  omega
theorem impl_walk_plain.calls (p : Nat) (v : Value) (s : WS) (b : Int) (hb : b = 0 ∨ b = 1) (S : Nat → Prop) (w0 w : World) (hi : WIn w0 w p S s v) (hpl : w0.heap.size ≤ p) (hS : ¬ S p) (ok : WOk s) :
    Calls Try.prog 156 #[.pointer (some ⟨p, 0, none⟩), .int .i64 b] w (EndP w0 w p S (plainW s b)) := by
  by_cases h9 : s.field = 9
  · by_cases h8 : s.left % 8 = 0
    · rcases hb with rfl | rfl
      · exact plain_9_0_app p v s S w0 w hi.obj hi.row hi.below hpl hS hi.fresh ok h9 h8
      · exact plain_9_1_app p v s S w0 w hi.obj hi.row hi.below hpl hS hi.fresh ok h9 h8
    · rcases hb with rfl | rfl
      · exact plain_9_0_in p v s S w0 w hi.obj hi.row hi.below hpl hS hi.fresh ok h9 h8
      · exact plain_9_1_in p v s S w0 w hi.obj hi.row hi.below hpl hS hi.fresh ok h9 h8
  · refine (plain_lit p v s b hb w hi.obj ok h9).mono ?_
    intro e w' h
    exact h.toP (by rw [plainW_data s b h9]; exact hi.row) hS

end Go.Proofs.Ytdoclpgciadjaaa.P

namespace Go.Proofs.Ytdoclpgciadjaaa.P
open Go.RowKit Go.Proofs.YtdoclpgciadjaaaW.PrintWords Go.Proofs.YtdoclpgciadjaaaW.PrintLast Go.Proofs.YtdoclpgciadjaaaW.PrintMore
attribute [local go_sem] max2_int min2_int max_two min_two max_three min_three max_four min_four
set_option linter.unusedVariables false
set_option linter.unusedSimpArgs false

-- GIVEN rounds=0 making=1 import=Derived.Test.YtdoclpgciadjaaaWalk
/-! ### impl_walk_hear: function 134 -/
theorem due_is (p : Nat) (v : Value) (s : WS) (w : World) (hp : w.heap[p]? = some (objW s v)) (k : Bool) (hk : dueW s = k) :
    Calls Try.prog 82 #[.pointer (some ⟨p, 0, none⟩)] w fun e w' => e = .returned (.bool k) ∧ w = w' := by
  subst hk
  exact impl_walk_due.calls p v s w hp
theorem hear_48_stop (p : Nat) (v : Value) (s : WS) (S : Nat → Prop) (w0 w : World) (hi : WIn w0 w p S s v) (hpl : w0.heap.size ≤ p) (hS : ¬ S p) (ok : WOk s) (hd : dueW s = true) (hl : s.level = 48) :
    Calls Try.prog 134 #[.pointer (some ⟨p, 0, none⟩), .int .i32 48] w (EndP w0 w p S (hearW s 48)) := by
  have HI := Lib.hid hi
  have OK := Lib.hid ok
  have hp := hi.obj
  have hc0 := cW0 hp
  have hc1 := cW1 hp
  have hc3 := cW3 hp
  have hc4 := cW4 hp
  have hf0 := fW hp 0
  have hf3 := fW hp 3
  have hf4 := fW hp 4
  have r0 := ok.r0
  have r1 := ok.r1
  have HI1 := Lib.hid (hi.put hS hpl (setW0 hp 0) rfl)
  have HD : Hid (dueW { s with code := 0 } = true) := Lib.hid hd
  have HL : Hid (hearW s 48 = { s with code := 3, run := 1, level := 48 }) := Lib.hid (by unfold hearW; simp only []; rw [if_pos (show dueW { s with code := 0 } = true from hd), if_pos hl.symm])
  rw [hl] at hc4
  clear hi ok hp hd hl
  go_enter Try.func134, Try.ntmps134
  go_wp2_with (fail)
  (refine (due_is p v _ _ HI1.out.obj _ HD.out).mono ?_; rintro e w' ⟨rfl, rfl⟩)
  go_wp2_with (fail)
  go_end0
  rw [HL.out]
  have HI2 := (HI1.out.put hS hpl (setW0 HI1.out.obj 3) rfl)
  have HI3 := (HI2.put hS hpl (setW3 HI2.obj 1) rfl)
  have HI4 := (HI3.put hS hpl (setW4 HI3.obj 48) rfl)
  exact ⟨rfl, ⟨v, HI4.obj, HI4.row⟩, (((((Tch.refl1 _ _).one 0 _).one 0 _).one 3 _).one 4 _).mono fun k hk => .inl hk⟩
theorem hear_48_skip (p : Nat) (v : Value) (s : WS) (S : Nat → Prop) (w0 w : World) (hi : WIn w0 w p S s v) (hpl : w0.heap.size ≤ p) (hS : ¬ S p) (ok : WOk s) (hd : dueW s = true) (hl : ¬ s.level = 48) :
    Calls Try.prog 134 #[.pointer (some ⟨p, 0, none⟩), .int .i32 48] w (EndP w0 w p S (hearW s 48)) := by
  have HI := Lib.hid hi
  have OK := Lib.hid ok
  have hp := hi.obj
  have hc0 := cW0 hp
  have hc1 := cW1 hp
  have hc3 := cW3 hp
  have hc4 := cW4 hp
  have hf0 := fW hp 0
  have hf3 := fW hp 3
  have hf4 := fW hp 4
  have r0 := ok.r0
  have r1 := ok.r1
  have HI1 := Lib.hid (hi.put hS hpl (setW0 hp 0) rfl)
  have HD : Hid (dueW { s with code := 0 } = true) := Lib.hid hd
  have HL : Hid (hearW s 48 = { s with code := 0, run := 1, level := 48 }) := Lib.hid (by unfold hearW; simp only []; rw [if_pos (show dueW { s with code := 0 } = true from hd), if_neg (fun h => hl h.symm)])
  have bl : (s.level == 48) = false := by simp [hl]
  have bl2 : ((48 : Int) == s.level) = false := by simp; omega
  clear hi ok hp hd hl
  go_enter Try.func134, Try.ntmps134
  go_wp2_with (fail)
  (refine (due_is p v _ _ HI1.out.obj _ HD.out).mono ?_; rintro e w' ⟨rfl, rfl⟩)
  go_wp2_with (fail)
  go_end0
  rw [HL.out]
  have HI3 := (HI1.out.put hS hpl (setW3 HI1.out.obj 1) rfl)
  have HI4 := (HI3.put hS hpl (setW4 HI3.obj 48) rfl)
  exact ⟨rfl, ⟨v, HI4.obj, HI4.row⟩, ((((Tch.refl1 _ _).one 0 _).one 3 _).one 4 _).mono fun k hk => .inl hk⟩
theorem hear_48_more (p : Nat) (v : Value) (s : WS) (S : Nat → Prop) (w0 w : World) (hi : WIn w0 w p S s v) (hpl : w0.heap.size ≤ p) (hS : ¬ S p) (ok : WOk s) (hd : dueW s = false) (hf : s.field ≤ 10) (hr : 0 < s.run) (hl : s.level = 48) :
    Calls Try.prog 134 #[.pointer (some ⟨p, 0, none⟩), .int .i32 48] w (EndP w0 w p S (hearW s 48)) := by
  have HI := Lib.hid hi
  have OK := Lib.hid ok
  have hp := hi.obj
  have hc0 := cW0 hp
  have hc1 := cW1 hp
  have hc3 := cW3 hp
  have hc4 := cW4 hp
  have hf0 := fW hp 0
  have hf3 := fW hp 3
  have hf4 := fW hp 4
  have r0 := ok.r0
  have r1 := ok.r1
  have HI1 := Lib.hid (hi.put hS hpl (setW0 hp 0) rfl)
  have HD : Hid (dueW { s with code := 0 } = false) := Lib.hid hd
  have HL : Hid (hearW s 48 = plainW { s with code := 0, run := s.run + 1 } 0) := Lib.hid (by unfold hearW; simp only []; rw [if_neg (by rw [show dueW { s with code := 0 } = false from hd]; decide), if_pos hf, if_pos ⟨hr, hl⟩]; rfl)
  have HR : Hid (s.field ≤ 10 → s.run ≤ 4) := Lib.hid (fun hf2 => run_le4 hd hf2 r1)
  rw [hl] at hc4
  have bf : decide (s.field ≤ 10) = true := decide_eq_true hf
  have br : decide (0 < s.run) = true := decide_eq_true hr
  have HFF := Lib.hid hf
  clear hi ok hp hd hl hf hr
  go_enter Try.func134, Try.ntmps134
  go_wp2_with (fail)
  (refine (due_is p v _ _ HI1.out.obj _ HD.out).mono ?_; rintro e w' ⟨rfl, rfl⟩)
  go_wp2_with (fail)
  have HI3 := Lib.hid (HI1.out.put hS hpl (setW3 HI1.out.obj (s.run + 1)) rfl)
  (refine (impl_walk_plain.calls p v _ 0 (by omega) S w0 _ HI3.out hpl hS ⟨OK.out.f0, OK.out.f1, OK.out.l0, OK.out.l1, by simp only []; omega, by have := HR.out HFF.out; simp only []; omega, OK.out.d0, OK.out.d1, OK.out.g0, OK.out.g1, OK.out.i0, OK.out.i1, OK.out.ne, OK.out.by_, OK.out.dl⟩).mono ?_; intro e w2 hE; have HE := Lib.hid hE; obtain rfl := hE.ret; clear hE)
  go_wp2_with (fail)
  go_end0
  rw [HL.out]
  exact ⟨rfl, HE.out.at_, ((((Tch.refl1 _ _).one 0 _).one 3 _).mono fun k hk => .inl hk).trans HE.out.tch⟩
theorem hear_48_first (p : Nat) (v : Value) (s : WS) (S : Nat → Prop) (w0 w : World) (hi : WIn w0 w p S s v) (hpl : w0.heap.size ≤ p) (hS : ¬ S p) (ok : WOk s) (hd : dueW s = false) (hf : s.field ≤ 10) (hr : ¬ 0 < s.run) :
    Calls Try.prog 134 #[.pointer (some ⟨p, 0, none⟩), .int .i32 48] w (EndP w0 w p S (hearW s 48)) := by
  have HI := Lib.hid hi
  have OK := Lib.hid ok
  have hp := hi.obj
  have hc0 := cW0 hp
  have hc1 := cW1 hp
  have hc3 := cW3 hp
  have hc4 := cW4 hp
  have hf0 := fW hp 0
  have hf3 := fW hp 3
  have hf4 := fW hp 4
  have r0 := ok.r0
  have r1 := ok.r1
  have HI1 := Lib.hid (hi.put hS hpl (setW0 hp 0) rfl)
  have HD : Hid (dueW { s with code := 0 } = false) := Lib.hid hd
  have HL : Hid (hearW s 48 = plainW { s with code := 0, run := 1, level := 48 } 0) := Lib.hid (by unfold hearW; simp only []; rw [if_neg (by rw [show dueW { s with code := 0 } = false from hd]; decide), if_pos hf, if_neg (fun h => hr h.1)]; rfl)
  have HR : Hid (s.field ≤ 10 → s.run ≤ 4) := Lib.hid (fun hf2 => run_le4 hd hf2 r1)
  have bf : decide (s.field ≤ 10) = true := decide_eq_true hf
  have br : decide (0 < s.run) = false := decide_eq_false hr
  have HFF := Lib.hid hf
  clear hi ok hp hd hf hr
  go_enter Try.func134, Try.ntmps134
  go_wp2_with (fail)
  (refine (due_is p v _ _ HI1.out.obj _ HD.out).mono ?_; rintro e w' ⟨rfl, rfl⟩)
  go_wp2_with (fail)
  have HI3 := (HI1.out.put hS hpl (setW3 HI1.out.obj 1) rfl)
  have HI4 := Lib.hid (HI3.put hS hpl (setW4 HI3.obj 48) rfl)
  clear HI3
  (refine (impl_walk_plain.calls p v _ 0 (by omega) S w0 _ HI4.out hpl hS ⟨OK.out.f0, OK.out.f1, OK.out.l0, OK.out.l1, by simp only []; omega, by simp only []; omega, OK.out.d0, OK.out.d1, OK.out.g0, OK.out.g1, OK.out.i0, OK.out.i1, OK.out.ne, OK.out.by_, OK.out.dl⟩).mono ?_; intro e w2 hE; have HE := Lib.hid hE; obtain rfl := hE.ret; clear hE)
  go_wp2_with (fail)
  go_end0
  rw [HL.out]
  exact ⟨rfl, HE.out.at_, (((((Tch.refl1 _ _).one 0 _).one 3 _).one 4 _).mono fun k hk => .inl hk).trans HE.out.tch⟩
theorem hear_48_turn (p : Nat) (v : Value) (s : WS) (S : Nat → Prop) (w0 w : World) (hi : WIn w0 w p S s v) (hpl : w0.heap.size ≤ p) (hS : ¬ S p) (ok : WOk s) (hd : dueW s = false) (hf : s.field ≤ 10) (hr : 0 < s.run) (hl : ¬ s.level = 48) :
    Calls Try.prog 134 #[.pointer (some ⟨p, 0, none⟩), .int .i32 48] w (EndP w0 w p S (hearW s 48)) := by
  have HI := Lib.hid hi
  have OK := Lib.hid ok
  have hp := hi.obj
  have hc0 := cW0 hp
  have hc1 := cW1 hp
  have hc3 := cW3 hp
  have hc4 := cW4 hp
  have hf0 := fW hp 0
  have hf3 := fW hp 3
  have hf4 := fW hp 4
  have r0 := ok.r0
  have r1 := ok.r1
  have HI1 := Lib.hid (hi.put hS hpl (setW0 hp 0) rfl)
  have HD : Hid (dueW { s with code := 0 } = false) := Lib.hid hd
  have HL : Hid (hearW s 48 = plainW { s with code := 0, run := 1, level := 48 } 0) := Lib.hid (by unfold hearW; simp only []; rw [if_neg (by rw [show dueW { s with code := 0 } = false from hd]; decide), if_pos hf, if_neg (fun h => hl h.2)]; rfl)
  have HR : Hid (s.field ≤ 10 → s.run ≤ 4) := Lib.hid (fun hf2 => run_le4 hd hf2 r1)
  have bl : (s.level == 48) = false := by simp [hl]
  have bl2 : ((48 : Int) == s.level) = false := by simp; omega
  have bf : decide (s.field ≤ 10) = true := decide_eq_true hf
  have br : decide (0 < s.run) = true := decide_eq_true hr
  have HFF := Lib.hid hf
  clear hi ok hp hd hl hf hr
  go_enter Try.func134, Try.ntmps134
  go_wp2_with (fail)
  (refine (due_is p v _ _ HI1.out.obj _ HD.out).mono ?_; rintro e w' ⟨rfl, rfl⟩)
  go_wp2_with (fail)
  have HI3 := (HI1.out.put hS hpl (setW3 HI1.out.obj 1) rfl)
  have HI4 := Lib.hid (HI3.put hS hpl (setW4 HI3.obj 48) rfl)
  clear HI3
  (refine (impl_walk_plain.calls p v _ 0 (by omega) S w0 _ HI4.out hpl hS ⟨OK.out.f0, OK.out.f1, OK.out.l0, OK.out.l1, by simp only []; omega, by simp only []; omega, OK.out.d0, OK.out.d1, OK.out.g0, OK.out.g1, OK.out.i0, OK.out.i1, OK.out.ne, OK.out.by_, OK.out.dl⟩).mono ?_; intro e w2 hE; have HE := Lib.hid hE; obtain rfl := hE.ret; clear hE)
  go_wp2_with (fail)
  go_end0
  rw [HL.out]
  exact ⟨rfl, HE.out.at_, (((((Tch.refl1 _ _).one 0 _).one 3 _).one 4 _).mono fun k hk => .inl hk).trans HE.out.tch⟩
theorem hear_48_late (p : Nat) (v : Value) (s : WS) (S : Nat → Prop) (w0 w : World) (hi : WIn w0 w p S s v) (hpl : w0.heap.size ≤ p) (hS : ¬ S p) (ok : WOk s) (hd : dueW s = false) (hf : ¬ s.field ≤ 10) :
    Calls Try.prog 134 #[.pointer (some ⟨p, 0, none⟩), .int .i32 48] w (EndP w0 w p S (hearW s 48)) := by
  have HI := Lib.hid hi
  have OK := Lib.hid ok
  have hp := hi.obj
  have hc0 := cW0 hp
  have hc1 := cW1 hp
  have hc3 := cW3 hp
  have hc4 := cW4 hp
  have hf0 := fW hp 0
  have hf3 := fW hp 3
  have hf4 := fW hp 4
  have r0 := ok.r0
  have r1 := ok.r1
  have HI1 := Lib.hid (hi.put hS hpl (setW0 hp 0) rfl)
  have HD : Hid (dueW { s with code := 0 } = false) := Lib.hid hd
  have HL : Hid (hearW s 48 = plainW { s with code := 0, run := 0 } 0) := Lib.hid (by unfold hearW; simp only []; rw [if_neg (by rw [show dueW { s with code := 0 } = false from hd]; decide), if_neg hf]; rfl)
  have HR : Hid (s.field ≤ 10 → s.run ≤ 4) := Lib.hid (fun hf2 => run_le4 hd hf2 r1)
  have bf : decide (s.field ≤ 10) = false := decide_eq_false hf
  have HFF := Lib.hid hf
  clear hi ok hp hd hf
  go_enter Try.func134, Try.ntmps134
  go_wp2_with (fail)
  (refine (due_is p v _ _ HI1.out.obj _ HD.out).mono ?_; rintro e w' ⟨rfl, rfl⟩)
  go_wp2_with (fail)
  have HI3 := Lib.hid (HI1.out.put hS hpl (setW3 HI1.out.obj 0) rfl)
  (refine (impl_walk_plain.calls p v _ 0 (by omega) S w0 _ HI3.out hpl hS ⟨OK.out.f0, OK.out.f1, OK.out.l0, OK.out.l1, by simp only []; omega, by simp only []; omega, OK.out.d0, OK.out.d1, OK.out.g0, OK.out.g1, OK.out.i0, OK.out.i1, OK.out.ne, OK.out.by_, OK.out.dl⟩).mono ?_; intro e w2 hE; have HE := Lib.hid hE; obtain rfl := hE.ret; clear hE)
  go_wp2_with (fail)
  go_end0
  rw [HL.out]
  exact ⟨rfl, HE.out.at_, ((((Tch.refl1 _ _).one 0 _).one 3 _).mono fun k hk => .inl hk).trans HE.out.tch⟩
theorem hear_49_stop (p : Nat) (v : Value) (s : WS) (S : Nat → Prop) (w0 w : World) (hi : WIn w0 w p S s v) (hpl : w0.heap.size ≤ p) (hS : ¬ S p) (ok : WOk s) (hd : dueW s = true) (hl : s.level = 49) :
    Calls Try.prog 134 #[.pointer (some ⟨p, 0, none⟩), .int .i32 49] w (EndP w0 w p S (hearW s 49)) := by
  have HI := Lib.hid hi
  have OK := Lib.hid ok
  have hp := hi.obj
  have hc0 := cW0 hp
  have hc1 := cW1 hp
  have hc3 := cW3 hp
  have hc4 := cW4 hp
  have hf0 := fW hp 0
  have hf3 := fW hp 3
  have hf4 := fW hp 4
  have r0 := ok.r0
  have r1 := ok.r1
  have HI1 := Lib.hid (hi.put hS hpl (setW0 hp 0) rfl)
  have HD : Hid (dueW { s with code := 0 } = true) := Lib.hid hd
  have HL : Hid (hearW s 49 = { s with code := 3, run := 1, level := 49 }) := Lib.hid (by unfold hearW; simp only []; rw [if_pos (show dueW { s with code := 0 } = true from hd), if_pos hl.symm])
  rw [hl] at hc4
  clear hi ok hp hd hl
  go_enter Try.func134, Try.ntmps134
  go_wp2_with (fail)
  (refine (due_is p v _ _ HI1.out.obj _ HD.out).mono ?_; rintro e w' ⟨rfl, rfl⟩)
  go_wp2_with (fail)
  go_end0
  rw [HL.out]
  have HI2 := (HI1.out.put hS hpl (setW0 HI1.out.obj 3) rfl)
  have HI3 := (HI2.put hS hpl (setW3 HI2.obj 1) rfl)
  have HI4 := (HI3.put hS hpl (setW4 HI3.obj 49) rfl)
  exact ⟨rfl, ⟨v, HI4.obj, HI4.row⟩, (((((Tch.refl1 _ _).one 0 _).one 0 _).one 3 _).one 4 _).mono fun k hk => .inl hk⟩
theorem hear_49_skip (p : Nat) (v : Value) (s : WS) (S : Nat → Prop) (w0 w : World) (hi : WIn w0 w p S s v) (hpl : w0.heap.size ≤ p) (hS : ¬ S p) (ok : WOk s) (hd : dueW s = true) (hl : ¬ s.level = 49) :
    Calls Try.prog 134 #[.pointer (some ⟨p, 0, none⟩), .int .i32 49] w (EndP w0 w p S (hearW s 49)) := by
  have HI := Lib.hid hi
  have OK := Lib.hid ok
  have hp := hi.obj
  have hc0 := cW0 hp
  have hc1 := cW1 hp
  have hc3 := cW3 hp
  have hc4 := cW4 hp
  have hf0 := fW hp 0
  have hf3 := fW hp 3
  have hf4 := fW hp 4
  have r0 := ok.r0
  have r1 := ok.r1
  have HI1 := Lib.hid (hi.put hS hpl (setW0 hp 0) rfl)
  have HD : Hid (dueW { s with code := 0 } = true) := Lib.hid hd
  have HL : Hid (hearW s 49 = { s with code := 0, run := 1, level := 49 }) := Lib.hid (by unfold hearW; simp only []; rw [if_pos (show dueW { s with code := 0 } = true from hd), if_neg (fun h => hl h.symm)])
  have bl : (s.level == 49) = false := by simp [hl]
  have bl2 : ((49 : Int) == s.level) = false := by simp; omega
  clear hi ok hp hd hl
  go_enter Try.func134, Try.ntmps134
  go_wp2_with (fail)
  (refine (due_is p v _ _ HI1.out.obj _ HD.out).mono ?_; rintro e w' ⟨rfl, rfl⟩)
  go_wp2_with (fail)
  go_end0
  rw [HL.out]
  have HI3 := (HI1.out.put hS hpl (setW3 HI1.out.obj 1) rfl)
  have HI4 := (HI3.put hS hpl (setW4 HI3.obj 49) rfl)
  exact ⟨rfl, ⟨v, HI4.obj, HI4.row⟩, ((((Tch.refl1 _ _).one 0 _).one 3 _).one 4 _).mono fun k hk => .inl hk⟩
theorem hear_49_more (p : Nat) (v : Value) (s : WS) (S : Nat → Prop) (w0 w : World) (hi : WIn w0 w p S s v) (hpl : w0.heap.size ≤ p) (hS : ¬ S p) (ok : WOk s) (hd : dueW s = false) (hf : s.field ≤ 10) (hr : 0 < s.run) (hl : s.level = 49) :
    Calls Try.prog 134 #[.pointer (some ⟨p, 0, none⟩), .int .i32 49] w (EndP w0 w p S (hearW s 49)) := by
  have HI := Lib.hid hi
  have OK := Lib.hid ok
  have hp := hi.obj
  have hc0 := cW0 hp
  have hc1 := cW1 hp
  have hc3 := cW3 hp
  have hc4 := cW4 hp
  have hf0 := fW hp 0
  have hf3 := fW hp 3
  have hf4 := fW hp 4
  have r0 := ok.r0
  have r1 := ok.r1
  have HI1 := Lib.hid (hi.put hS hpl (setW0 hp 0) rfl)
  have HD : Hid (dueW { s with code := 0 } = false) := Lib.hid hd
  have HL : Hid (hearW s 49 = plainW { s with code := 0, run := s.run + 1 } 1) := Lib.hid (by unfold hearW; simp only []; rw [if_neg (by rw [show dueW { s with code := 0 } = false from hd]; decide), if_pos hf, if_pos ⟨hr, hl⟩]; rfl)
  have HR : Hid (s.field ≤ 10 → s.run ≤ 4) := Lib.hid (fun hf2 => run_le4 hd hf2 r1)
  rw [hl] at hc4
  have bf : decide (s.field ≤ 10) = true := decide_eq_true hf
  have br : decide (0 < s.run) = true := decide_eq_true hr
  have HFF := Lib.hid hf
  clear hi ok hp hd hl hf hr
  go_enter Try.func134, Try.ntmps134
  go_wp2_with (fail)
  (refine (due_is p v _ _ HI1.out.obj _ HD.out).mono ?_; rintro e w' ⟨rfl, rfl⟩)
  go_wp2_with (fail)
  have HI3 := Lib.hid (HI1.out.put hS hpl (setW3 HI1.out.obj (s.run + 1)) rfl)
  (refine (impl_walk_plain.calls p v _ 1 (by omega) S w0 _ HI3.out hpl hS ⟨OK.out.f0, OK.out.f1, OK.out.l0, OK.out.l1, by simp only []; omega, by have := HR.out HFF.out; simp only []; omega, OK.out.d0, OK.out.d1, OK.out.g0, OK.out.g1, OK.out.i0, OK.out.i1, OK.out.ne, OK.out.by_, OK.out.dl⟩).mono ?_; intro e w2 hE; have HE := Lib.hid hE; obtain rfl := hE.ret; clear hE)
  go_wp2_with (fail)
  go_end0
  rw [HL.out]
  exact ⟨rfl, HE.out.at_, ((((Tch.refl1 _ _).one 0 _).one 3 _).mono fun k hk => .inl hk).trans HE.out.tch⟩
theorem hear_49_first (p : Nat) (v : Value) (s : WS) (S : Nat → Prop) (w0 w : World) (hi : WIn w0 w p S s v) (hpl : w0.heap.size ≤ p) (hS : ¬ S p) (ok : WOk s) (hd : dueW s = false) (hf : s.field ≤ 10) (hr : ¬ 0 < s.run) :
    Calls Try.prog 134 #[.pointer (some ⟨p, 0, none⟩), .int .i32 49] w (EndP w0 w p S (hearW s 49)) := by
  have HI := Lib.hid hi
  have OK := Lib.hid ok
  have hp := hi.obj
  have hc0 := cW0 hp
  have hc1 := cW1 hp
  have hc3 := cW3 hp
  have hc4 := cW4 hp
  have hf0 := fW hp 0
  have hf3 := fW hp 3
  have hf4 := fW hp 4
  have r0 := ok.r0
  have r1 := ok.r1
  have HI1 := Lib.hid (hi.put hS hpl (setW0 hp 0) rfl)
  have HD : Hid (dueW { s with code := 0 } = false) := Lib.hid hd
  have HL : Hid (hearW s 49 = plainW { s with code := 0, run := 1, level := 49 } 1) := Lib.hid (by unfold hearW; simp only []; rw [if_neg (by rw [show dueW { s with code := 0 } = false from hd]; decide), if_pos hf, if_neg (fun h => hr h.1)]; rfl)
  have HR : Hid (s.field ≤ 10 → s.run ≤ 4) := Lib.hid (fun hf2 => run_le4 hd hf2 r1)
  have bf : decide (s.field ≤ 10) = true := decide_eq_true hf
  have br : decide (0 < s.run) = false := decide_eq_false hr
  have HFF := Lib.hid hf
  clear hi ok hp hd hf hr
  go_enter Try.func134, Try.ntmps134
  go_wp2_with (fail)
  (refine (due_is p v _ _ HI1.out.obj _ HD.out).mono ?_; rintro e w' ⟨rfl, rfl⟩)
  go_wp2_with (fail)
  have HI3 := (HI1.out.put hS hpl (setW3 HI1.out.obj 1) rfl)
  have HI4 := Lib.hid (HI3.put hS hpl (setW4 HI3.obj 49) rfl)
  clear HI3
  (refine (impl_walk_plain.calls p v _ 1 (by omega) S w0 _ HI4.out hpl hS ⟨OK.out.f0, OK.out.f1, OK.out.l0, OK.out.l1, by simp only []; omega, by simp only []; omega, OK.out.d0, OK.out.d1, OK.out.g0, OK.out.g1, OK.out.i0, OK.out.i1, OK.out.ne, OK.out.by_, OK.out.dl⟩).mono ?_; intro e w2 hE; have HE := Lib.hid hE; obtain rfl := hE.ret; clear hE)
  go_wp2_with (fail)
  go_end0
  rw [HL.out]
  exact ⟨rfl, HE.out.at_, (((((Tch.refl1 _ _).one 0 _).one 3 _).one 4 _).mono fun k hk => .inl hk).trans HE.out.tch⟩
theorem hear_49_turn (p : Nat) (v : Value) (s : WS) (S : Nat → Prop) (w0 w : World) (hi : WIn w0 w p S s v) (hpl : w0.heap.size ≤ p) (hS : ¬ S p) (ok : WOk s) (hd : dueW s = false) (hf : s.field ≤ 10) (hr : 0 < s.run) (hl : ¬ s.level = 49) :
    Calls Try.prog 134 #[.pointer (some ⟨p, 0, none⟩), .int .i32 49] w (EndP w0 w p S (hearW s 49)) := by
  have HI := Lib.hid hi
  have OK := Lib.hid ok
  have hp := hi.obj
  have hc0 := cW0 hp
  have hc1 := cW1 hp
  have hc3 := cW3 hp
  have hc4 := cW4 hp
  have hf0 := fW hp 0
  have hf3 := fW hp 3
  have hf4 := fW hp 4
  have r0 := ok.r0
  have r1 := ok.r1
  have HI1 := Lib.hid (hi.put hS hpl (setW0 hp 0) rfl)
  have HD : Hid (dueW { s with code := 0 } = false) := Lib.hid hd
  have HL : Hid (hearW s 49 = plainW { s with code := 0, run := 1, level := 49 } 1) := Lib.hid (by unfold hearW; simp only []; rw [if_neg (by rw [show dueW { s with code := 0 } = false from hd]; decide), if_pos hf, if_neg (fun h => hl h.2)]; rfl)
  have HR : Hid (s.field ≤ 10 → s.run ≤ 4) := Lib.hid (fun hf2 => run_le4 hd hf2 r1)
  have bl : (s.level == 49) = false := by simp [hl]
  have bl2 : ((49 : Int) == s.level) = false := by simp; omega
  have bf : decide (s.field ≤ 10) = true := decide_eq_true hf
  have br : decide (0 < s.run) = true := decide_eq_true hr
  have HFF := Lib.hid hf
  clear hi ok hp hd hl hf hr
  go_enter Try.func134, Try.ntmps134
  go_wp2_with (fail)
  (refine (due_is p v _ _ HI1.out.obj _ HD.out).mono ?_; rintro e w' ⟨rfl, rfl⟩)
  go_wp2_with (fail)
  have HI3 := (HI1.out.put hS hpl (setW3 HI1.out.obj 1) rfl)
  have HI4 := Lib.hid (HI3.put hS hpl (setW4 HI3.obj 49) rfl)
  clear HI3
  (refine (impl_walk_plain.calls p v _ 1 (by omega) S w0 _ HI4.out hpl hS ⟨OK.out.f0, OK.out.f1, OK.out.l0, OK.out.l1, by simp only []; omega, by simp only []; omega, OK.out.d0, OK.out.d1, OK.out.g0, OK.out.g1, OK.out.i0, OK.out.i1, OK.out.ne, OK.out.by_, OK.out.dl⟩).mono ?_; intro e w2 hE; have HE := Lib.hid hE; obtain rfl := hE.ret; clear hE)
  go_wp2_with (fail)
  go_end0
  rw [HL.out]
  exact ⟨rfl, HE.out.at_, (((((Tch.refl1 _ _).one 0 _).one 3 _).one 4 _).mono fun k hk => .inl hk).trans HE.out.tch⟩
theorem hear_49_late (p : Nat) (v : Value) (s : WS) (S : Nat → Prop) (w0 w : World) (hi : WIn w0 w p S s v) (hpl : w0.heap.size ≤ p) (hS : ¬ S p) (ok : WOk s) (hd : dueW s = false) (hf : ¬ s.field ≤ 10) :
    Calls Try.prog 134 #[.pointer (some ⟨p, 0, none⟩), .int .i32 49] w (EndP w0 w p S (hearW s 49)) := by
  have HI := Lib.hid hi
  have OK := Lib.hid ok
  have hp := hi.obj
  have hc0 := cW0 hp
  have hc1 := cW1 hp
  have hc3 := cW3 hp
  have hc4 := cW4 hp
  have hf0 := fW hp 0
  have hf3 := fW hp 3
  have hf4 := fW hp 4
  have r0 := ok.r0
  have r1 := ok.r1
  have HI1 := Lib.hid (hi.put hS hpl (setW0 hp 0) rfl)
  have HD : Hid (dueW { s with code := 0 } = false) := Lib.hid hd
  have HL : Hid (hearW s 49 = plainW { s with code := 0, run := 0 } 1) := Lib.hid (by unfold hearW; simp only []; rw [if_neg (by rw [show dueW { s with code := 0 } = false from hd]; decide), if_neg hf]; rfl)
  have HR : Hid (s.field ≤ 10 → s.run ≤ 4) := Lib.hid (fun hf2 => run_le4 hd hf2 r1)
  have bf : decide (s.field ≤ 10) = false := decide_eq_false hf
  have HFF := Lib.hid hf
  clear hi ok hp hd hf
  go_enter Try.func134, Try.ntmps134
  go_wp2_with (fail)
  (refine (due_is p v _ _ HI1.out.obj _ HD.out).mono ?_; rintro e w' ⟨rfl, rfl⟩)
  go_wp2_with (fail)
  have HI3 := Lib.hid (HI1.out.put hS hpl (setW3 HI1.out.obj 0) rfl)
  (refine (impl_walk_plain.calls p v _ 1 (by omega) S w0 _ HI3.out hpl hS ⟨OK.out.f0, OK.out.f1, OK.out.l0, OK.out.l1, by simp only []; omega, by simp only []; omega, OK.out.d0, OK.out.d1, OK.out.g0, OK.out.g1, OK.out.i0, OK.out.i1, OK.out.ne, OK.out.by_, OK.out.dl⟩).mono ?_; intro e w2 hE; have HE := Lib.hid hE; obtain rfl := hE.ret; clear hE)
  go_wp2_with (fail)
  go_end0
  rw [HL.out]
  exact ⟨rfl, HE.out.at_, ((((Tch.refl1 _ _).one 0 _).one 3 _).mono fun k hk => .inl hk).trans HE.out.tch⟩
theorem impl_walk_hear.calls (p : Nat) (v : Value) (s : WS) (c : Int) (hc : c = 48 ∨ c = 49) (S : Nat → Prop) (w0 w : World) (hi : WIn w0 w p S s v) (hpl : w0.heap.size ≤ p) (hS : ¬ S p) (ok : WOk s) :
    Calls Try.prog 134 #[.pointer (some ⟨p, 0, none⟩), .int .i32 c] w (EndP w0 w p S (hearW s c)) := by
  rcases hc with rfl | rfl
  · cases hd : dueW s with
    | true =>
      by_cases hl : s.level = 48
      · exact hear_48_stop p v s S w0 w hi hpl hS ok hd hl
      · exact hear_48_skip p v s S w0 w hi hpl hS ok hd hl
    | false =>
      by_cases hf : s.field ≤ 10
      · by_cases hr : 0 < s.run
        · by_cases hl : s.level = 48
          · exact hear_48_more p v s S w0 w hi hpl hS ok hd hf hr hl
          · exact hear_48_turn p v s S w0 w hi hpl hS ok hd hf hr hl
        · exact hear_48_first p v s S w0 w hi hpl hS ok hd hf hr
      · exact hear_48_late p v s S w0 w hi hpl hS ok hd hf
  · cases hd : dueW s with
    | true =>
      by_cases hl : s.level = 49
      · exact hear_49_stop p v s S w0 w hi hpl hS ok hd hl
      · exact hear_49_skip p v s S w0 w hi hpl hS ok hd hl
    | false =>
      by_cases hf : s.field ≤ 10
      · by_cases hr : 0 < s.run
        · by_cases hl : s.level = 49
          · exact hear_49_more p v s S w0 w hi hpl hS ok hd hf hr hl
          · exact hear_49_turn p v s S w0 w hi hpl hS ok hd hf hr hl
        · exact hear_49_first p v s S w0 w hi hpl hS ok hd hf hr
      · exact hear_49_late p v s S w0 w hi hpl hS ok hd hf

end Go.Proofs.Ytdoclpgciadjaaa.P

namespace Go.Proofs.Ytdoclpgciadjaaa.P
open Go Go.RowKit Go.Proofs.YtdoclpgciadjaaaW.PrintWords
set_option linter.unusedVariables false
/-! ### Whole numbers and lists -/
/-- A bit as a number. -/
def b2 (b : Bool) : Int := if b then 1 else 0
theorem b2_range (b : Bool) : 0 ≤ b2 b ∧ b2 b ≤ 1 := by cases b <;> decide
theorem w64 {x : Int} (h0 : 0 ≤ x) (h1 : x < 1000000000) : wrap64 x = x := by unfold wrap64; omega
theorem rd_set (v : List Int) (i : Nat) (x : Int) (t : Nat) (hi : i < v.length) : rd (v.set i x) (t : Int) = if t = i then x else rd v (t : Int) := by
  unfold rd
  rw [Int.toNat_natCast, List.getD_eq_getElem?_getD, List.getD_eq_getElem?_getD, List.getElem?_set]
  by_cases e : i = t
  · subst e; simp [hi]
  · rw [if_neg e, if_neg (fun h => e h.symm)]
theorem rd_snoc (v : List Int) (x : Int) (t : Nat) : rd (v ++ [x]) (t : Int) = if t < v.length then rd v t else if t = v.length then x else 0 := by
  unfold rd
  rw [Int.toNat_natCast, List.getD_eq_getElem?_getD, List.getD_eq_getElem?_getD, List.getElem?_append]
  by_cases h : t < v.length
  · rw [if_pos h, if_pos h]
  · rw [if_neg h, if_neg h]
    by_cases e : t = v.length
    · rw [if_pos e, e, Nat.sub_self]; rfl
    · rw [if_neg e, List.getElem?_eq_none (by simp; omega)]; rfl
theorem rd_get (v : List Int) (t : Nat) (h : t < v.length) : v[t]? = some (rd v (t : Int)) := by
  unfold rd
  rw [Int.toNat_natCast, List.getD_eq_getElem?_getD, List.getElem?_eq_getElem h]; rfl
/-- Two lists of one length that agree in the first i places. -/
def SameTo (x l : List Int) (i : Nat) : Prop := x.length = l.length ∧ ∀ t, t < i → x[t]? = l[t]?
theorem SameTo.zero {x l : List Int} (h : x.length = l.length) : SameTo x l 0 := ⟨h, fun t ht => absurd ht (Nat.not_lt_zero t)⟩
theorem SameTo.all {x l : List Int} {i : Nat} (h : SameTo x l i) (hi : l.length ≤ i) : x = l := by
  apply List.ext_getElem?
  intro t
  by_cases c : t < l.length
  · exact h.2 t (by omega)
  · rw [List.getElem?_eq_none (by have := h.1; omega), List.getElem?_eq_none (by omega)]
theorem SameTo.next {x l : List Int} {i : Nat} (h : SameTo x l i) (hi : i < l.length) : SameTo (x.set i (rd l (i : Int))) l (i + 1) := by
  refine ⟨by rw [List.length_set]; exact h.1, fun t ht => ?_⟩
  rw [List.getElem?_set]
  by_cases e : i = t
  · subst e
    rw [if_pos rfl, if_pos (by have := h.1; omega), rd_get l i hi]
  · rw [if_neg e]
    exact h.2 t (by omega)
theorem ev_neg {α : Type} {c : Prop} [Decidable c] {f g : Nat → Option α} {r : α} (h : ¬ c) (k : Ev g r) : Ev (fun n => if c then f n else g n) r :=
  Ev.congr (fun _ => if_neg h) k
theorem ev_pos {α : Type} {c : Prop} [Decidable c] {f g : Nat → Option α} {r : α} (h : c) (k : Ev f r) : Ev (fun n => if c then f n else g n) r :=
  Ev.congr (fun _ => if_pos h) k
theorem ev_some {α β : Type} {a : Option β} {b : β} {f : Nat → β → Option α} {r : α} (h : a = some b) (k : Ev (fun n => f n b) r) : Ev (fun n => a.bind (f n)) r :=
  Ev.congr (fun _ => by rw [h]; rfl) k
end Go.Proofs.Ytdoclpgciadjaaa.P

namespace Go.Proofs.Ytdoclpgciadjaaa.P
open Go Go.RowKit Go.Proofs.YtdoclpgciadjaaaW.PrintWords
set_option linter.unusedVariables false
/-! ### A row of bytes of the call's own, with or without a conversion's mark -/
def RowM (e : TypeId) (w : World) (base : Nat) (v : Value) (xs : List Int) : Prop :=
  w.ownsRow base e 1 v xs.length (nums .u8 xs) ∨
  ∃ g cap cur fz, v = .slice (some ⟨g, 0, none⟩) xs.length cap ∧ base ≤ g ∧ w.heap[g]? = some (.cells cur e fz) ∧ cap ≤ fz.1 ∧ xs.length ≤ cap ∧ cap ≤ maxLen ∧ cur.size = cap ∧ cur.toList.take xs.length = nums .u8 xs
theorem RowM.typed {e : TypeId} {w : World} {base : Nat} {v : Value} {xs : List Int} (h : RowM e w base v xs) {k : Nat} (hk : v.ownBlock = some k) : base ≤ k ∧ k < w.heap.size ∧ ∃ cur fz, w.heap[k]? = some (.cells cur e fz) := by
  rcases h with h | ⟨g, cap, cur, fz, rfl, hb, hh, _⟩
  · obtain ⟨cells, hc⟩ := own_typed h k hk
    exact ⟨own_base h k hk, own_lt h k hk, cells, _, hc⟩
  · obtain rfl : g = k := Option.some.inj hk
    exact ⟨hb, (Array.getElem?_eq_some_iff.1 hh).1, cur, fz, hh⟩
theorem RowM.slice {e : TypeId} {w : World} {base : Nat} {v : Value} {xs : List Int} (h : RowM e w base v xs) : ∃ A n c, v = .slice A n c := by
  rcases h with h | ⟨g, cap, cur, fz, rfl, _⟩
  · obtain ⟨A, c, e⟩ := own_slice h
    exact ⟨A, _, c, e⟩
  · exact ⟨_, _, _, rfl⟩
theorem RowM.move {e : TypeId} {w w1 : World} {base : Nat} {v : Value} {xs : List Int} (h : RowM e w base v xs) (hm : ∀ k, v.ownBlock = some k → w1.heap[k]? = w.heap[k]?) : RowM e w1 base v xs := by
  rcases h with h | ⟨g, cap, cur, fz, rfl, hb, hh, r⟩
  · exact .inl (own_move h hm)
  · exact .inr ⟨g, cap, cur, fz, rfl, hb, (hm g rfl).trans hh, r⟩
/-- What a call may turn: one block, one row; where the row may go. -/
structure Fr (w w' : World) (p : Nat) (row row' : Option Nat) : Prop where
  os : w'.os = w.os
  tape : w'.tape = w.tape
  output : w'.output = w.output
  size : w.heap.size ≤ w'.heap.size
  block : ∀ k, k < w.heap.size → k ≠ p → some k ≠ row → w'.heap[k]? = w.heap[k]?
  goes : row' = row ∨ ∃ b, row' = some b ∧ w.heap.size ≤ b
theorem Fr.refl (w : World) (p : Nat) (row : Option Nat) : Fr w w p row row := ⟨rfl, rfl, rfl, Nat.le_refl _, fun _ _ _ _ => rfl, .inl rfl⟩
theorem Fr.trans {w w1 w2 : World} {p : Nat} {r r1 r2 : Option Nat} (h : Fr w w1 p r r1) (k : Fr w1 w2 p r1 r2) : Fr w w2 p r r2 := by
  refine ⟨k.os.trans h.os, k.tape.trans h.tape, k.output.trans h.output, Nat.le_trans h.size k.size, fun j hj hp hr => ?_, ?_⟩
  · refine (k.block j (Nat.lt_of_lt_of_le hj h.size) hp ?_).trans (h.block j hj hp hr)
    rcases h.goes with e | ⟨b, e, hb⟩
    · rw [e]; exact hr
    · rw [e]; intro e2; have := Option.some.inj e2; omega
  · rcases k.goes with e | ⟨b, e, hb⟩
    · rw [e]; exact h.goes
    · exact .inr ⟨b, e, Nat.le_trans h.size hb⟩
theorem Fr.below {B : Nat} {w0 w w' : World} {p : Nat} {r r' : Option Nat} (h : Fr w w' p r r') (hb : Below B w0 w) (hB : B ≤ w.heap.size) (hp : B ≤ p) (hr : ∀ k, r = some k → B ≤ k) : Below B w0 w' :=
  hb.trans ⟨h.os, h.tape, h.output, h.size, fun k hk => h.block k (by omega) (by omega) (fun e => by have := hr k e.symm; omega)⟩
theorem nums_one (x : Int) : nums .u8 [x] = [.int .u8 x] := rfl
theorem RowM.append {P : Program} {ops : Array Oper} {rest : List Oper} {o : Oper} {a : Act} {Q : Exit → Act → World → Prop} {W : World} (base : Nat) (hgd : o.guard = none) (s x : Operand) (t e : TypeId)
    (ho : o.op = .call { callee := .builtin .append, args := #[s, x], argTypes := #[t, t] })
    (ht : P.underlying t = some (.slice e)) (hinfo : (P.info? e).map (fun i => (i.zero, i.size, i.bytes)) = some (some (.int .u8 0), 1, 1))
    (v : Value) (xs : List Int) (b : Int) (hs : a.eval s = v) (hx : a.eval x = .slice (some ⟨W.heap.size, 0, none⟩) 1 1)
    (HO : RowM e W base v xs) (hbase : base ≤ W.heap.size) (hl : xs.length + 1 ≤ 1000000)
    (h : ∀ v1 w1, RowM e w1 base v1 (xs ++ [b]) → Fr W w1 W.heap.size v.ownBlock v1.ownBlock → wpList P ops Q rest (a.put o.dst v1) w1) :
    wpList P ops Q (o :: rest) a (W.alloc (.cells #[.int .u8 b] e)) := by
  have hn : (xs ++ [b]).length = xs.length + 1 := by simp
  rcases HO with HO | ⟨g, cap, cur, fz, rfl, hb, hh, hfz, hlc, hcm, hcs, htk⟩
  · refine print_append_cells (w0 := W) (ys := [.int .u8 b]) base hgd s x t e (.int .u8 0) 1 1 ho ht hinfo rfl (by decide) (by decide) v xs.length (nums .u8 xs) hs hx rfl (by simp [Value.oneCell']) HO (Below.refl _ _) hbase (by omega) ?_
    intro v1 w1 hown _ hg hat
    refine h v1 w1 (.inl (by rw [hn, nums_append]; exact hown)) ⟨hg.os, hg.tape, hg.output, hg.size, fun k hk _ hr => hg.block k hk hr, ?_⟩
    rcases hat with e1 | ⟨c, e1, hc⟩
    · exact .inl e1
    · exact .inr ⟨c, e1, hc⟩
  · obtain ⟨i0, hi, hzz⟩ := Option.map_eq_some_iff.1 hinfo
    simp only [Prod.mk.injEq] at hzz
    obtain ⟨hz0, hz1, hz2⟩ := hzz
    have hgl : g < W.heap.size := (Array.getElem?_eq_some_iff.1 hh).1
    have hhA : (W.alloc (.cells #[.int .u8 b] e)).heap[g]? = some (.cells cur e fz) := (heap_alloc_old W _ hgl).trans hh
    have hcell : ∀ j, (W.alloc (.cells #[.int .u8 b] e)).cell? ⟨g, j, none⟩ = cur[j]? := fun j => by simp only [World.cell?, hhA]; simp
    have hol : (nums .u8 xs).length = xs.length * 1 := by rw [nums_length, Nat.mul_one]
    refine wpList_append_arg (W.alloc (.cells #[.int .u8 b] e)) hgd s x t ho e i0 (.int .u8 0) 1 1 ht hi hz0 hz1 hz2 rfl (by decide) g 0 xs.length cap (nums .u8 xs) hs hol (fun j u hj => ?_) ⟨W.heap.size, 0, none⟩ 1 1 [.int .u8 b] hx rfl
      (by simpa using World.news_of_block (cs := #[.int .u8 b]) (t := e) (fr := (0, 0)) (heap_alloc_new W (.cells #[.int .u8 b] e))) (by simp [Value.oneCell']) (fun hroom j hj => ⟨?_, ?_⟩) (by simp only [maxLen]; omega) (by omega) (fun hroom => ?_) (fun _ v1 w1 hown hg => ?_)
    · rw [Nat.zero_add, hcell]
      have hjl : j < xs.length := by have := (List.getElem?_eq_some_iff.1 hj).1; rw [nums_length] at this; exact this
      rw [← htk, List.getElem?_take_of_lt hjl, Array.getElem?_toList] at hj
      exact hj
    · have hj1 : j < 1 := hj
      rw [hcell, Array.getElem?_eq_getElem (by omega)]; rfl
    · have hj1 : j < 1 := hj
      obtain ⟨lo, hi'⟩ := fz
      simp only [World.frozen?, hhA]
      have hlo : cap ≤ lo := hfz
      rw [decide_eq_false (show ¬ lo ≤ 0 + xs.length * 1 + j by omega), Bool.false_and]
    · have e0 : 0 + xs.length * 1 = xs.length := by omega
      rw [e0]
      have hset : ((W.alloc (.cells #[.int .u8 b] e)).setCell ⟨g, xs.length, none⟩ (.int .u8 b)).heap[g]? = some (.cells (cur.setIfInBounds xs.length (.int .u8 b)) e fz) := by
        simp only [World.setCell, Array.getElem?_modify, hhA]
        simp
      have hs1 : ((W.alloc (.cells #[.int .u8 b] e)).setCell ⟨g, xs.length, none⟩ (.int .u8 b)).heap.size = W.heap.size + 1 := by simp
      refine h _ _ (.inr ⟨g, cap, _, fz, by rw [hn], hb, hset, hfz, by rw [hn]; exact hroom, hcm, by simp [hcs], ?_⟩) ⟨rfl, rfl, rfl, ?_, fun k hk _ hr => ?_, .inl rfl⟩
      · rw [hn, nums_append, nums_one, Array.toList_setIfInBounds, List.take_add_one, List.take_set_of_le (Nat.le_refl _), htk, List.getElem?_set_self (by simpa using (show xs.length < cur.size by omega))]
        rfl
      · show W.heap.size ≤ ((W.alloc (.cells #[.int .u8 b] e)).setCell ⟨g, xs.length, none⟩ (.int .u8 b)).heap.size
        rw [hs1]; omega
      · show ((W.alloc (.cells #[.int .u8 b] e)).setCell ⟨g, xs.length, none⟩ (.int .u8 b)).heap[k]? = W.heap[k]?
        rw [Below.heap_setCell _ _ _ k (fun e1 => hr (by rw [e1]; rfl)), heap_alloc_old W _ hk]
    · have e1 : nums .u8 xs ++ [Value.int .u8 b] = nums .u8 (xs ++ [b]) := by rw [nums_append, nums_one]
      rw [e1] at hown
      have hw : w1.ownsRow base e 1 v1 (xs ++ [b]).length (nums .u8 (xs ++ [b])) := by rw [hn]; exact own_weaken hown (by simp; omega)
      refine h v1 w1 (.inl hw) ⟨hg.os, hg.tape, hg.output, Nat.le_trans (by simp) hg.size, fun k hk hk2 hr => ?_, ?_⟩
      · rw [hg.block k (by simp; omega) (by simp), heap_alloc_old W _ hk]
      · rcases hown.2 with ⟨_, h0⟩ | ⟨g', c', cu', rfl, hb', _⟩
        · omega
        · exact .inr ⟨g', rfl, by simp at hb'; omega⟩
/-- The bytes of a row as a text. -/
theorem RowM.string {P : Program} {w : World} {base : Nat} {src dst e' e : TypeId} {v : Value} {xs : List Int} (hs : P.underlying src = some (.slice e)) (he : P.underlying e = some (.int .u8)) (hd : P.underlying dst = some .string) (h : RowM e' w base v xs) : (convert src dst v).run P w = .ok (.string (strOfNums xs)) w := by
  rcases h with h | ⟨g, cap, cur, fz, rfl, hb, hh, hfz, hlc, hcm, hcs, htk⟩
  · exact own_string hs he hd h
  · refine run_convert_bytes_arg w src e hs he g 0 xs.length cap xs rfl (fun i hi => ?_) dst hd
    have h1 : (nums .u8 xs)[i]? = some (.int .u8 (xs.getD i 0)) := by simp [nums, List.getElem?_eq_getElem hi, List.getD_eq_getElem?_getD]
    rw [← htk, List.getElem?_take_of_lt hi, Array.getElem?_toList] at h1
    simp only [World.cell?, hh]
    simpa using h1
/-! ### Numbers as letters -/
def numL (u : Nat) : Nat → List Int
  | 0 => []
  | n + 1 => (48 + ((u / 2 ^ n % 2 : Nat) : Int)) :: numL u n
theorem numL_length (u : Nat) : ∀ n, (numL u n).length = n
  | 0 => rfl
  | n + 1 => by rw [numL, List.length_cons, numL_length u n]
theorem Fr.store {w w1 : World} {p : Nat} {r : Option Nat} {v1 : Value} (h : Fr w w1 w.heap.size r v1.ownBlock) (hp : p < w.heap.size) : Fr w (w1.setCell ⟨p, 0, none⟩ v1) p r v1.ownBlock :=
  ⟨h.os, h.tape, h.output, by simpa using h.size, fun k hk hkp hr => by
    rw [Below.heap_setCell _ _ _ k hkp]; exact h.block k hk (by omega) hr, h.goes⟩
theorem cell_block {w : World} {p : Nat} {v : Value} {t : TypeId} (h : w.heap[p]? = some (.cells #[v] t (0, 0))) : w.cell? ⟨p, 0, none⟩ = some v := by simp only [World.cell?, h]; simp
theorem frozen_block {w : World} {p : Nat} {v : Value} {t : TypeId} (h : w.heap[p]? = some (.cells #[v] t (0, 0))) (j : Nat) : w.frozen? ⟨p, j, none⟩ = false := by simp only [World.frozen?, h]; simp
theorem set_block {w : World} {p : Nat} {v u : Value} {t : TypeId} (h : w.heap[p]? = some (.cells #[v] t (0, 0))) : (w.setCell ⟨p, 0, none⟩ u).heap[p]? = some (.cells #[u] t (0, 0)) := by
  simp only [World.setCell, Array.getElem?_modify, h]
  simp
theorem RowM.bytes (w : World) (e : TypeId) (s : ByteArray) (base : Nat) (hb : base ≤ w.heap.size) (hs : s.size ≤ maxLen) : RowM e (Lib.bytesWorld w e s) base (.slice (some ⟨w.heap.size, 0, none⟩) s.size (grownCap w s.size 0 e)) (bytesOf s) := by
  have hg := grownCap_ge w s.size 0 e
  have hz : (Lib.bytesCells w e s).size = grownCap w s.size 0 e := by simp [Lib.bytesCells]; have : s.data.size = s.size := rfl; omega
  refine .inr ⟨w.heap.size, _, _, _, by rw [bytesOf_length], hb, Lib.bytesWorld_at_new w e s, by rw [hz]; exact Nat.le_refl _, by rw [bytesOf_length]; exact hg, grownCap_le_maxLen w s.size 0 e hs, hz, ?_⟩
  rw [bytesOf_length]
  unfold Lib.bytesCells nums bytesOf
  rw [Array.toList_append, List.take_append_of_le_length (by simp), List.take_of_length_le (by simp)]
  simp
/-- A box, a pointer's cell and its row, in a world that grew from w. -/
structure BW (e t : TypeId) (w wr : World) (b p : Nat) (box : Array Value) (tb : TypeId) (v : Value) (xs : List Int) : Prop where
  box : wr.heap[b]? = some (.cells box tb (0, 0))
  ptr : wr.heap[p]? = some (.cells #[v] t (0, 0))
  row : RowM e wr w.heap.size v xs
  below : Below w.heap.size w wr
  lo : w.heap.size ≤ b
  lp : w.heap.size ≤ p
  ne : b ≠ p
theorem BW.step {e t : TypeId} {w wr w' : World} {b p : Nat} {box : Array Value} {tb : TypeId} {v v' : Value} {xs ys : List Int} (h : BW e t w wr b p box tb v xs) (he : e ≠ tb) (hp : w'.heap[p]? = some (.cells #[v'] t (0, 0))) (hv : RowM e w' w.heap.size v' ys) (hf : Fr wr w' p v.ownBlock v'.ownBlock) : BW e t w w' b p box tb v' ys := by
  refine ⟨(hf.block b (Array.getElem?_eq_some_iff.1 h.box).1 h.ne (fun e1 => ?_)).trans h.box, hp, hv, hf.below h.below h.below.size h.lp (fun k hk => (h.row.typed hk).1), h.lo, h.lp, h.ne⟩
  obtain ⟨_, _, cur, fz, hc⟩ := h.row.typed e1.symm
  rw [h.box] at hc
  injection hc with hc
  injection hc with _ hc
  exact he hc.symm
theorem RowM.nil (e : TypeId) (w : World) (base : Nat) : RowM e w base (.slice none 0 0) [] := .inl (own_nil w base e 1)
/-- The letters of a frame's body. -/
def flagL (b : Bool) : List Int := [48 + b2 b]
def dataL (l : List Int) : List Int := l.flatMap fun x => numL x.toNat 8
def headL (ext : Bool) (id : Int) (rtr : Bool) : List Int :=
  if ext = true then numL 0 1 ++ numL (id.toNat / 262144) 11 ++ numL 3 2 ++ numL id.toNat 18 ++ flagL rtr ++ numL 0 2 else numL 0 1 ++ numL id.toNat 11 ++ flagL rtr ++ numL 0 2
def bodyL (ext : Bool) (id : Int) (rtr : Bool) (dlc : Int) (data : List Int) : List Int := headL ext id rtr ++ numL dlc.toNat 4 ++ dataL data
theorem headL_length (ext : Bool) (id : Int) (rtr : Bool) : (headL ext id rtr).length ≤ 35 := by
  cases ext <;> simp [headL, numL_length, flagL]
theorem dataL_length (l : List Int) : (dataL l).length = 8 * l.length := by
  induction l with
  | nil => rfl
  | cons a l ih => rw [dataL, List.flatMap_cons, List.length_append, numL_length, List.length_cons]; unfold dataL at ih; omega
theorem dataL_snoc (l : List Int) (x : Int) : dataL (l ++ [x]) = dataL l ++ numL x.toNat 8 := by simp [dataL, List.flatMap_append]
end Go.Proofs.Ytdoclpgciadjaaa.P

namespace Go.Proofs.Ytdoclpgciadjaaa.P
open Go Go.RowKit Go.Proofs.YtdoclpgciadjaaaW.PrintWords
set_option linter.unusedVariables false
/-! ### The register of the sum, in natural numbers -/
def crcN (r b : Nat) : Nat := if (r / 16384) ^^^ b = 1 then (2 * r % 32768) ^^^ 17817 else 2 * r % 32768
theorem bits_xor_i64 (a b : Nat) (ha : a < 2 ^ 62) (hb : b < 2 ^ 62) : bits .xor .i64 (a : Int) (b : Int) = ((a ^^^ b : Nat) : Int) := by
  have hp : (2 : Nat) ^ 62 ≤ 2 ^ IntKind.i64.bits := Nat.pow_le_pow_right (by decide) (by decide)
  have ha' : a % 2 ^ IntKind.i64.bits = a := Nat.mod_eq_of_lt (Nat.lt_of_lt_of_le ha hp)
  have hb' : b % 2 ^ IntKind.i64.bits = b := Nat.mod_eq_of_lt (Nat.lt_of_lt_of_le hb hp)
  simp only [bits, BitVec.ofInt_natCast, BitVec.toNat_xor, BitVec.toNat_ofNat, ha', hb']
  have h := Nat.xor_lt_two_pow ha hb
  rw [IntKind.wrap_i64]
  omega
theorem bits_and_i64 (a b : Nat) (ha : a < 2 ^ 62) (hb : b < 2 ^ 62) : bits .and .i64 (a : Int) (b : Int) = ((a &&& b : Nat) : Int) :=
  (bits_nat .i64 62 (by decide) (fun n h0 h1 => by rw [IntKind.wrap_i64]; omega) a b ha hb).1
theorem crcI_nat (r b : Nat) (hr : r < 32768) (hb : b ≤ 1) : crcI r b = crcN r b := by
  have h1 : ((r : Int) / 16384) = ((r / 16384 : Nat) : Int) := by omega
  have h2 : bits .and .i64 ((r : Int) / 16384) 1 = ((r / 16384 : Nat) : Int) := by
    rw [h1]
    have := bits_and_i64 (r / 16384) 1 (by omega) (by decide)
    rw [show ((1 : Nat) : Int) = 1 from rfl] at this
    rw [this, Nat.and_one_is_mod]
    omega
  have h3 : bits .and .i64 (wrap64 ((r : Int) * 2)) 32767 = ((2 * r % 32768 : Nat) : Int) := by
    have hw : wrap64 ((r : Int) * 2) = ((2 * r : Nat) : Int) := by unfold wrap64; omega
    rw [hw]
    have := bits_and_i64 (2 * r) 32767 (by omega) (by decide)
    rw [show ((32767 : Nat) : Int) = 32767 from rfl] at this
    rw [this, show (32767 : Nat) = 2 ^ 15 - 1 from rfl, Nat.and_two_pow_sub_one_eq_mod]
  have h4 : bits .xor .i64 ((r / 16384 : Nat) : Int) (b : Int) = ((r / 16384 ^^^ b : Nat) : Int) := bits_xor_i64 _ _ (by omega) (by omega)
  have h5 : bits .xor .i64 ((2 * r % 32768 : Nat) : Int) 17817 = ((2 * r % 32768 ^^^ 17817 : Nat) : Int) := bits_xor_i64 _ 17817 (by omega) (by decide)
  unfold crcI crcN
  rw [h2, h3, h4, h5]
  by_cases c : r / 16384 ^^^ b = 1
  · rw [if_pos c, if_pos (by rw [c]; rfl)]
  · rw [if_neg c, if_neg (by omega)]
theorem crcN_lt (r b : Nat) : crcN r b < 32768 := by
  unfold crcN
  split
  · exact Nat.xor_lt_two_pow (n := 15) (by omega) (by decide)
  · omega
/-- A letter as a bit. -/
def bitN (c : Int) : Nat := if c = 49 then 1 else 0
def bitB (c : Int) : Bool := decide (c = 49)
/-- The sum of a list of letters. -/
def crcL (l : List Int) : Nat := l.foldl (fun r c => crcN r (bitN c)) 0
theorem crcL_snoc (l : List Int) (c : Int) : crcL (l ++ [c]) = crcN (crcL l) (bitN c) := by
  unfold crcL; rw [List.foldl_append]; rfl
/-- Induction from behind. -/
theorem snoc_ind {α : Type} {p : List α → Prop} (h0 : p []) (h1 : ∀ l c, p l → p (l ++ [c])) (l : List α) : p l := by
  have key : ∀ m : List α, p m.reverse := by
    intro m
    induction m with
    | nil => exact h0
    | cons a m ih => rw [List.reverse_cons]; exact h1 _ _ ih
  have := key l.reverse
  rwa [List.reverse_reverse] at this
theorem crcL_lt (l : List Int) : crcL l < 32768 := by
  induction l using snoc_ind with
  | h0 => decide
  | h1 l c _ => rw [crcL_snoc]; exact crcN_lt _ _
theorem crcI_list (l : List Int) (hl : ∀ c ∈ l, c = 48 ∨ c = 49) : l.foldl (fun r c => crcI r (c - 48)) 0 = (crcL l : Int) := by
  induction l using snoc_ind with
  | h0 => rfl
  | h1 l c ih =>
    rw [List.foldl_append, ih (fun x hx => hl x (List.mem_append_left _ hx)), crcL_snoc, List.foldl_cons, List.foldl_nil]
    rcases hl c (by simp) with rfl | rfl
    · exact crcI_nat _ 0 (crcL_lt l) (by decide)
    · exact crcI_nat _ 1 (crcL_lt l) (by decide)
/-- What one bit does to the register, place by place. -/
theorem crcN_testBit (r b : Nat) (hr : r < 32768) (hb : b ≤ 1) (j : Nat) (hj : j < 15) :
    (crcN r b).testBit j = (((decide (0 < j)) && r.testBit (j - 1)) ^^ ((r.testBit 14 ^^ decide (b = 1)) && Nat.testBit 17817 j)) := by
  have h14 : r.testBit 14 = decide (r / 16384 = 1) := by
    rw [Nat.testBit_eq_decide_div_mod_eq]
    congr 1
    have : r / 2 ^ 14 % 2 = r / 16384 := by omega
    rw [this]
  have hy : (2 * r % 32768).testBit j = (decide (0 < j) && r.testBit (j - 1)) := by
    rw [show (32768 : Nat) = 2 ^ 15 from rfl, Nat.testBit_mod_two_pow, show 2 * r = r <<< 1 by omega, Nat.testBit_shiftLeft]
    simp [hj]
    rfl
  have hx : (r / 16384 ^^^ b = 1) ↔ (r.testBit 14 ^^ decide (b = 1)) = true := by
    rw [h14]
    have h0 : r / 16384 = 0 ∨ r / 16384 = 1 := by omega
    have h1 : b = 0 ∨ b = 1 := by omega
    rcases h0 with h0 | h0 <;> rcases h1 with h1 | h1 <;> rw [h0, h1] <;> decide
  unfold crcN
  by_cases c : r / 16384 ^^^ b = 1
  · rw [if_pos c, Nat.testBit_xor, hy, hx.1 c, Bool.true_and]
  · rw [if_neg c, hy]
    have : (r.testBit 14 ^^ decide (b = 1)) = false := by
      cases h : (r.testBit 14 ^^ decide (b = 1)) with
      | false => rfl
      | true => exact absurd (hx.2 h) c
    rw [this]; simp
end Go.Proofs.Ytdoclpgciadjaaa.P

namespace Go.Proofs.Ytdoclpgciadjaaa.P
open Go Go.RowKit Go.Proofs.YtdoclpgciadjaaaW.PrintWords
set_option linter.unusedVariables false
/-! ### Texts out of letters -/
theorem text_ext {a b : ByteArray} (h : a.data.toList = b.data.toList) : a = b := by
  cases a; cases b
  exact congrArg ByteArray.mk (Array.toList_inj.1 h)
theorem str_append (a b : List Int) : strOfNums (a ++ b) = strOfNums a ++ strOfNums b := by
  apply text_ext
  rw [Joins.data_append, strOfNums_data, strOfNums_data, strOfNums_data, List.map_append]
theorem str_extract_left (a b : List Int) : (strOfNums (a ++ b)).extract 0 a.length = strOfNums a := by
  apply text_ext
  rw [Lib.extract_data, strOfNums_data, strOfNums_data, List.drop_zero, List.map_append, Nat.sub_zero]
  exact List.take_left' (by simp)
theorem str_extract_right (a b : List Int) : (strOfNums (a ++ b)).extract a.length (strOfNums (a ++ b)).size = strOfNums b := by
  apply text_ext
  rw [Lib.extract_data, strOfNums_data, strOfNums_data, List.map_append, List.drop_left' (by simp), strOfNums_size, List.length_append, List.take_of_length_le (by simp)]
theorem str_extract (l : List Int) (a b : Nat) (h : a ≤ b) : (strOfNums l).extract a b = strOfNums ((l.drop a).take (b - a)) := by
  apply text_ext
  rw [Lib.extract_data, strOfNums_data, strOfNums_data, List.map_take, List.map_drop]
theorem bytes_str (l : List Int) (h : ∀ x ∈ l, 0 ≤ x ∧ x < 256) : bytesOf (strOfNums l) = l := by
  unfold bytesOf
  rw [strOfNums_data, List.map_map]
  conv => rhs; rw [← List.map_id l]
  refine List.map_congr_left fun x hx => ?_
  have := h x hx
  simp only [Function.comp, id]
  rw [UInt8.toNat_ofNat_of_lt' (show x.toNat < UInt8.size by simp [UInt8.size]; omega)]
  omega
theorem numL_snoc (u n : Nat) : numL u (n + 1) = numL (u / 2) n ++ [48 + ((u % 2 : Nat) : Int)] := by
  induction n with
  | zero => simp [numL]
  | succ n ih =>
    rw [numL, ih, numL, List.cons_append]
    congr 3
    rw [Nat.div_div_eq_div_mul, Nat.pow_succ, Nat.mul_comm]
theorem numL_add (u a b : Nat) : numL u (a + b) = numL (u / 2 ^ b) a ++ numL u b := by
  induction a with
  | zero => rw [Nat.zero_add]; rfl
  | succ a ih =>
    rw [show a + 1 + b = (a + b) + 1 by omega, numL, ih, numL, List.cons_append, Nat.div_div_eq_div_mul, ← Nat.pow_add, Nat.add_comm b a]
theorem numL_bits (u n : Nat) : ∀ x ∈ numL u n, x = 48 ∨ x = 49 := by
  induction n with
  | zero => intro x hx; cases hx
  | succ n ih =>
    intro x hx
    rw [numL] at hx
    rcases List.mem_cons.1 hx with rfl | hx
    · have : u / 2 ^ n % 2 < 2 := Nat.mod_lt _ (by decide)
      omega
    · exact ih x hx
def Bits (l : List Int) : Prop := ∀ x ∈ l, x = 48 ∨ x = 49
theorem Bits.range {l : List Int} (h : Bits l) : ∀ x ∈ l, 0 ≤ x ∧ x < 256 := fun x hx => by rcases h x hx with rfl | rfl <;> omega
theorem Bits.append {a b : List Int} (h : Bits a) (k : Bits b) : Bits (a ++ b) := fun x hx => (List.mem_append.1 hx).elim (h x) (k x)
theorem isBits_str {l : List Int} (h : Bits l) : isBits (strOfNums l) = true := by
  unfold isBits
  rw [strOfNums_data, List.all_map, List.all_eq_true]
  intro x hx
  rcases h x hx with rfl | rfl <;> rfl
theorem crcOf_str {l : List Int} (h : Bits l) : crcOf (strOfNums l) = (crcL l : Int) := by
  unfold crcOf
  rw [bytes_str l h.range]
  exact crcI_list l h
theorem flagL_bits (b : Bool) : Bits (flagL b) := by cases b <;> intro x hx <;> simp [flagL, b2] at hx <;> omega
theorem dataL_bits (l : List Int) : Bits (dataL l) := by
  intro x hx
  obtain ⟨y, _, hy⟩ := List.mem_flatMap.1 hx
  exact numL_bits _ _ x hy
theorem bodyL_bits (ext : Bool) (id : Int) (rtr : Bool) (dlc : Int) (l : List Int) : Bits (bodyL ext id rtr dlc l) := by
  unfold bodyL headL
  refine ((?_ : Bits _).append (numL_bits _ _)).append (dataL_bits l)
  cases ext
  · exact (((Bits.append (numL_bits _ _) (numL_bits _ _)).append (flagL_bits rtr)).append (numL_bits _ _))
  · exact ((((Bits.append (Bits.append (numL_bits _ _) (numL_bits _ _)) (numL_bits _ _)).append (numL_bits _ _)).append (flagL_bits rtr)).append (numL_bits _ _))
theorem bodyL_length (ext : Bool) (id : Int) (rtr : Bool) (dlc : Int) (l : List Int) (h : l.length ≤ 8) : (bodyL ext id rtr dlc l).length ≤ 103 := by
  unfold bodyL
  rw [List.length_append, List.length_append, numL_length, dataL_length]
  have := headL_length ext id rtr
  omega
/-- The plain bits of a frame, its sum behind. -/
def plainL (ext : Bool) (id : Int) (rtr : Bool) (dlc : Int) (l : List Int) : List Int := bodyL ext id rtr dlc l ++ numL (crcL (bodyL ext id rtr dlc l)) 15
theorem plainL_bits (ext : Bool) (id : Int) (rtr : Bool) (dlc : Int) (l : List Int) : Bits (plainL ext id rtr dlc l) := (bodyL_bits ext id rtr dlc l).append (numL_bits _ _)
theorem plainL_length (ext : Bool) (id : Int) (rtr : Bool) (dlc : Int) (l : List Int) (h : l.length ≤ 8) : (plainL ext id rtr dlc l).length ≤ 118 := by
  unfold plainL
  rw [List.length_append, numL_length]
  have := bodyL_length ext id rtr dlc l h
  omega
def onesL : List Int := [49, 49, 49, 49, 49, 49, 49, 49, 49, 49]
end Go.Proofs.Ytdoclpgciadjaaa.P

/- A frame as far as it has been heard, told by its plain bits. -/
namespace Go.Proofs.Ytdoclpgciadjaaa.P
open Go Go.RowKit Go.Proofs.YtdoclpgciadjaaaW.PrintWords
set_option linter.unusedVariables false
@[elab_as_elim] theorem revInd {Q : List Int → Prop} (nil : Q []) (snoc : ∀ l c, Q l → Q (l ++ [c])) : ∀ l, Q l := by
  intro l
  rw [← List.reverse_reverse l]
  induction l.reverse with
  | nil => exact nil
  | cons c t ih => rw [List.reverse_cons]; exact snoc _ _ ih
/-- A bit text as a number. -/
def V (l : List Int) : Int := l.foldl (fun v c => 2 * v + (c - 48)) 0
theorem V_nil : V [] = 0 := rfl
theorem V_snoc (l : List Int) (c : Int) : V (l ++ [c]) = 2 * V l + (c - 48) := by unfold V; rw [List.foldl_append]; rfl
theorem V_range {l : List Int} (h : Bits l) : 0 ≤ V l ∧ V l < 2 ^ l.length := by
  induction l using revInd with
  | nil => exact ⟨by decide, by decide⟩
  | snoc l c ih =>
    obtain ⟨h1, h2⟩ := ih (fun x hx => h x (List.mem_append_left _ hx))
    have hc := h c (by simp)
    rw [V_snoc, List.length_append, List.length_singleton, Int.pow_succ]
    constructor <;> rcases hc with rfl | rfl <;> omega
theorem V_lt {l : List Int} (h : Bits l) {n : Nat} (hn : l.length ≤ n) {m : Int} (hm : (2 : Int) ^ n = m) : V l < m := by
  have h1 := (V_range h).2
  have h2 : (2 : Int) ^ l.length ≤ 2 ^ n := by
    have := Nat.pow_le_pow_right (show 0 < 2 by decide) hn
    exact_mod_cast this
  omega
/-- Bits to bytes, the last one as far as it goes. -/
def byteStep (st : List Int × Nat) (c : Int) : List Int × Nat := (if st.2 % 8 = 0 then st.1 ++ [(c - 48) % 256] else st.1.set (st.1.length - 1) ((2 * rd st.1 ((st.1.length : Int) - 1) + (c - 48)) % 256), st.2 + 1)
def bytesB (l : List Int) : List Int := (l.foldl byteStep ([], 0)).1
theorem bytesB_count (l : List Int) : (l.foldl byteStep ([], 0)).2 = l.length := by
  induction l using revInd with
  | nil => rfl
  | snoc l c ih => rw [List.foldl_append, List.length_append, List.length_singleton, ← ih]; rfl
theorem bytesB_snoc (l : List Int) (c : Int) : bytesB (l ++ [c]) = if l.length % 8 = 0 then bytesB l ++ [(c - 48) % 256] else (bytesB l).set ((bytesB l).length - 1) ((2 * rd (bytesB l) (((bytesB l).length : Int) - 1) + (c - 48)) % 256) := by
  have := bytesB_count l
  unfold bytesB
  rw [List.foldl_append, List.foldl_cons, List.foldl_nil, byteStep, this]
theorem bytesB_length (l : List Int) : (bytesB l).length = (l.length + 7) / 8 := by
  induction l using revInd with
  | nil => rfl
  | snoc l c ih =>
    rw [bytesB_snoc, List.length_append, List.length_singleton]
    split
    · rw [List.length_append, List.length_singleton, ih]; omega
    · rw [List.length_set, ih]; omega
theorem bytesB_range (l : List Int) : ∀ x ∈ bytesB l, 0 ≤ x ∧ x < 256 := by
  induction l using revInd with
  | nil => intro x hx; cases hx
  | snoc l c ih =>
    intro x hx
    rw [bytesB_snoc] at hx
    split at hx
    · rcases List.mem_append.1 hx with h | h
      · exact ih x h
      · rw [List.mem_singleton] at h; omega
    · rcases List.mem_or_eq_of_mem_set hx with h | h
      · exact ih x h
      · omega
/-- The sum of plain bits. -/
def crcS (l : List Int) : Int := l.foldl (fun r c => crcI r (c - 48)) 0
theorem crcS_snoc (l : List Int) (c : Int) : crcS (l ++ [c]) = crcI (crcS l) (c - 48) := by unfold crcS; rw [List.foldl_append]; rfl
/-- All that is ahead of the length code. -/
inductive Hd : List Int → Bool → Bool → Int → Prop
  | base (a r z : Int) (I : List Int) (h : I.length = 11) : Hd (a :: I ++ [r, 48, z]) false (r == 49) (V I)
  | ext (a r q z y : Int) (I J : List Int) (h : I.length = 11) (k : J.length = 18) : Hd (a :: I ++ [r, 49] ++ J ++ [q, z, y]) true (q == 49) (V (I ++ J))
structure Body9 (B H D X : List Int) (e r : Bool) (i : Int) : Prop where
  eq : B = H ++ D ++ X
  hd : Hd H e r i
  dl : D.length = 4
/-- What is kept of a frame: field, left, got, ext, id, rtr, dlc, data. -/
def core (s : WS) : Int × Int × Int × Bool × Int × Bool × Int × List Int := (s.field, s.left, s.got, s.ext, s.id, s.rtr, s.dlc, s.data)
/-- The state that the plain bits give. -/
inductive Ph : List Int → Int × Int × Int × Bool × Int × Bool × Int × List Int → Int → Prop
  | sof : Ph [] (1, 1, 0, false, 0, false, 0, []) 0
  | ida (a : Int) (I : List Int) (h : I.length < 11) : Ph (a :: I) (2, 11 - I.length, 0, false, V I, false, 0, []) (crcS (a :: I))
  | rtr (a : Int) (I : List Int) (h : I.length = 11) : Ph (a :: I) (3, 1, 0, false, V I, false, 0, []) (crcS (a :: I))
  | ide (a r : Int) (I : List Int) (h : I.length = 11) : Ph (a :: I ++ [r]) (4, 1, 0, false, V I, r == 49, 0, []) (crcS (a :: I ++ [r]))
  | idb (a r : Int) (I J : List Int) (h : I.length = 11) (k : J.length < 18) : Ph (a :: I ++ [r, 49] ++ J) (5, 18 - J.length, 0, true, V (I ++ J), r == 49, 0, []) (crcS (a :: I ++ [r, 49] ++ J))
  | rtrx (a r : Int) (I J : List Int) (h : I.length = 11) (k : J.length = 18) : Ph (a :: I ++ [r, 49] ++ J) (6, 1, 0, true, V (I ++ J), r == 49, 0, []) (crcS (a :: I ++ [r, 49] ++ J))
  | resx (a r q : Int) (I J Z : List Int) (h : I.length = 11) (k : J.length = 18) (z : Z.length < 2) : Ph (a :: I ++ [r, 49] ++ J ++ [q] ++ Z) (7, 2 - Z.length, 0, true, V (I ++ J), q == 49, 0, []) (crcS (a :: I ++ [r, 49] ++ J ++ [q] ++ Z))
  | resb (a r : Int) (I : List Int) (h : I.length = 11) : Ph (a :: I ++ [r, 48]) (7, 1, 0, false, V I, r == 49, 0, []) (crcS (a :: I ++ [r, 48]))
  | dlc (H D : List Int) (e r : Bool) (i : Int) (h : Hd H e r i) (d : D.length < 4) : Ph (H ++ D) (8, 4 - D.length, 0, e, i, r, V D, []) (crcS (H ++ D))
  | data (H D X : List Int) (e r : Bool) (i : Int) (h : Hd H e r i) (d : D.length = 4) (x : (X.length : Int) < 8 * dataB r (V D)) : Ph (H ++ D ++ X) (9, 8 * dataB r (V D) - X.length, 0, e, i, r, V D, bytesB X) (crcS (H ++ D ++ X))
  | crc (H D X C : List Int) (e r : Bool) (i : Int) (h : Hd H e r i) (d : D.length = 4) (x : (X.length : Int) = 8 * dataB r (V D)) (c : C.length < 15) : Ph (H ++ D ++ X ++ C) (10, 15 - C.length, V C, e, i, r, V D, bytesB X) (crcS (H ++ D ++ X))
  | del (H D X C T : List Int) (e r : Bool) (i : Int) (h : Hd H e r i) (d : D.length = 4) (x : (X.length : Int) = 8 * dataB r (V D)) (c : C.length = 15) (t : T.length < 3) : Ph (H ++ D ++ X ++ C ++ T) (11 + T.length, 1, V C, e, i, r, V D, bytesB X) (crcS (H ++ D ++ X))
  | eof (H D X C T : List Int) (e r : Bool) (i : Int) (h : Hd H e r i) (d : D.length = 4) (x : (X.length : Int) = 8 * dataB r (V D)) (c : C.length = 15) (t3 : 3 ≤ T.length) (t : T.length < 10) : Ph (H ++ D ++ X ++ C ++ T) (14, 10 - T.length, V C, e, i, r, V D, bytesB X) (crcS (H ++ D ++ X))
theorem dataB_range {r : Bool} {d : Int} (h : 0 ≤ d) : 0 ≤ dataB r d ∧ dataB r d ≤ 8 := by unfold dataB; split <;> (try split) <;> omega
/-- The step of the core, from one state to the next. -/
structure CoreIs (s : WS) (f l g : Int) (e : Bool) (i : Int) (r : Bool) (d : Int) (x : List Int) (m : Int) : Prop where
  f : s.field = f
  l : s.left = l
  g : s.got = g
  e : s.ext = e
  i : s.id = i
  r : s.rtr = r
  d : s.dlc = d
  x : s.data = x
  m : s.sum = m
theorem CoreIs.core {s : WS} {f l g : Int} {e : Bool} {i : Int} {r : Bool} {d : Int} {x : List Int} {m : Int} (h : CoreIs s f l g e i r d x m) : core s = (f, l, g, e, i, r, d, x) ∧ s.sum = m := by
  obtain ⟨rfl, rfl, rfl, rfl, rfl, rfl, rfl, rfl, rfl⟩ := h
  exact ⟨rfl, rfl⟩
theorem core_is {s : WS} {f l g : Int} {e : Bool} {i : Int} {r : Bool} {d : Int} {x : List Int} {m : Int} (h : core s = (f, l, g, e, i, r, d, x)) (hm : s.sum = m) : CoreIs s f l g e i r d x m := by
  unfold P.core at h
  simp only [Prod.mk.injEq] at h
  obtain ⟨h1, h2, h3, h4, h5, h6, h7, h8⟩ := h
  exact ⟨h1, h2, h3, h4, h5, h6, h7, h8, hm⟩
/-- What the counting down does. -/
theorem next_is {s : WS} {f l g : Int} {e : Bool} {i : Int} {r : Bool} {d : Int} {x : List Int} {m : Int} (h : CoreIs s f l g e i r d x m) {f' l' : Int} (hn : nextP s = (f', l')) : CoreIs (nextW s) f' l' g e i r d x m := by
  rw [nextW_eq, hn]
  exact ⟨rfl, rfl, h.g, h.e, h.i, h.r, h.d, h.x, h.m⟩
theorem next_more {s : WS} {l : Int} (h : s.left = l) (hl : 1 < l) : nextP s = (s.field, l - 1) := by unfold nextP; rw [if_pos (by omega), h]
theorem next_over {s : WS} {f l : Int} (h : s.left = 1) (hf : s.field = f) (h4 : f ≠ 4 ∨ s.ext = true) (h9 : f + 1 ≠ 9 ∨ dataB s.rtr s.dlc ≠ 0) (hl : enterL s (f + 1) = l) : nextP s = (f + 1, l) := by
  unfold nextP enterP
  rw [if_neg (by omega), if_neg (by rintro ⟨a, b⟩; rcases h4 with h4 | h4; exact h4 (by omega); rw [b] at h4; cases h4), hf, if_neg (by rintro ⟨a, b⟩; rcases h9 with h9 | h9; exact h9 a; exact h9 b), hl]
end Go.Proofs.Ytdoclpgciadjaaa.P

/- A further plain bit: the state goes on as the plain bits say. -/
namespace Go.Proofs.Ytdoclpgciadjaaa.P
open Go Go.RowKit Go.Proofs.YtdoclpgciadjaaaW.PrintWords
set_option linter.unusedVariables false
def tk (s : WS) (b : Int) : WS := takeW (sumW s b) b
section
variable {s : WS} {f l g : Int} {e : Bool} {i : Int} {r : Bool} {d : Int} {x : List Int} {m : Int}
theorem CoreIs.of (h : CoreIs s f l g e i r d x m) {f' l' g' : Int} {e' : Bool} {i' : Int} {r' : Bool} {d' : Int} {x' : List Int} {m' : Int} (h1 : f = f') (h2 : l = l') (h3 : g = g') (h4 : e = e') (h5 : i = i') (h6 : r = r') (h7 : d = d') (h8 : x = x') (h9 : m = m') : CoreIs s f' l' g' e' i' r' d' x' m' := by
  subst h1 h2 h3 h4 h5 h6 h7 h8 h9; exact h
theorem sum_in (h : CoreIs s f l g e i r d x m) (hf : f ≤ 9) (b : Int) : sumW s b = { s with sum := crcI s.sum b } := by unfold sumW; rw [if_pos (by have := h.f; omega)]
theorem sum_out (h : CoreIs s f l g e i r d x m) (hf : 9 < f) (b : Int) : sumW s b = s := by unfold sumW; rw [if_neg (by have := h.f; omega)]
theorem tk_sof (h : CoreIs s 1 l g e i r d x m) (b : Int) : CoreIs (tk s b) 1 l g e i r d x (crcI m b) := by
  have h0 := h.f
  have e1 : core (tk s b) = core s ∧ (tk s b).sum = crcI s.sum b := by
    unfold tk takeW; rw [sum_in h (by omega), if_pos (show s.field = 1 from h0)]
    split <;> exact ⟨rfl, rfl⟩
  refine core_is (e1.1.trans h.core.1) (e1.2.trans (by rw [h.m]))
theorem tk_id (h : CoreIs s f l g e i r d x m) (hf : f = 2 ∨ f = 5) (b : Int) : CoreIs (tk s b) f l g e ((2 * i + b) % 4294967296) r d x (crcI m b) := by
  have h0 := h.f
  have e1 : tk s b = { s with sum := crcI s.sum b, id := (2 * s.id + b) % 4294967296 } := by
    unfold tk takeW; rw [sum_in h (by omega), if_neg (show ¬ s.field = 1 by omega), if_pos (show s.field = 2 ∨ s.field = 5 by omega)]
  rw [e1]
  exact ⟨h.f, h.l, h.g, h.e, by simp only [h.i], h.r, h.d, h.x, by simp only [h.m]⟩
theorem tk_rtr (h : CoreIs s f l g e i r d x m) (hf : f = 3 ∨ f = 6) (b : Int) : CoreIs (tk s b) f l g e i (b == 1) d x (crcI m b) := by
  have h0 := h.f
  have e1 : tk s b = { s with sum := crcI s.sum b, rtr := b == 1 } := by
    unfold tk takeW; rw [sum_in h (by omega), if_neg (show ¬ s.field = 1 by omega), if_neg (show ¬ (s.field = 2 ∨ s.field = 5) by omega), if_pos (show s.field = 3 ∨ s.field = 6 by omega)]
  rw [e1]
  exact ⟨h.f, h.l, h.g, h.e, h.i, rfl, h.d, h.x, by simp only [h.m]⟩
theorem tk_ide (h : CoreIs s 4 l g e i r d x m) (b : Int) : CoreIs (tk s b) 4 l g (b == 1) i r d x (crcI m b) := by
  have h0 := h.f
  have e1 : tk s b = { s with sum := crcI s.sum b, ext := b == 1 } := by
    unfold tk takeW; rw [sum_in h (by omega), if_neg (show ¬ s.field = 1 by omega), if_neg (show ¬ (s.field = 2 ∨ s.field = 5) by omega), if_neg (show ¬ (s.field = 3 ∨ s.field = 6) by omega), if_pos (show s.field = 4 from h0)]
  rw [e1]
  exact ⟨h.f, h.l, h.g, rfl, h.i, h.r, h.d, h.x, by simp only [h.m]⟩
theorem tk_res (h : CoreIs s 7 l g e i r d x m) (b : Int) : CoreIs (tk s b) 7 l g e i r d x (crcI m b) := by
  have h0 := h.f
  have e1 : tk s b = { s with sum := crcI s.sum b } := by
    unfold tk takeW; rw [sum_in h (by omega), if_neg (show ¬ s.field = 1 by omega), if_neg (show ¬ (s.field = 2 ∨ s.field = 5) by omega), if_neg (show ¬ (s.field = 3 ∨ s.field = 6) by omega), if_neg (show ¬ s.field = 4 by omega), if_neg (show ¬ s.field = 8 by omega), if_neg (show ¬ s.field = 9 by omega), if_neg (show ¬ s.field = 10 by omega), if_neg (show ¬ s.field = 11 by omega), if_neg (show ¬ s.field = 13 by omega), if_neg (show ¬ s.field = 14 by omega)]
  rw [e1]
  exact ⟨h.f, h.l, h.g, h.e, h.i, h.r, h.d, h.x, by simp only [h.m]⟩
theorem tk_dlc (h : CoreIs s 8 l g e i r d x m) (b : Int) : CoreIs (tk s b) 8 l g e i r (2 * d + b) x (crcI m b) := by
  have h0 := h.f
  have e1 : tk s b = { s with sum := crcI s.sum b, dlc := 2 * s.dlc + b } := by
    unfold tk takeW; rw [sum_in h (by omega), if_neg (show ¬ s.field = 1 by omega), if_neg (show ¬ (s.field = 2 ∨ s.field = 5) by omega), if_neg (show ¬ (s.field = 3 ∨ s.field = 6) by omega), if_neg (show ¬ s.field = 4 by omega), if_pos (show s.field = 8 from h0)]
  rw [e1]
  exact ⟨h.f, h.l, h.g, h.e, h.i, h.r, by simp only [h.d], h.x, by simp only [h.m]⟩
theorem tk_data (h : CoreIs s 9 l g e i r d x m) (b : Int) : CoreIs (tk s b) 9 l g e i r d (dataW s b) (crcI m b) := by
  have h0 := h.f
  have e1 : tk s b = { s with sum := crcI s.sum b, data := dataW s b } := by
    unfold tk; rw [sum_in h (by omega), takeW9 ({ s with sum := crcI s.sum b }) b h0]; rfl
  rw [e1]
  exact ⟨h.f, h.l, h.g, h.e, h.i, h.r, h.d, rfl, by simp only [h.m]⟩
theorem tk_got (h : CoreIs s 10 l g e i r d x m) (b : Int) : CoreIs (tk s b) 10 l (2 * g + b) e i r d x m := by
  have h0 := h.f
  have e1 : tk s b = { s with got := 2 * s.got + b } := by
    unfold tk takeW; rw [sum_out h (by omega), if_neg (show ¬ s.field = 1 by omega), if_neg (show ¬ (s.field = 2 ∨ s.field = 5) by omega), if_neg (show ¬ (s.field = 3 ∨ s.field = 6) by omega), if_neg (show ¬ s.field = 4 by omega), if_neg (show ¬ s.field = 8 by omega), if_neg (show ¬ s.field = 9 by omega), if_pos (show s.field = 10 from h0)]
  rw [e1]
  exact ⟨h.f, h.l, by simp only [h.g], h.e, h.i, h.r, h.d, h.x, h.m⟩
theorem endW_core (s : WS) (b : Int) : core (endW s b) = core s ∧ (endW s b).sum = s.sum := by unfold endW; (repeat' split) <;> exact ⟨rfl, rfl⟩
theorem tk_late (h : CoreIs s f l g e i r d x m) (hf : 11 ≤ f) (b : Int) : CoreIs (tk s b) f l g e i r d x m := by
  have h0 := h.f
  have e1 : core (tk s b) = core s ∧ (tk s b).sum = s.sum := by
    unfold tk takeW; rw [sum_out h (by omega), if_neg (show ¬ s.field = 1 by omega), if_neg (show ¬ (s.field = 2 ∨ s.field = 5) by omega), if_neg (show ¬ (s.field = 3 ∨ s.field = 6) by omega), if_neg (show ¬ s.field = 4 by omega), if_neg (show ¬ s.field = 8 by omega), if_neg (show ¬ s.field = 9 by omega), if_neg (show ¬ s.field = 10 by omega)]
    have := endW_core s b
    (repeat' split) <;> first | exact ⟨rfl, rfl⟩ | exact this
  exact core_is (e1.1.trans h.core.1) (e1.2.trans h.m)
end
theorem bits_len {p : List Int} (h : Bits p) (q : List Int) (hq : ∀ x ∈ q, x ∈ p) : Bits q := fun x hx => h x (hq x hx)
theorem pair_next {s : WS} {f l : Int} (h : nextP s = (f, l)) : nextP s = (f, l) := h
theorem dataW_eq {s : WS} {X : List Int} {n : Int} (b : Int) (hx : s.data = bytesB X) (hl : s.left = 8 * n - X.length) (hb : b = 48 ∨ b = 49) : dataW s (b - 48) = bytesB (X ++ [b]) := by
  have hlen := bytesB_length X
  unfold dataW
  rw [bytesB_snoc, hx]
  by_cases c : X.length % 8 = 0
  · rw [if_pos c, if_pos (by omega)]
    have hl2 : (bytesB X ++ [(0 : Int)]).length - 1 = (bytesB X).length := by simp
    have hr : rd (bytesB X ++ [(0 : Int)]) (((bytesB X ++ [(0 : Int)]).length : Int) - 1) = 0 := by
      rw [List.length_append, List.length_singleton, show (((bytesB X).length + 1 : Nat) : Int) - 1 = ((bytesB X).length : Int) by omega, rd_snoc, if_neg (by omega), if_pos rfl]
    simp only [hl2, hr]
    rw [List.set_append_right _ _ (Nat.le_refl _), Nat.sub_self]
    simp
  · rw [if_neg c, if_neg (by omega)]
/-- One more plain bit. -/
theorem ph_step {p : List Int} {c : Int × Int × Int × Bool × Int × Bool × Int × List Int} {m : Int} (h : Ph p c m) (s : WS) (hs : core s = c) (hm : s.sum = m) (b : Int) (hb : b = 48 ∨ b = 49) (hp : Bits p) (hend : ¬ (s.field = 14 ∧ s.left = 1)) :
    ∃ c' m', Ph (p ++ [b]) c' m' ∧ core (plainW s (b - 48)) = c' ∧ (plainW s (b - 48)).sum = m' := by
  have fin : ∀ {q : List Int} {f l g : Int} {e : Bool} {i : Int} {r : Bool} {d : Int} {x : List Int} {m' : Int}, p ++ [b] = q → Ph q (f, l, g, e, i, r, d, x) m' → CoreIs (plainW s (b - 48)) f l g e i r d x m' → ∃ c' m', Ph (p ++ [b]) c' m' ∧ core (plainW s (b - 48)) = c' ∧ (plainW s (b - 48)).sum = m' := by
    intro q f l g e i r d x m' hq hP hC
    exact ⟨_, _, hq ▸ hP, hC.core.1, hC.core.2⟩
  have b1 : ((b - 48 : Int) == 1) = (b == 49) := by rcases hb with rfl | rfl <;> rfl
  have hpl : plainW s (b - 48) = nextW (tk s (b - 48)) := rfl
  rw [hpl] at fin ⊢
  cases h with
  | sof =>
    have C := core_is hs hm
    have T := tk_sof C (b - 48)
    exact fin rfl (Ph.ida b [] (by decide)) ((next_is T (next_over T.l T.f (.inl (by omega)) (.inl (by omega)) rfl)).of rfl rfl rfl rfl rfl rfl rfl rfl (by rw [show [b] = [] ++ [b] from rfl, crcS_snoc]; rfl))
  | ida a I h =>
    have C := core_is hs hm
    have T := tk_id C (.inl rfl) (b - 48)
    have hI := V_lt (bits_len hp I (fun x hx => List.mem_cons_of_mem _ hx)) (n := 20) (by omega) rfl
    have hI0 := (V_range (bits_len hp I (fun x hx => List.mem_cons_of_mem _ hx))).1
    have hv : (2 * V I + (b - 48)) % 4294967296 = V (I ++ [b]) := by rw [V_snoc]; omega
    by_cases c : I.length = 10
    · exact fin rfl (Ph.rtr a (I ++ [b]) (by simp; omega)) ((next_is T (next_over (by rw [T.l]; omega) T.f (.inl (by omega)) (.inl (by omega)) rfl)).of rfl rfl rfl rfl hv rfl rfl rfl (crcS_snoc _ _).symm)
    · exact fin rfl (Ph.ida a (I ++ [b]) (by simp; omega)) ((next_is T (next_more T.l (by omega))).of T.f (by simp; omega) rfl rfl hv rfl rfl rfl (crcS_snoc _ _).symm)
  | rtr a I h =>
    have C := core_is hs hm
    have T := tk_rtr C (.inl rfl) (b - 48)
    exact fin rfl (Ph.ide a b I h) ((next_is T (next_over T.l T.f (.inl (by omega)) (.inl (by omega)) rfl)).of rfl rfl rfl rfl rfl b1 rfl rfl (crcS_snoc _ _).symm)
  | ide a r I h =>
    have C := core_is hs hm
    have T := tk_ide C (b - 48)
    rcases hb with rfl | rfl
    · refine fin (q := a :: I ++ [r, 48]) (by simp) (Ph.resb a r I h) ((next_is (f' := 7) (l' := 1) T ?_).of rfl rfl rfl rfl rfl rfl rfl rfl (by rw [← crcS_snoc]; simp))
      unfold nextP enterP
      rw [if_neg (by rw [T.l]; omega), if_pos ⟨T.f, T.e⟩, if_neg (fun h => by have := h.1; omega)]
      unfold enterL
      rw [T.e]; rfl
    · exact fin (q := a :: I ++ [r, 49] ++ []) (by simp) (Ph.idb a r I [] h (by decide)) ((next_is T (next_over T.l T.f (.inr T.e) (.inl (by omega)) rfl)).of rfl rfl rfl rfl (by simp) rfl rfl rfl (by rw [← crcS_snoc]; simp))
  | idb a r I J h k =>
    have C := core_is hs hm
    have T := tk_id C (.inr rfl) (b - 48)
    have hbij : Bits (I ++ J) := bits_len hp _ (fun x hx => by rcases List.mem_append.1 hx with h2 | h2 <;> simp [h2])
    have hI := V_lt hbij (n := 29) (by simp; omega) rfl
    have hI0 := (V_range hbij).1
    have hv : (2 * V (I ++ J) + (b - 48)) % 4294967296 = V (I ++ (J ++ [b])) := by rw [← List.append_assoc, V_snoc]; omega
    have hcr : crcI (crcS (a :: I ++ [r, 49] ++ J)) (b - 48) = crcS (a :: I ++ [r, 49] ++ (J ++ [b])) := by rw [← crcS_snoc]; simp
    by_cases c : J.length = 17
    · exact fin (q := a :: I ++ [r, 49] ++ (J ++ [b])) (by simp) (Ph.rtrx a r I (J ++ [b]) h (by simp; omega)) ((next_is T (next_over (by rw [T.l]; omega) T.f (.inl (by omega)) (.inl (by omega)) rfl)).of rfl rfl rfl rfl hv rfl rfl rfl hcr)
    · exact fin (q := a :: I ++ [r, 49] ++ (J ++ [b])) (by simp) (Ph.idb a r I (J ++ [b]) h (by simp; omega)) ((next_is T (next_more T.l (by omega))).of T.f (by simp; omega) rfl rfl hv rfl rfl rfl hcr)
  | rtrx a r I J h k =>
    have C := core_is hs hm
    have T := tk_rtr C (.inr rfl) (b - 48)
    refine fin (q := a :: I ++ [r, 49] ++ J ++ [b] ++ []) (by simp) (Ph.resx a r b I J [] h k (by decide)) ((next_is (f' := 7) (l' := 2) T ?_).of rfl rfl rfl rfl rfl b1 rfl rfl (by rw [← crcS_snoc]; simp))
    refine next_over (f := 6) T.l T.f (.inl (by omega)) (.inl (by omega)) ?_
    show enterL _ 7 = 2
    unfold enterL
    rw [T.e]; rfl
  | resx a r q I J Z h k z =>
    have C := core_is hs hm
    have T := tk_res C (b - 48)
    by_cases c : Z.length = 0
    · obtain rfl := List.eq_nil_of_length_eq_zero c
      exact fin (q := a :: I ++ [r, 49] ++ J ++ [q] ++ [b]) (by simp) (Ph.resx a r q I J [b] h k (by simp)) ((next_is T (next_more T.l (by simp))).of T.f (by simp) rfl rfl rfl rfl rfl rfl (by rw [← crcS_snoc]; simp))
    · obtain ⟨z0, rfl⟩ : ∃ z0, Z = [z0] := List.length_eq_one_iff.1 (by omega)
      exact fin (q := (a :: I ++ [r, 49] ++ J ++ [q, z0, b]) ++ []) (by simp) (Ph.dlc _ [] true (q == 49) _ (Hd.ext a r q z0 b I J h k) (by decide)) ((next_is T (next_over (by rw [T.l]; rfl) T.f (.inl (by omega)) (.inl (by omega)) rfl)).of rfl rfl rfl rfl rfl rfl rfl rfl (by rw [← crcS_snoc]; simp))
  | resb a r I h =>
    have C := core_is hs hm
    have T := tk_res C (b - 48)
    exact fin (q := (a :: I ++ [r, 48, b]) ++ []) (by simp) (Ph.dlc _ [] false (r == 49) _ (Hd.base a r b I h) (by decide)) ((next_is T (next_over T.l T.f (.inl (by omega)) (.inl (by omega)) rfl)).of rfl rfl rfl rfl rfl rfl rfl rfl (by rw [← crcS_snoc]; simp))
  | dlc H D e r i h d =>
    have C := core_is hs hm
    have T := tk_dlc C (b - 48)
    have hv : 2 * V D + (b - 48) = V (D ++ [b]) := (V_snoc _ _).symm
    have hcr : crcI (crcS (H ++ D)) (b - 48) = crcS (H ++ (D ++ [b])) := by rw [← crcS_snoc]; simp
    have hd0 : 0 ≤ V (D ++ [b]) := (V_range (l := D ++ [b]) (fun x hx => by rcases List.mem_append.1 hx with h2 | h2; exact hp x (List.mem_append_right _ h2); rw [List.mem_singleton] at h2; rw [h2]; exact hb)).1
    by_cases c : D.length = 3
    · have hd4 : (D ++ [b]).length = 4 := by simp; omega
      by_cases cz : dataB r (V (D ++ [b])) = 0
      · refine fin (q := H ++ (D ++ [b]) ++ [] ++ []) (by simp) (Ph.crc H (D ++ [b]) [] [] e r i h hd4 (by rw [cz]; rfl) (by decide)) ((next_is (f' := 10) (l' := 15) T ?_).of rfl rfl rfl rfl rfl rfl hv rfl (by rw [hcr]; simp))
        unfold nextP enterP
        rw [if_neg (by rw [T.l]; omega), if_neg (by rw [T.f]; omega), if_pos ⟨by rw [T.f]; rfl, by rw [T.r, T.d, hv]; exact cz⟩]
      · have hr := dataB_range (r := r) hd0
        refine fin (q := H ++ (D ++ [b]) ++ []) (by simp) (Ph.data H (D ++ [b]) [] e r i h hd4 (by simp; omega)) ((next_is (f' := 9) (l' := 8 * dataB r (V (D ++ [b]))) T ?_).of rfl (by simp) rfl rfl rfl rfl hv rfl (by rw [hcr]; simp))
        refine next_over (f := 8) (by rw [T.l]; omega) T.f (.inl (by omega)) (.inr (by rw [T.r, T.d, hv]; exact cz)) ?_
        show enterL _ 9 = _
        unfold enterL
        rw [T.r, T.d, hv]; rfl
    · exact fin (q := H ++ (D ++ [b])) (by simp) (Ph.dlc H (D ++ [b]) e r i h (by simp; omega)) ((next_is T (next_more T.l (by omega))).of T.f (by simp; omega) rfl rfl rfl rfl hv rfl hcr)
  | data H D X e r i h d x =>
    have C := core_is hs hm
    have T := tk_data C (b - 48)
    have hx := dataW_eq (s := s) (n := dataB r (V D)) b C.x C.l hb
    have hcr : crcI (crcS (H ++ D ++ X)) (b - 48) = crcS (H ++ D ++ (X ++ [b])) := by rw [← crcS_snoc]; simp
    by_cases c : (X.length : Int) + 1 = 8 * dataB r (V D)
    · exact fin (q := H ++ D ++ (X ++ [b]) ++ []) (by simp) (Ph.crc H D (X ++ [b]) [] e r i h d (by simp; omega) (by decide)) ((next_is T (next_over (by rw [T.l]; omega) T.f (.inl (by omega)) (.inl (by omega)) rfl)).of rfl rfl rfl rfl rfl rfl rfl hx hcr)
    · exact fin (q := H ++ D ++ (X ++ [b])) (by simp) (Ph.data H D (X ++ [b]) e r i h d (by simp; omega)) ((next_is T (next_more T.l (by omega))).of T.f (by simp; omega) rfl rfl rfl rfl rfl hx hcr)
  | crc H D X C0 e r i h d x c =>
    have C := core_is hs hm
    have T := tk_got C (b - 48)
    have hv : 2 * V C0 + (b - 48) = V (C0 ++ [b]) := (V_snoc _ _).symm
    by_cases cc : C0.length = 14
    · exact fin (q := H ++ D ++ X ++ (C0 ++ [b]) ++ []) (by simp) (Ph.del H D X (C0 ++ [b]) [] e r i h d x (by simp; omega) (by decide)) ((next_is T (next_over (by rw [T.l]; omega) T.f (.inl (by omega)) (.inl (by omega)) rfl)).of rfl rfl hv rfl rfl rfl rfl rfl rfl)
    · exact fin (q := H ++ D ++ X ++ (C0 ++ [b])) (by simp) (Ph.crc H D X (C0 ++ [b]) e r i h d x (by simp; omega)) ((next_is T (next_more T.l (by omega))).of T.f (by simp; omega) hv rfl rfl rfl rfl rfl rfl)
  | del H D X C0 T0 e r i h d x c t =>
    have C := core_is hs hm
    have T := tk_late C (by omega) (b - 48)
    by_cases cc : T0.length = 2
    · refine fin (q := H ++ D ++ X ++ C0 ++ (T0 ++ [b])) (by simp) (Ph.eof H D X C0 (T0 ++ [b]) e r i h d x c (by simp; omega) (by simp; omega)) ((next_is (f' := 14) (l' := 7) T ?_).of rfl (by simp; omega) rfl rfl rfl rfl rfl rfl rfl)
      refine (next_over (f := 13) T.l (by rw [T.f]; omega) (.inl (by omega)) (.inl (by omega)) ?_)
      rfl
    · refine fin (q := H ++ D ++ X ++ C0 ++ (T0 ++ [b])) (by simp) (Ph.del H D X C0 (T0 ++ [b]) e r i h d x c (by simp; omega)) ((next_is (f' := 11 + T0.length + 1) (l' := 1) T ?_).of (by simp; omega) rfl rfl rfl rfl rfl rfl rfl rfl)
      refine (next_over (f := 11 + T0.length) T.l T.f (.inl (by omega)) (.inl (by omega)) ?_)
      unfold enterL
      rw [if_neg (by omega), if_neg (by omega), if_neg (by omega), if_neg (by omega), if_neg (by omega), if_neg (by omega), if_neg (by omega)]
  | eof H D X C0 T0 e r i h d x c t3 t =>
    have C := core_is hs hm
    have T := tk_late C (by omega) (b - 48)
    have hl := C.l
    have hf := C.f
    exact fin (q := H ++ D ++ X ++ C0 ++ (T0 ++ [b])) (by simp) (Ph.eof H D X C0 (T0 ++ [b]) e r i h d x c (by simp; omega) (by simp; omega)) ((next_is T (next_more T.l (by omega))).of T.f (by simp; omega) rfl rfl rfl rfl rfl rfl rfl)
end Go.Proofs.Ytdoclpgciadjaaa.P

namespace Go.Proofs.Ytdoclpgciadjaaa.P
open Go Go.RowKit Go.Proofs.YtdoclpgciadjaaaW.PrintWords
set_option linter.unusedVariables false
/-! ### How many equal letters stand last -/
structure Trail (l : List Int) (n run : Nat) (last : Int) : Prop where
  le : n ≤ l.length
  run_le : run ≤ n
  same : ∀ j, n - run ≤ j → j < n → rd l (j : Int) = last
  other : run < n → rd l ((n - run - 1 : Nat) : Int) ≠ last
  pos : 0 < n → 0 < run
theorem Trail.zero (l : List Int) (last : Int) : Trail l 0 0 last := ⟨Nat.zero_le _, Nat.le_refl _, fun j _ h => absurd h (Nat.not_lt_zero j), fun h => absurd h (Nat.lt_irrefl _), fun h => absurd h (Nat.lt_irrefl _)⟩
theorem Trail.next {l : List Int} {n run : Nat} {last : Int} (h : Trail l n run last) (hn : n < l.length) : Trail l (n + 1) (if rd l (n : Int) = last then run + 1 else 1) (rd l (n : Int)) := by
  have hr := h.run_le
  by_cases c : rd l (n : Int) = last
  · rw [if_pos c]
    refine ⟨by omega, by omega, fun j h1 h2 => ?_, fun h1 => ?_, fun _ => by omega⟩
    · by_cases e : j = n
      · rw [e]
      · rw [h.same j (by omega) (by omega), c]
    · rw [show n + 1 - (run + 1) - 1 = n - run - 1 by omega, c]
      exact h.other (by omega)
  · rw [if_neg c]
    refine ⟨by omega, by omega, fun j h1 h2 => ?_, fun h1 => ?_, fun _ => by omega⟩
    · rw [show j = n by omega]
    · rw [show n + 1 - 1 - 1 = n - 1 by omega]
      have hp := h.pos (by omega)
      rw [h.same (n - 1) (by omega) (by omega)]
      exact fun e => c e.symm
theorem rd_append (l m : List Int) (j : Nat) (h : j < l.length) : rd (l ++ m) (j : Int) = rd l (j : Int) := by
  unfold rd
  rw [Int.toNat_natCast, List.getD_eq_getElem?_getD, List.getD_eq_getElem?_getD, List.getElem?_append_left h]
theorem rd_last (l : List Int) (c : Int) : rd (l ++ [c]) (l.length : Int) = c := by
  rw [rd_snoc, if_neg (Nat.lt_irrefl _), if_pos rfl]
theorem Trail.append {l : List Int} {n run : Nat} {last : Int} (h : Trail l n run last) (m : List Int) : Trail (l ++ m) n run last := by
  have := h.le
  refine ⟨by rw [List.length_append]; omega, h.run_le, fun j h1 h2 => ?_, fun h1 => ?_, h.pos⟩
  · rw [rd_append l m j (by omega)]; exact h.same j h1 h2
  · rw [rd_append l m _ (by omega)]; exact h.other h1
theorem Trail.snoc {l : List Int} {run : Nat} {last : Int} (h : Trail l l.length run last) (c : Int) : Trail (l ++ [c]) (l.length + 1) (if c = last then run + 1 else 1) c := by
  have h1 := (h.append [c]).next (by simp)
  rw [rd_last] at h1
  exact h1
/-- Five equal letters stand last, or not: what is compared, one behind the other. -/
theorem Trail.five {l : List Int} {n run : Nat} {last : Int} (h : Trail l n run last) (h5 : run ≤ 5) (hn : 5 ≤ n) :
    (run = 5 ↔ (rd l ((n - 1 : Nat) : Int) = rd l ((n - 2 : Nat) : Int) ∧ rd l ((n - 2 : Nat) : Int) = rd l ((n - 3 : Nat) : Int) ∧ rd l ((n - 3 : Nat) : Int) = rd l ((n - 4 : Nat) : Int) ∧ rd l ((n - 4 : Nat) : Int) = rd l ((n - 5 : Nat) : Int))) := by
  have hp := h.pos (by omega)
  have e1 := h.same (n - 1) (by omega) (by omega)
  constructor
  · intro e
    subst e
    have e2 := h.same (n - 2) (by omega) (by omega)
    have e3 := h.same (n - 3) (by omega) (by omega)
    have e4 := h.same (n - 4) (by omega) (by omega)
    have e5 := h.same (n - 5) (by omega) (by omega)
    rw [e1, e2, e3, e4, e5]
    exact ⟨rfl, rfl, rfl, rfl⟩
  · rintro ⟨a1, a2, a3, a4⟩
    rcases Nat.lt_or_ge run 5 with hlt | hge
    · exfalso
      have ho := h.other (by omega)
      have hc : run = 1 ∨ run = 2 ∨ run = 3 ∨ run = 4 := by omega
      rcases hc with rfl | rfl | rfl | rfl
      · exact ho (by rw [show n - 1 - 1 = n - 2 by omega, ← a1, e1])
      · exact ho (by rw [show n - 2 - 1 = n - 3 by omega, ← a2, ← a1, e1])
      · exact ho (by rw [show n - 3 - 1 = n - 4 by omega, ← a3, ← a2, ← a1, e1])
      · exact ho (by rw [show n - 4 - 1 = n - 5 by omega, ← a4, ← a3, ← a2, ← a1, e1])
    · omega
end Go.Proofs.Ytdoclpgciadjaaa.P
