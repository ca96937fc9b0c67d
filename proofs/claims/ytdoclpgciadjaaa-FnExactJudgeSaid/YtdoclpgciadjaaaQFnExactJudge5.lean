import Derived.Test.YtdoclpgciadjaaaQFnExactJudge0
import Derived.Test.YtdoclpgciadjaaaQFnExactJudge3
import Derived.Test.YtdoclpgciadjaaaQFnExactJudge2
import Derived.Deep.QuietTactic
import Derived.BigQuiet

namespace Go.Proofs.Ytdoclpgciadjaaa.P
open Go.RowKit Go.Proofs.YtdoclpgciadjaaaW.PrintWords Go.Proofs.YtdoclpgciadjaaaW.PrintLast Go.Proofs.YtdoclpgciadjaaaW.PrintMore
attribute [local go_sem] max2_int min2_int max_two min_two max_three min_three max_four min_four
set_option linter.unusedVariables false
set_option linter.unusedSimpArgs false

-- GIVEN rounds=1 making=1 import=Derived.Test.YtdoclpgciadjaaaWorld import=Derived.Test.YtdoclpgciadjaaaSpecBits import=Derived.Deep.QuietTactic import=Derived.BigQuiet
/-! ### spec_l1walk: function 86 -/
def spec_l1walk.tail (k : Nat) (all : List Int) (p : List Int) (i : Nat) (next : Bool → Option (Int × List Int × Bool)) : Option (Int × List Int × Bool) :=
  (spec_l1due.f all ((i + 1 : Nat) : Int)).bind fun d => if d = true then (spec_l1field.f k p).bind fun x => (if x ≤ 10 then next true else next (x == 11)) else next false
def spec_l1walk.l0 : Nat → List Int → Int → List Int → Bool → Nat → Option (Int × List Int × Bool)
  | 0, _, _, _, _, _ => none
  | k + 1, all, code, p, due, i =>
    if i < all.length then
      (if code ≠ 0 ∧ code ≠ 1 then some (7, p, false)
      else if due = true then (if 1 ≤ i then (if rd all (i : Int) = rd all ((i - 1 : Nat) : Int) then spec_l1walk.tail k all p i (fun d => spec_l1walk.l0 k all 3 p d (i + 1)) else spec_l1walk.tail k all p i (fun d => spec_l1walk.l0 k all 0 p d (i + 1))) else none)
      else (spec_l1look.f k p (rd all (i : Int))).bind fun c => spec_l1walk.tail k all (p ++ [rd all (i : Int)]) i (fun d => spec_l1walk.l0 k all c (p ++ [rd all (i : Int)]) d (i + 1)))
    else some (code, p, due)
def spec_l1walk.f (k : Nat) (a0 : ByteArray) : Option (Int × List Int × Bool) := if a0.size ≤ 4000 ∧ isBits a0 = true then spec_l1walk.l0 k (bytesOf a0) 0 [] false 0 else some (8, [], false)
theorem spec_l1walk.tail_mono (k : Nat) (all p : List Int) (i : Nat) (f g : Bool → Option (Int × List Int × Bool)) (h : ∀ d, LeO (f d) (g d)) : LeO (spec_l1walk.tail k all p i f) (spec_l1walk.tail (k + 1) all p i g) := by
  unfold spec_l1walk.tail
  refine LeO.bind (LeO.refl _) (fun d => LeO.ite (LeO.bind (spec_l1field.mono _ _) (fun x => LeO.ite (h _) (h _))) (h _))
theorem spec_l1walk.mono_l : ∀ k all code p due i, LeO (spec_l1walk.l0 k all code p due i) (spec_l1walk.l0 (k + 1) all code p due i)
  | 0 => fun _ _ _ _ _ r h => by simp [spec_l1walk.l0] at h
  | k + 1 => by
    have ih := spec_l1walk.mono_l k
    intro all code p due i
    rw [spec_l1walk.l0, spec_l1walk.l0]
    refine LeO.ite (LeO.ite (LeO.refl _) (LeO.ite (LeO.ite (LeO.ite (spec_l1walk.tail_mono _ _ _ _ _ _ (fun d => ih _ _ _ _ _)) (spec_l1walk.tail_mono _ _ _ _ _ _ (fun d => ih _ _ _ _ _))) (LeO.none _)) (LeO.bind (spec_l1look.mono _ _ _) (fun c => spec_l1walk.tail_mono _ _ _ _ _ _ (fun d => ih _ _ _ _ _))))) (LeO.refl _)
theorem spec_l1walk.mono : ∀ a0 k, LeO (spec_l1walk.f k a0) (spec_l1walk.f (k + 1) a0) := by
  intro a0 k
  unfold spec_l1walk.f
  exact LeO.ite (spec_l1walk.mono_l _ _ _ _ _ _) (LeO.refl _)
theorem l1walk_okBits (a0 : ByteArray) (w : World) (b : Bool) (hb : (decide (a0.size ≤ 4000) && isBits a0) = b) :
    Calls Try.prog 128 #[.string a0, .int .i64 4000] w fun e w' => e = .returned (.bool b) ∧ Below w.heap.size w w' := by
  obtain ⟨k, hk⟩ := (okBits_ev a0 4000 (by omega)).rounds
  rw [hb] at hk
  exact (spec_l1okBits.calls k a0 4000 b w hk).mono fun e w' ⟨he, hd⟩ => ⟨he, hd.below⟩
theorem l1walk_due {s : ByteArray} {g c : Nat} {i : Int} {w : World} (hC : Kd.C (Kd.int .u8) w (some ⟨g, 0, none⟩) s.size (bytesOf s)) (hc : s.size ≤ c) (b : Bool) (h : spec_l1due.f (bytesOf s) i = some b) :
    Calls Try.prog 139 #[.slice (some ⟨g, 0, none⟩) s.size c, .int .i64 i] w fun e w' => e = .returned (.bool b) ∧ Drawn0 w w' := by
  have := spec_l1due.calls (some ⟨g, 0, none⟩) c (bytesOf s) i b w (by rw [bytesOf_length]; exact hC) (by rw [bytesOf_length]; exact hc) h
  rw [bytesOf_length] at this
  exact this
theorem R_readsC {w : World} {e base n c : Nat} {ok : Nat → Prop} {A : Option Addr} {p : List Int} (h : Kd.R (Kd.int .u8) e w base ok (.slice A n c) p) : Kd.C (Kd.int .u8) w A n p ∧ n ≤ c := by
  have h2 := Kd.R_reads' h
  have hn := h2.1
  subst hn
  exact ⟨h2.2.2, h2.2.1⟩
theorem l1walk_field {k : Nat} {A : Option Addr} {c n : Nat} {p : List Int} {x : Int} {w : World} (hC : Kd.C (Kd.int .u8) w A n p) (hc : n ≤ c) (h : spec_l1field.f k p = some x) :
    Calls Try.prog 87 #[.slice A n c] w fun e w' => e = .returned (.int .i64 x) ∧ Drawn0 w w' := by
  have hn := hC.1
  subst hn
  exact spec_l1field.calls k A c p x w hC hc h
theorem l1walk_drawn {w w' : World} {P : Ending → World → Prop} (h : Drawn0 w w') : ∃ n, w' = w.drewN n := h.out
theorem l1walk_rd (s : ByteArray) (i : Nat) (h : i < s.size) : (bytesOf s).length = s.size := bytesOf_length s
/-- What the walk reads of a call's function in its tail. -/
inductive TailIs (k : Nat) (all p : List Int) (i : Nat) (next : Bool → Option (Int × List Int × Bool)) (R : Int × List Int × Bool) : Prop
  | off (h : spec_l1due.f all ((i + 1 : Nat) : Int) = some false) (hn : next false = some R)
  | low (h : spec_l1due.f all ((i + 1 : Nat) : Int) = some true) (x : Int) (hx : spec_l1field.f k p = some x) (hl : x ≤ 10) (hn : next true = some R)
  | high (h : spec_l1due.f all ((i + 1 : Nat) : Int) = some true) (x : Int) (hx : spec_l1field.f k p = some x) (hl : ¬ x ≤ 10) (hn : next (x == 11) = some R)
theorem tail_is {k : Nat} {all p : List Int} {i : Nat} {next : Bool → Option (Int × List Int × Bool)} {R : Int × List Int × Bool} (h : spec_l1walk.tail k all p i next = some R) : TailIs k all p i next R := by
  unfold spec_l1walk.tail at h
  obtain ⟨d, hd, h⟩ := Option.bind_eq_some_iff.1 h
  cases d with
  | false => exact .off hd h
  | true =>
    rw [if_pos rfl] at h
    obtain ⟨x, hx, h⟩ := Option.bind_eq_some_iff.1 h
    by_cases c : x ≤ 10
    · rw [if_pos c] at h; exact .low hd x hx c h
    · rw [if_neg c] at h; exact .high hd x hx c h
set_option maxHeartbeats 8000000 in
set_option maxRecDepth 100000 in
theorem spec_l1walk.yes (k : Nat) (a0 : ByteArray) (r1 : Int) (r2 : List Int) (r3 : Bool) (w : World) (hsz : a0.size ≤ 4000) (hB0 : isBits a0 = true) (hR : spec_l1walk.l0 k (bytesOf a0) 0 [] false 0 = some (r1, r2, r3)) :
    Calls Try.prog 86 #[.string a0] w fun e w' => ∃ v2_ : Value, e = .returned (.tuple #[.int .i64 r1, v2_, .bool r3]) ∧ Kd.R (Kd.int .u8) 5 w' w.heap.size (fun _ => True) v2_ r2 ∧ Below w.heap.size w w' := by
  have hbt : Hid ((decide (a0.size ≤ 4000) && isBits a0) = true) := by
    refine Lib.hid ?_
    rw [hB0, decide_eq_true (by omega)]; rfl
  have HR := Lib.hid hR
  clear hB0 hR
  go_enter Try.func86, Try.ntmps86
  go_wp2_with (go_at_call 128; refine (l1walk_okBits a0 _ true hbt.out).mono ?_; rintro e w1 ⟨rfl, hb1⟩; have hcv0 := Lib.run_convert_string_bytes (P := Try.prog) w1 9 22 5 a0 Try.underlying9 Try.underlying22 Try.underlying5; have HBL : Hid (Below w.heap.size w w1) := Lib.hid (Below.trans ((Below.refl _ _).alloc (Nat.le_refl _) _) (hb1.mono (by simp))); have HB1 := Lib.hid hb1; clear hb1)
  have HCC : Hid (a0.size ≤ grownCap w1 a0.size 0 5) := Lib.hid (grownCap_ge _ _ _ _)
  generalize grownCap w1 a0.size 0 5 = cc at HCC ⊢
  have HLT : Hid (w.heap.size < w1.heap.size) := Lib.hid (by have := HB1.out.size; simp at this; omega)
  have HR0 : Hid (Kd.R (Kd.int .u8) 5 (Lib.bytesWorld w1 5 a0) w.heap.size (fun k => k ≠ w1.heap.size) (.slice (some ⟨w.heap.size, 0, none⟩) 0 0) []) := Lib.hid (Kd.R_below (Kd.R_below (R_empty (Kd.int .u8) w 5 w.heap.size (Nat.le_refl _) (fun k => k ≠ w1.heap.size) (by have := HLT.out; omega)) HB1.out) (below_bytes (Below.refl _ _) (Nat.le_refl _) 5 a0))
  go_loopw [5, 7, 8, 9] (fun v5 v7 v8 v9 wr => ∃ (kq i : Nat) (p : List Int) (code : Int) (due : Bool), v7 = .int .i64 code ∧ v8 = .bool due ∧ v9 = .int .i64 i ∧ i ≤ a0.size ∧ Aside0 (spec_l1walk.l0 kq (bytesOf a0) code p due i = some (r1, r2, r3)) ∧ Aside0 (p.length ≤ i) ∧ Aside0 (Kd.R (Kd.int .u8) 5 wr w.heap.size (fun k => k ≠ w1.heap.size) v5 p) ∧ Aside0 (Below w.heap.size w wr) ∧ Aside0 (Kd.C (Kd.int .u8) wr (some ⟨w1.heap.size, 0, none⟩) a0.size (bytesOf a0)) ∧ Aside0 (w1.heap.size < wr.heap.size)) (fun _ _ _ v9 _ => a0.size - (intOf v9).toNat)
  case atStart => exact ⟨k, 0, [], 0, false, rfl, rfl, rfl, Nat.zero_le _, ⟨HR.out⟩, ⟨Nat.le_refl _⟩, ⟨HR0.out⟩, ⟨below_bytes HBL.out HBL.out.size 5 a0⟩, ⟨bytes_C w1 5 a0 (by omega)⟩, ⟨by rw [Lib.bytesWorld_size]; omega⟩⟩
  case round =>
    obtain ⟨kq, i, p, code, due, rfl, rfl, rfl, hile, HA, HL, HO, HW, HC, HG⟩ := hrel
    obtain ⟨A5, c5, e5⟩ := Kd.R_slice HO.out
    subst e5
    cases kq with
    | zero => exact absurd HA.out (by simp [spec_l1walk.l0])
    | succ kj =>
      have H := HA.out
      clear HA
      rw [spec_l1walk.l0] at H
      by_cases hp : i < a0.size
      · rw [if_pos (by rw [bytesOf_length]; exact hp)] at H
        have hcell := C_cell HC.out i hp
        by_cases hcd : code ≠ 0 ∧ code ≠ 1
        · rw [if_pos hcd] at H
          have hb0 : (code != 0) = true := by simp [hcd.1]
          have hb1 : (code != 1) = true := by simp [hcd.2]
          clear hcd
          simp only [Option.some.injEq, Prod.mk.injEq] at H
          obtain ⟨rfl, rfl, rfl⟩ := H
          go_wp2_with (fail)
          go_ret3
          exact ⟨_, rfl, Kd.R_mono HO.out (fun _ _ => trivial), HW.out⟩
        rw [if_neg hcd] at H
        have hcd2 : code = 0 ∨ code = 1 := by omega
        clear hcd
        have HH := Lib.hid H
        clear H
        rcases hcd2 with rfl | rfl
        · have hdd : Hid (due = due) := Lib.hid rfl
          cases due with
          | true =>
            have H := HH.out
            clear HH
            rw [if_pos rfl] at H
            by_cases h1i : 1 ≤ i
            · rw [if_pos h1i] at H
              have hcell2 := C_cell HC.out (i - 1) (by omega)
              have HW1 : Hid (IntKind.i64.wrap ((i : Int) - 1) = ((i - 1 : Nat) : Int)) := Lib.hid (by rw [IntKind.wrap_i64]; omega)
              have HI1 : Hid (i - 1 < a0.size) := Lib.hid (by omega)
              by_cases hx0 : rd (bytesOf a0) (i : Int) = rd (bytesOf a0) ((i - 1 : Nat) : Int)
              · rw [if_pos hx0] at H
                have hxb : (rd (bytesOf a0) (i : Int) == rd (bytesOf a0) ((i - 1 : Nat) : Int)) = true := beq_iff_eq.mpr hx0
                have HT := Lib.hid (tail_is H)
                clear H hx0
                obtain ⟨yy, hyy⟩ : ∃ yy, rd (bytesOf a0) ((i - 1 : Nat) : Int) = yy := ⟨_, rfl⟩
                rw [hyy] at hcell2 hxb
                clear hyy
                go_wp2_with (fail)
                have hi1 := HI1.out
                have hw1 := HW1.out
                go_quiet (fail)
                clear hw1 hi1 hcell2
                generalize hWq : wr.drewN nq = wq
                have HO1 : Hid (Kd.R (Kd.int .u8) 5 wq w.heap.size (fun k => k ≠ w1.heap.size) (.slice A5 p.length c5) p) := Lib.hid (hWq ▸ Kd.R_below HO.out (pw_below_drewN (Below.refl _ _) nq))
                have HW2 : Hid (Below w.heap.size w wq) := Lib.hid (hWq ▸ pw_below_drewN HW.out nq)
                have HC2 : Hid (Kd.C (Kd.int .u8) wq (some ⟨w1.heap.size, 0, none⟩) a0.size (bytesOf a0)) := Lib.hid (hWq ▸ Kd.C_below HC.out (pw_below_drewN (Below.refl _ _) nq))
                have HG2 : Hid (w1.heap.size < wq.heap.size) := Lib.hid (hWq ▸ HG.out)
                clear hWq
                cases HT.out with
                | off hd hn =>
                  have HD := Lib.hid (show spec_l1due.f (bytesOf a0) ((i : Int) + 1) = some _ from hd)
                  have HN := Lib.hid hn
                  clear hd hn
                  go_wp2_with (go_at_call 139; refine (l1walk_due (i := (i : Int) + 1) (Kd.C_below HC2.out (by repeat (first | exact Below.refl _ _ | apply pw_below_drewN | apply below_drew))) HCC.out _ HD.out).mono ?_; rintro e w' ⟨rfl, ⟨nd, rfl⟩⟩)
                  go_roundw
                  case rel => exact ⟨kj, i + 1, p, 3, false, rfl, rfl, by go_num, hp, ⟨HN.out⟩, ⟨Nat.le_succ_of_le HL.out⟩, ⟨Kd.R_below HO1.out (by repeat (first | exact Below.refl _ _ | apply pw_below_drewN | apply below_drew))⟩, ⟨by repeat (first | exact HW2.out | apply pw_below_drewN | apply below_drew)⟩, ⟨Kd.C_below HC2.out (by repeat (first | exact Below.refl _ _ | apply pw_below_drewN | apply below_drew))⟩, ⟨HG2.out⟩⟩
                  case measure => simp [intOf]; omega
                | low hd x hx hl hn =>
                  have HD := Lib.hid (show spec_l1due.f (bytesOf a0) ((i : Int) + 1) = some _ from hd)
                  have HN := Lib.hid hn
                  have HX := Lib.hid hx
                  have hlb : decide (x ≤ 10) = true := decide_eq_true hl
                  clear hd hn hx hl
                  go_wp2_with (first | (go_at_call 139; refine (l1walk_due (i := (i : Int) + 1) (Kd.C_below HC2.out (by repeat (first | exact Below.refl _ _ | apply pw_below_drewN | apply below_drew))) HCC.out _ HD.out).mono ?_; rintro e w' ⟨rfl, ⟨nd, rfl⟩⟩) | (go_at_call 87; refine (l1walk_field (k := kj) (p := p) (Kd.C_below (Kd.R_reads' HO1.out).2.2 (by repeat (first | exact Below.refl _ _ | apply pw_below_drewN | apply below_drew))) (Kd.R_reads' HO1.out).2.1 HX.out).mono ?_; rintro e w' ⟨rfl, ⟨nf, rfl⟩⟩))
                  go_roundw
                  case rel => exact ⟨kj, i + 1, p, 3, true, rfl, rfl, by go_num, hp, ⟨HN.out⟩, ⟨Nat.le_succ_of_le HL.out⟩, ⟨Kd.R_below HO1.out (by repeat (first | exact Below.refl _ _ | apply pw_below_drewN | apply below_drew))⟩, ⟨by repeat (first | exact HW2.out | apply pw_below_drewN | apply below_drew)⟩, ⟨Kd.C_below HC2.out (by repeat (first | exact Below.refl _ _ | apply pw_below_drewN | apply below_drew))⟩, ⟨HG2.out⟩⟩
                  case measure => simp [intOf]; omega
                | high hd x hx hl hn =>
                  have HD := Lib.hid (show spec_l1due.f (bytesOf a0) ((i : Int) + 1) = some _ from hd)
                  have HN := Lib.hid hn
                  have HX := Lib.hid hx
                  have hlb : decide (x ≤ 10) = false := decide_eq_false hl
                  clear hd hn hx hl
                  go_wp2_with (first | (go_at_call 139; refine (l1walk_due (i := (i : Int) + 1) (Kd.C_below HC2.out (by repeat (first | exact Below.refl _ _ | apply pw_below_drewN | apply below_drew))) HCC.out _ HD.out).mono ?_; rintro e w' ⟨rfl, ⟨nd, rfl⟩⟩) | (go_at_call 87; refine (l1walk_field (k := kj) (p := p) (Kd.C_below (Kd.R_reads' HO1.out).2.2 (by repeat (first | exact Below.refl _ _ | apply pw_below_drewN | apply below_drew))) (Kd.R_reads' HO1.out).2.1 HX.out).mono ?_; rintro e w' ⟨rfl, ⟨nf, rfl⟩⟩))
                  go_roundw
                  case rel => exact ⟨kj, i + 1, p, 3, (x == 11), rfl, rfl, by go_num, hp, ⟨HN.out⟩, ⟨Nat.le_succ_of_le HL.out⟩, ⟨Kd.R_below HO1.out (by repeat (first | exact Below.refl _ _ | apply pw_below_drewN | apply below_drew))⟩, ⟨by repeat (first | exact HW2.out | apply pw_below_drewN | apply below_drew)⟩, ⟨Kd.C_below HC2.out (by repeat (first | exact Below.refl _ _ | apply pw_below_drewN | apply below_drew))⟩, ⟨HG2.out⟩⟩
                  case measure => simp [intOf]; omega
              · rw [if_neg hx0] at H
                have hxb : (rd (bytesOf a0) (i : Int) == rd (bytesOf a0) ((i - 1 : Nat) : Int)) = false := beq_eq_false_iff_ne.mpr hx0
                have HT := Lib.hid (tail_is H)
                clear H hx0
                obtain ⟨yy, hyy⟩ : ∃ yy, rd (bytesOf a0) ((i - 1 : Nat) : Int) = yy := ⟨_, rfl⟩
                rw [hyy] at hcell2 hxb
                clear hyy
                go_wp2_with (fail)
                have hi1 := HI1.out
                have hw1 := HW1.out
                go_quiet (fail)
                clear hw1 hi1 hcell2
                generalize hWq : wr.drewN nq = wq
                have HO1 : Hid (Kd.R (Kd.int .u8) 5 wq w.heap.size (fun k => k ≠ w1.heap.size) (.slice A5 p.length c5) p) := Lib.hid (hWq ▸ Kd.R_below HO.out (pw_below_drewN (Below.refl _ _) nq))
                have HW2 : Hid (Below w.heap.size w wq) := Lib.hid (hWq ▸ pw_below_drewN HW.out nq)
                have HC2 : Hid (Kd.C (Kd.int .u8) wq (some ⟨w1.heap.size, 0, none⟩) a0.size (bytesOf a0)) := Lib.hid (hWq ▸ Kd.C_below HC.out (pw_below_drewN (Below.refl _ _) nq))
                have HG2 : Hid (w1.heap.size < wq.heap.size) := Lib.hid (hWq ▸ HG.out)
                clear hWq
                cases HT.out with
                | off hd hn =>
                  have HD := Lib.hid (show spec_l1due.f (bytesOf a0) ((i : Int) + 1) = some _ from hd)
                  have HN := Lib.hid hn
                  clear hd hn
                  go_wp2_with (go_at_call 139; refine (l1walk_due (i := (i : Int) + 1) (Kd.C_below HC2.out (by repeat (first | exact Below.refl _ _ | apply pw_below_drewN | apply below_drew))) HCC.out _ HD.out).mono ?_; rintro e w' ⟨rfl, ⟨nd, rfl⟩⟩)
                  go_roundw
                  case rel => exact ⟨kj, i + 1, p, 0, false, rfl, rfl, by go_num, hp, ⟨HN.out⟩, ⟨Nat.le_succ_of_le HL.out⟩, ⟨Kd.R_below HO1.out (by repeat (first | exact Below.refl _ _ | apply pw_below_drewN | apply below_drew))⟩, ⟨by repeat (first | exact HW2.out | apply pw_below_drewN | apply below_drew)⟩, ⟨Kd.C_below HC2.out (by repeat (first | exact Below.refl _ _ | apply pw_below_drewN | apply below_drew))⟩, ⟨HG2.out⟩⟩
                  case measure => simp [intOf]; omega
                | low hd x hx hl hn =>
                  have HD := Lib.hid (show spec_l1due.f (bytesOf a0) ((i : Int) + 1) = some _ from hd)
                  have HN := Lib.hid hn
                  have HX := Lib.hid hx
                  have hlb : decide (x ≤ 10) = true := decide_eq_true hl
                  clear hd hn hx hl
                  go_wp2_with (first | (go_at_call 139; refine (l1walk_due (i := (i : Int) + 1) (Kd.C_below HC2.out (by repeat (first | exact Below.refl _ _ | apply pw_below_drewN | apply below_drew))) HCC.out _ HD.out).mono ?_; rintro e w' ⟨rfl, ⟨nd, rfl⟩⟩) | (go_at_call 87; refine (l1walk_field (k := kj) (p := p) (Kd.C_below (Kd.R_reads' HO1.out).2.2 (by repeat (first | exact Below.refl _ _ | apply pw_below_drewN | apply below_drew))) (Kd.R_reads' HO1.out).2.1 HX.out).mono ?_; rintro e w' ⟨rfl, ⟨nf, rfl⟩⟩))
                  go_roundw
                  case rel => exact ⟨kj, i + 1, p, 0, true, rfl, rfl, by go_num, hp, ⟨HN.out⟩, ⟨Nat.le_succ_of_le HL.out⟩, ⟨Kd.R_below HO1.out (by repeat (first | exact Below.refl _ _ | apply pw_below_drewN | apply below_drew))⟩, ⟨by repeat (first | exact HW2.out | apply pw_below_drewN | apply below_drew)⟩, ⟨Kd.C_below HC2.out (by repeat (first | exact Below.refl _ _ | apply pw_below_drewN | apply below_drew))⟩, ⟨HG2.out⟩⟩
                  case measure => simp [intOf]; omega
                | high hd x hx hl hn =>
                  have HD := Lib.hid (show spec_l1due.f (bytesOf a0) ((i : Int) + 1) = some _ from hd)
                  have HN := Lib.hid hn
                  have HX := Lib.hid hx
                  have hlb : decide (x ≤ 10) = false := decide_eq_false hl
                  clear hd hn hx hl
                  go_wp2_with (first | (go_at_call 139; refine (l1walk_due (i := (i : Int) + 1) (Kd.C_below HC2.out (by repeat (first | exact Below.refl _ _ | apply pw_below_drewN | apply below_drew))) HCC.out _ HD.out).mono ?_; rintro e w' ⟨rfl, ⟨nd, rfl⟩⟩) | (go_at_call 87; refine (l1walk_field (k := kj) (p := p) (Kd.C_below (Kd.R_reads' HO1.out).2.2 (by repeat (first | exact Below.refl _ _ | apply pw_below_drewN | apply below_drew))) (Kd.R_reads' HO1.out).2.1 HX.out).mono ?_; rintro e w' ⟨rfl, ⟨nf, rfl⟩⟩))
                  go_roundw
                  case rel => exact ⟨kj, i + 1, p, 0, (x == 11), rfl, rfl, by go_num, hp, ⟨HN.out⟩, ⟨Nat.le_succ_of_le HL.out⟩, ⟨Kd.R_below HO1.out (by repeat (first | exact Below.refl _ _ | apply pw_below_drewN | apply below_drew))⟩, ⟨by repeat (first | exact HW2.out | apply pw_below_drewN | apply below_drew)⟩, ⟨Kd.C_below HC2.out (by repeat (first | exact Below.refl _ _ | apply pw_below_drewN | apply below_drew))⟩, ⟨HG2.out⟩⟩
                  case measure => simp [intOf]; omega
            · rw [if_neg h1i] at H
              exact absurd H (by simp)
          | false =>
            have H := HH.out
            clear HH
            rw [if_neg (by decide)] at H
            obtain ⟨cl, hcl, H⟩ := Option.bind_eq_some_iff.1 H
            have HCL := Lib.hid hcl
            have HT := Lib.hid (tail_is H)
            clear H hcl
            cases HT.out with
            | off hd hn =>
              have HD := Lib.hid (show spec_l1due.f (bytesOf a0) ((i : Int) + 1) = some _ from hd)
              have HN := Lib.hid hn
              clear hd hn
              go_wp2_with (first | (go_at_call 138; refine (spec_l1look.calls kj A5 c5 p _ cl _ (Kd.R_reads' HO.out).2.2 (Kd.R_reads' HO.out).2.1 HCL.out).mono ?_; rintro e wl ⟨rfl, hbl⟩; have HO1 := Lib.hid (Kd.R_below HO.out hbl); have HW2 := Lib.hid (HW.out.trans (hbl.mono HW.out.size)); have HC2 := Lib.hid (Kd.C_below HC.out hbl); have HG2 : Hid (w1.heap.size < wl.heap.size) := Lib.hid (Nat.lt_of_lt_of_le HG.out hbl.size); have hcell := C_cell HC2.out i hp; clear hbl) | (at_builtin; refine Kd.R_append (Kd.int .u8) (w0 := w) w.heap.size rfl (.tmp 47) (.tmp 52) 22 5 (.int .u8 0) 1 rfl Try.underlying22 infoU8 rfl (by decide) (by omega) _ p (rd (bytesOf a0) (i : Int)) [.int .u8 (rd (bytesOf a0) (i : Int))] (fun k => k ≠ w1.heap.size) (fun _ => False) rfl rfl ?aP (fun _ hk => hk.elim) ?aF ?aO ?aB ?aS ?aL ?_; (case aP => exact rfl); (case aF => exact fun k hk => by have := HG2.out; omega); (case aO => exact HO1.out); (case aB => exact HW2.out); (case aS => exact HW2.out.size); (case aL => have := HL.out; omega); intro v1 wA ho1 hb1 hg1 hat1; obtain ⟨g1, cA, ev1, -, -, -, -⟩ := Kd.R_form ho1 (by simp); rw [show (p ++ [rd (bytesOf a0) (i : Int)]).length = p.length + 1 by simp] at ev1; subst ev1; have HO3 := Lib.hid ho1; have HCP := Lib.hid (R_readsC ho1).1; have HLC := Lib.hid (R_readsC ho1).2; have HW3 := Lib.hid hb1; have HC3 := Lib.hid (C_kept HC2.out hg1 HG2.out (fun k hk => (HO1.out.1 k hk))); have HG3 : Hid (w1.heap.size < wA.heap.size) := Lib.hid (Nat.lt_of_lt_of_le HG2.out hg1.size); clear ho1 hb1 hg1 hat1) | (go_at_call 139; refine (l1walk_due (i := (i : Int) + 1) HC3.out HCC.out _ HD.out).mono ?_; rintro e w' ⟨rfl, ⟨nd, rfl⟩⟩))
              go_roundw
              case rel => exact ⟨kj, i + 1, _, cl, false, rfl, rfl, by go_num, hp, ⟨HN.out⟩, ⟨by have := HL.out; simp; omega⟩, ⟨Kd.R_below HO3.out (by repeat (first | exact Below.refl _ _ | apply pw_below_drewN | apply below_drew))⟩, ⟨by repeat (first | exact HW3.out | apply pw_below_drewN | apply below_drew)⟩, ⟨Kd.C_below HC3.out (by repeat (first | exact Below.refl _ _ | apply pw_below_drewN | apply below_drew))⟩, ⟨HG3.out⟩⟩
              case measure => simp [intOf]; omega
            | low hd x hx hl hn =>
              have HD := Lib.hid (show spec_l1due.f (bytesOf a0) ((i : Int) + 1) = some _ from hd)
              have HN := Lib.hid hn
              have HX := Lib.hid hx
              have hlb : decide (x ≤ 10) = true := decide_eq_true hl
              clear hd hn hx hl
              go_wp2_with (first | (go_at_call 138; refine (spec_l1look.calls kj A5 c5 p _ cl _ (Kd.R_reads' HO.out).2.2 (Kd.R_reads' HO.out).2.1 HCL.out).mono ?_; rintro e wl ⟨rfl, hbl⟩; have HO1 := Lib.hid (Kd.R_below HO.out hbl); have HW2 := Lib.hid (HW.out.trans (hbl.mono HW.out.size)); have HC2 := Lib.hid (Kd.C_below HC.out hbl); have HG2 : Hid (w1.heap.size < wl.heap.size) := Lib.hid (Nat.lt_of_lt_of_le HG.out hbl.size); have hcell := C_cell HC2.out i hp; clear hbl) | (at_builtin; refine Kd.R_append (Kd.int .u8) (w0 := w) w.heap.size rfl (.tmp 47) (.tmp 52) 22 5 (.int .u8 0) 1 rfl Try.underlying22 infoU8 rfl (by decide) (by omega) _ p (rd (bytesOf a0) (i : Int)) [.int .u8 (rd (bytesOf a0) (i : Int))] (fun k => k ≠ w1.heap.size) (fun _ => False) rfl rfl ?aP (fun _ hk => hk.elim) ?aF ?aO ?aB ?aS ?aL ?_; (case aP => exact rfl); (case aF => exact fun k hk => by have := HG2.out; omega); (case aO => exact HO1.out); (case aB => exact HW2.out); (case aS => exact HW2.out.size); (case aL => have := HL.out; omega); intro v1 wA ho1 hb1 hg1 hat1; obtain ⟨g1, cA, ev1, -, -, -, -⟩ := Kd.R_form ho1 (by simp); rw [show (p ++ [rd (bytesOf a0) (i : Int)]).length = p.length + 1 by simp] at ev1; subst ev1; have HO3 := Lib.hid ho1; have HCP := Lib.hid (R_readsC ho1).1; have HLC := Lib.hid (R_readsC ho1).2; have HW3 := Lib.hid hb1; have HC3 := Lib.hid (C_kept HC2.out hg1 HG2.out (fun k hk => (HO1.out.1 k hk))); have HG3 : Hid (w1.heap.size < wA.heap.size) := Lib.hid (Nat.lt_of_lt_of_le HG2.out hg1.size); clear ho1 hb1 hg1 hat1) | (go_at_call 139; refine (l1walk_due (i := (i : Int) + 1) HC3.out HCC.out _ HD.out).mono ?_; rintro e w' ⟨rfl, ⟨nd, rfl⟩⟩) | (go_at_call 87; refine (l1walk_field (k := kj) (p := p ++ [rd (bytesOf a0) (i : Int)]) (Kd.C_below HCP.out (by repeat (first | exact Below.refl _ _ | apply pw_below_drewN | apply below_drew))) HLC.out HX.out).mono ?_; rintro e w' ⟨rfl, ⟨nf, rfl⟩⟩))
              go_roundw
              case rel => exact ⟨kj, i + 1, _, cl, true, rfl, rfl, by go_num, hp, ⟨HN.out⟩, ⟨by have := HL.out; simp; omega⟩, ⟨Kd.R_below HO3.out (by repeat (first | exact Below.refl _ _ | apply pw_below_drewN | apply below_drew))⟩, ⟨by repeat (first | exact HW3.out | apply pw_below_drewN | apply below_drew)⟩, ⟨Kd.C_below HC3.out (by repeat (first | exact Below.refl _ _ | apply pw_below_drewN | apply below_drew))⟩, ⟨HG3.out⟩⟩
              case measure => simp [intOf]; omega
            | high hd x hx hl hn =>
              have HD := Lib.hid (show spec_l1due.f (bytesOf a0) ((i : Int) + 1) = some _ from hd)
              have HN := Lib.hid hn
              have HX := Lib.hid hx
              have hlb : decide (x ≤ 10) = false := decide_eq_false hl
              clear hd hn hx hl
              go_wp2_with (first | (go_at_call 138; refine (spec_l1look.calls kj A5 c5 p _ cl _ (Kd.R_reads' HO.out).2.2 (Kd.R_reads' HO.out).2.1 HCL.out).mono ?_; rintro e wl ⟨rfl, hbl⟩; have HO1 := Lib.hid (Kd.R_below HO.out hbl); have HW2 := Lib.hid (HW.out.trans (hbl.mono HW.out.size)); have HC2 := Lib.hid (Kd.C_below HC.out hbl); have HG2 : Hid (w1.heap.size < wl.heap.size) := Lib.hid (Nat.lt_of_lt_of_le HG.out hbl.size); have hcell := C_cell HC2.out i hp; clear hbl) | (at_builtin; refine Kd.R_append (Kd.int .u8) (w0 := w) w.heap.size rfl (.tmp 47) (.tmp 52) 22 5 (.int .u8 0) 1 rfl Try.underlying22 infoU8 rfl (by decide) (by omega) _ p (rd (bytesOf a0) (i : Int)) [.int .u8 (rd (bytesOf a0) (i : Int))] (fun k => k ≠ w1.heap.size) (fun _ => False) rfl rfl ?aP (fun _ hk => hk.elim) ?aF ?aO ?aB ?aS ?aL ?_; (case aP => exact rfl); (case aF => exact fun k hk => by have := HG2.out; omega); (case aO => exact HO1.out); (case aB => exact HW2.out); (case aS => exact HW2.out.size); (case aL => have := HL.out; omega); intro v1 wA ho1 hb1 hg1 hat1; obtain ⟨g1, cA, ev1, -, -, -, -⟩ := Kd.R_form ho1 (by simp); rw [show (p ++ [rd (bytesOf a0) (i : Int)]).length = p.length + 1 by simp] at ev1; subst ev1; have HO3 := Lib.hid ho1; have HCP := Lib.hid (R_readsC ho1).1; have HLC := Lib.hid (R_readsC ho1).2; have HW3 := Lib.hid hb1; have HC3 := Lib.hid (C_kept HC2.out hg1 HG2.out (fun k hk => (HO1.out.1 k hk))); have HG3 : Hid (w1.heap.size < wA.heap.size) := Lib.hid (Nat.lt_of_lt_of_le HG2.out hg1.size); clear ho1 hb1 hg1 hat1) | (go_at_call 139; refine (l1walk_due (i := (i : Int) + 1) HC3.out HCC.out _ HD.out).mono ?_; rintro e w' ⟨rfl, ⟨nd, rfl⟩⟩) | (go_at_call 87; refine (l1walk_field (k := kj) (p := p ++ [rd (bytesOf a0) (i : Int)]) (Kd.C_below HCP.out (by repeat (first | exact Below.refl _ _ | apply pw_below_drewN | apply below_drew))) HLC.out HX.out).mono ?_; rintro e w' ⟨rfl, ⟨nf, rfl⟩⟩))
              go_roundw
              case rel => exact ⟨kj, i + 1, _, cl, (x == 11), rfl, rfl, by go_num, hp, ⟨HN.out⟩, ⟨by have := HL.out; simp; omega⟩, ⟨Kd.R_below HO3.out (by repeat (first | exact Below.refl _ _ | apply pw_below_drewN | apply below_drew))⟩, ⟨by repeat (first | exact HW3.out | apply pw_below_drewN | apply below_drew)⟩, ⟨Kd.C_below HC3.out (by repeat (first | exact Below.refl _ _ | apply pw_below_drewN | apply below_drew))⟩, ⟨HG3.out⟩⟩
              case measure => simp [intOf]; omega
        · have hdd : Hid (due = due) := Lib.hid rfl
          cases due with
          | true =>
            have H := HH.out
            clear HH
            rw [if_pos rfl] at H
            by_cases h1i : 1 ≤ i
            · rw [if_pos h1i] at H
              have hcell2 := C_cell HC.out (i - 1) (by omega)
              have HW1 : Hid (IntKind.i64.wrap ((i : Int) - 1) = ((i - 1 : Nat) : Int)) := Lib.hid (by rw [IntKind.wrap_i64]; omega)
              have HI1 : Hid (i - 1 < a0.size) := Lib.hid (by omega)
              by_cases hx0 : rd (bytesOf a0) (i : Int) = rd (bytesOf a0) ((i - 1 : Nat) : Int)
              · rw [if_pos hx0] at H
                have hxb : (rd (bytesOf a0) (i : Int) == rd (bytesOf a0) ((i - 1 : Nat) : Int)) = true := beq_iff_eq.mpr hx0
                have HT := Lib.hid (tail_is H)
                clear H hx0
                obtain ⟨yy, hyy⟩ : ∃ yy, rd (bytesOf a0) ((i - 1 : Nat) : Int) = yy := ⟨_, rfl⟩
                rw [hyy] at hcell2 hxb
                clear hyy
                go_wp2_with (fail)
                have hi1 := HI1.out
                have hw1 := HW1.out
                go_quiet (fail)
                clear hw1 hi1 hcell2
                generalize hWq : wr.drewN nq = wq
                have HO1 : Hid (Kd.R (Kd.int .u8) 5 wq w.heap.size (fun k => k ≠ w1.heap.size) (.slice A5 p.length c5) p) := Lib.hid (hWq ▸ Kd.R_below HO.out (pw_below_drewN (Below.refl _ _) nq))
                have HW2 : Hid (Below w.heap.size w wq) := Lib.hid (hWq ▸ pw_below_drewN HW.out nq)
                have HC2 : Hid (Kd.C (Kd.int .u8) wq (some ⟨w1.heap.size, 0, none⟩) a0.size (bytesOf a0)) := Lib.hid (hWq ▸ Kd.C_below HC.out (pw_below_drewN (Below.refl _ _) nq))
                have HG2 : Hid (w1.heap.size < wq.heap.size) := Lib.hid (hWq ▸ HG.out)
                clear hWq
                cases HT.out with
                | off hd hn =>
                  have HD := Lib.hid (show spec_l1due.f (bytesOf a0) ((i : Int) + 1) = some _ from hd)
                  have HN := Lib.hid hn
                  clear hd hn
                  go_wp2_with (go_at_call 139; refine (l1walk_due (i := (i : Int) + 1) (Kd.C_below HC2.out (by repeat (first | exact Below.refl _ _ | apply pw_below_drewN | apply below_drew))) HCC.out _ HD.out).mono ?_; rintro e w' ⟨rfl, ⟨nd, rfl⟩⟩)
                  go_roundw
                  case rel => exact ⟨kj, i + 1, p, 3, false, rfl, rfl, by go_num, hp, ⟨HN.out⟩, ⟨Nat.le_succ_of_le HL.out⟩, ⟨Kd.R_below HO1.out (by repeat (first | exact Below.refl _ _ | apply pw_below_drewN | apply below_drew))⟩, ⟨by repeat (first | exact HW2.out | apply pw_below_drewN | apply below_drew)⟩, ⟨Kd.C_below HC2.out (by repeat (first | exact Below.refl _ _ | apply pw_below_drewN | apply below_drew))⟩, ⟨HG2.out⟩⟩
                  case measure => simp [intOf]; omega
                | low hd x hx hl hn =>
                  have HD := Lib.hid (show spec_l1due.f (bytesOf a0) ((i : Int) + 1) = some _ from hd)
                  have HN := Lib.hid hn
                  have HX := Lib.hid hx
                  have hlb : decide (x ≤ 10) = true := decide_eq_true hl
                  clear hd hn hx hl
                  go_wp2_with (first | (go_at_call 139; refine (l1walk_due (i := (i : Int) + 1) (Kd.C_below HC2.out (by repeat (first | exact Below.refl _ _ | apply pw_below_drewN | apply below_drew))) HCC.out _ HD.out).mono ?_; rintro e w' ⟨rfl, ⟨nd, rfl⟩⟩) | (go_at_call 87; refine (l1walk_field (k := kj) (p := p) (Kd.C_below (Kd.R_reads' HO1.out).2.2 (by repeat (first | exact Below.refl _ _ | apply pw_below_drewN | apply below_drew))) (Kd.R_reads' HO1.out).2.1 HX.out).mono ?_; rintro e w' ⟨rfl, ⟨nf, rfl⟩⟩))
                  go_roundw
                  case rel => exact ⟨kj, i + 1, p, 3, true, rfl, rfl, by go_num, hp, ⟨HN.out⟩, ⟨Nat.le_succ_of_le HL.out⟩, ⟨Kd.R_below HO1.out (by repeat (first | exact Below.refl _ _ | apply pw_below_drewN | apply below_drew))⟩, ⟨by repeat (first | exact HW2.out | apply pw_below_drewN | apply below_drew)⟩, ⟨Kd.C_below HC2.out (by repeat (first | exact Below.refl _ _ | apply pw_below_drewN | apply below_drew))⟩, ⟨HG2.out⟩⟩
                  case measure => simp [intOf]; omega
                | high hd x hx hl hn =>
                  have HD := Lib.hid (show spec_l1due.f (bytesOf a0) ((i : Int) + 1) = some _ from hd)
                  have HN := Lib.hid hn
                  have HX := Lib.hid hx
                  have hlb : decide (x ≤ 10) = false := decide_eq_false hl
                  clear hd hn hx hl
                  go_wp2_with (first | (go_at_call 139; refine (l1walk_due (i := (i : Int) + 1) (Kd.C_below HC2.out (by repeat (first | exact Below.refl _ _ | apply pw_below_drewN | apply below_drew))) HCC.out _ HD.out).mono ?_; rintro e w' ⟨rfl, ⟨nd, rfl⟩⟩) | (go_at_call 87; refine (l1walk_field (k := kj) (p := p) (Kd.C_below (Kd.R_reads' HO1.out).2.2 (by repeat (first | exact Below.refl _ _ | apply pw_below_drewN | apply below_drew))) (Kd.R_reads' HO1.out).2.1 HX.out).mono ?_; rintro e w' ⟨rfl, ⟨nf, rfl⟩⟩))
                  go_roundw
                  case rel => exact ⟨kj, i + 1, p, 3, (x == 11), rfl, rfl, by go_num, hp, ⟨HN.out⟩, ⟨Nat.le_succ_of_le HL.out⟩, ⟨Kd.R_below HO1.out (by repeat (first | exact Below.refl _ _ | apply pw_below_drewN | apply below_drew))⟩, ⟨by repeat (first | exact HW2.out | apply pw_below_drewN | apply below_drew)⟩, ⟨Kd.C_below HC2.out (by repeat (first | exact Below.refl _ _ | apply pw_below_drewN | apply below_drew))⟩, ⟨HG2.out⟩⟩
                  case measure => simp [intOf]; omega
              · rw [if_neg hx0] at H
                have hxb : (rd (bytesOf a0) (i : Int) == rd (bytesOf a0) ((i - 1 : Nat) : Int)) = false := beq_eq_false_iff_ne.mpr hx0
                have HT := Lib.hid (tail_is H)
                clear H hx0
                obtain ⟨yy, hyy⟩ : ∃ yy, rd (bytesOf a0) ((i - 1 : Nat) : Int) = yy := ⟨_, rfl⟩
                rw [hyy] at hcell2 hxb
                clear hyy
                go_wp2_with (fail)
                have hi1 := HI1.out
                have hw1 := HW1.out
                go_quiet (fail)
                clear hw1 hi1 hcell2
                generalize hWq : wr.drewN nq = wq
                have HO1 : Hid (Kd.R (Kd.int .u8) 5 wq w.heap.size (fun k => k ≠ w1.heap.size) (.slice A5 p.length c5) p) := Lib.hid (hWq ▸ Kd.R_below HO.out (pw_below_drewN (Below.refl _ _) nq))
                have HW2 : Hid (Below w.heap.size w wq) := Lib.hid (hWq ▸ pw_below_drewN HW.out nq)
                have HC2 : Hid (Kd.C (Kd.int .u8) wq (some ⟨w1.heap.size, 0, none⟩) a0.size (bytesOf a0)) := Lib.hid (hWq ▸ Kd.C_below HC.out (pw_below_drewN (Below.refl _ _) nq))
                have HG2 : Hid (w1.heap.size < wq.heap.size) := Lib.hid (hWq ▸ HG.out)
                clear hWq
                cases HT.out with
                | off hd hn =>
                  have HD := Lib.hid (show spec_l1due.f (bytesOf a0) ((i : Int) + 1) = some _ from hd)
                  have HN := Lib.hid hn
                  clear hd hn
                  go_wp2_with (go_at_call 139; refine (l1walk_due (i := (i : Int) + 1) (Kd.C_below HC2.out (by repeat (first | exact Below.refl _ _ | apply pw_below_drewN | apply below_drew))) HCC.out _ HD.out).mono ?_; rintro e w' ⟨rfl, ⟨nd, rfl⟩⟩)
                  go_roundw
                  case rel => exact ⟨kj, i + 1, p, 0, false, rfl, rfl, by go_num, hp, ⟨HN.out⟩, ⟨Nat.le_succ_of_le HL.out⟩, ⟨Kd.R_below HO1.out (by repeat (first | exact Below.refl _ _ | apply pw_below_drewN | apply below_drew))⟩, ⟨by repeat (first | exact HW2.out | apply pw_below_drewN | apply below_drew)⟩, ⟨Kd.C_below HC2.out (by repeat (first | exact Below.refl _ _ | apply pw_below_drewN | apply below_drew))⟩, ⟨HG2.out⟩⟩
                  case measure => simp [intOf]; omega
                | low hd x hx hl hn =>
                  have HD := Lib.hid (show spec_l1due.f (bytesOf a0) ((i : Int) + 1) = some _ from hd)
                  have HN := Lib.hid hn
                  have HX := Lib.hid hx
                  have hlb : decide (x ≤ 10) = true := decide_eq_true hl
                  clear hd hn hx hl
                  go_wp2_with (first | (go_at_call 139; refine (l1walk_due (i := (i : Int) + 1) (Kd.C_below HC2.out (by repeat (first | exact Below.refl _ _ | apply pw_below_drewN | apply below_drew))) HCC.out _ HD.out).mono ?_; rintro e w' ⟨rfl, ⟨nd, rfl⟩⟩) | (go_at_call 87; refine (l1walk_field (k := kj) (p := p) (Kd.C_below (Kd.R_reads' HO1.out).2.2 (by repeat (first | exact Below.refl _ _ | apply pw_below_drewN | apply below_drew))) (Kd.R_reads' HO1.out).2.1 HX.out).mono ?_; rintro e w' ⟨rfl, ⟨nf, rfl⟩⟩))
                  go_roundw
                  case rel => exact ⟨kj, i + 1, p, 0, true, rfl, rfl, by go_num, hp, ⟨HN.out⟩, ⟨Nat.le_succ_of_le HL.out⟩, ⟨Kd.R_below HO1.out (by repeat (first | exact Below.refl _ _ | apply pw_below_drewN | apply below_drew))⟩, ⟨by repeat (first | exact HW2.out | apply pw_below_drewN | apply below_drew)⟩, ⟨Kd.C_below HC2.out (by repeat (first | exact Below.refl _ _ | apply pw_below_drewN | apply below_drew))⟩, ⟨HG2.out⟩⟩
                  case measure => simp [intOf]; omega
                | high hd x hx hl hn =>
                  have HD := Lib.hid (show spec_l1due.f (bytesOf a0) ((i : Int) + 1) = some _ from hd)
                  have HN := Lib.hid hn
                  have HX := Lib.hid hx
                  have hlb : decide (x ≤ 10) = false := decide_eq_false hl
                  clear hd hn hx hl
                  go_wp2_with (first | (go_at_call 139; refine (l1walk_due (i := (i : Int) + 1) (Kd.C_below HC2.out (by repeat (first | exact Below.refl _ _ | apply pw_below_drewN | apply below_drew))) HCC.out _ HD.out).mono ?_; rintro e w' ⟨rfl, ⟨nd, rfl⟩⟩) | (go_at_call 87; refine (l1walk_field (k := kj) (p := p) (Kd.C_below (Kd.R_reads' HO1.out).2.2 (by repeat (first | exact Below.refl _ _ | apply pw_below_drewN | apply below_drew))) (Kd.R_reads' HO1.out).2.1 HX.out).mono ?_; rintro e w' ⟨rfl, ⟨nf, rfl⟩⟩))
                  go_roundw
                  case rel => exact ⟨kj, i + 1, p, 0, (x == 11), rfl, rfl, by go_num, hp, ⟨HN.out⟩, ⟨Nat.le_succ_of_le HL.out⟩, ⟨Kd.R_below HO1.out (by repeat (first | exact Below.refl _ _ | apply pw_below_drewN | apply below_drew))⟩, ⟨by repeat (first | exact HW2.out | apply pw_below_drewN | apply below_drew)⟩, ⟨Kd.C_below HC2.out (by repeat (first | exact Below.refl _ _ | apply pw_below_drewN | apply below_drew))⟩, ⟨HG2.out⟩⟩
                  case measure => simp [intOf]; omega
            · rw [if_neg h1i] at H
              exact absurd H (by simp)
          | false =>
            have H := HH.out
            clear HH
            rw [if_neg (by decide)] at H
            obtain ⟨cl, hcl, H⟩ := Option.bind_eq_some_iff.1 H
            have HCL := Lib.hid hcl
            have HT := Lib.hid (tail_is H)
            clear H hcl
            cases HT.out with
            | off hd hn =>
              have HD := Lib.hid (show spec_l1due.f (bytesOf a0) ((i : Int) + 1) = some _ from hd)
              have HN := Lib.hid hn
              clear hd hn
              go_wp2_with (first | (go_at_call 138; refine (spec_l1look.calls kj A5 c5 p _ cl _ (Kd.R_reads' HO.out).2.2 (Kd.R_reads' HO.out).2.1 HCL.out).mono ?_; rintro e wl ⟨rfl, hbl⟩; have HO1 := Lib.hid (Kd.R_below HO.out hbl); have HW2 := Lib.hid (HW.out.trans (hbl.mono HW.out.size)); have HC2 := Lib.hid (Kd.C_below HC.out hbl); have HG2 : Hid (w1.heap.size < wl.heap.size) := Lib.hid (Nat.lt_of_lt_of_le HG.out hbl.size); have hcell := C_cell HC2.out i hp; clear hbl) | (at_builtin; refine Kd.R_append (Kd.int .u8) (w0 := w) w.heap.size rfl (.tmp 47) (.tmp 52) 22 5 (.int .u8 0) 1 rfl Try.underlying22 infoU8 rfl (by decide) (by omega) _ p (rd (bytesOf a0) (i : Int)) [.int .u8 (rd (bytesOf a0) (i : Int))] (fun k => k ≠ w1.heap.size) (fun _ => False) rfl rfl ?aP (fun _ hk => hk.elim) ?aF ?aO ?aB ?aS ?aL ?_; (case aP => exact rfl); (case aF => exact fun k hk => by have := HG2.out; omega); (case aO => exact HO1.out); (case aB => exact HW2.out); (case aS => exact HW2.out.size); (case aL => have := HL.out; omega); intro v1 wA ho1 hb1 hg1 hat1; obtain ⟨g1, cA, ev1, -, -, -, -⟩ := Kd.R_form ho1 (by simp); rw [show (p ++ [rd (bytesOf a0) (i : Int)]).length = p.length + 1 by simp] at ev1; subst ev1; have HO3 := Lib.hid ho1; have HCP := Lib.hid (R_readsC ho1).1; have HLC := Lib.hid (R_readsC ho1).2; have HW3 := Lib.hid hb1; have HC3 := Lib.hid (C_kept HC2.out hg1 HG2.out (fun k hk => (HO1.out.1 k hk))); have HG3 : Hid (w1.heap.size < wA.heap.size) := Lib.hid (Nat.lt_of_lt_of_le HG2.out hg1.size); clear ho1 hb1 hg1 hat1) | (go_at_call 139; refine (l1walk_due (i := (i : Int) + 1) HC3.out HCC.out _ HD.out).mono ?_; rintro e w' ⟨rfl, ⟨nd, rfl⟩⟩))
              go_roundw
              case rel => exact ⟨kj, i + 1, _, cl, false, rfl, rfl, by go_num, hp, ⟨HN.out⟩, ⟨by have := HL.out; simp; omega⟩, ⟨Kd.R_below HO3.out (by repeat (first | exact Below.refl _ _ | apply pw_below_drewN | apply below_drew))⟩, ⟨by repeat (first | exact HW3.out | apply pw_below_drewN | apply below_drew)⟩, ⟨Kd.C_below HC3.out (by repeat (first | exact Below.refl _ _ | apply pw_below_drewN | apply below_drew))⟩, ⟨HG3.out⟩⟩
              case measure => simp [intOf]; omega
            | low hd x hx hl hn =>
              have HD := Lib.hid (show spec_l1due.f (bytesOf a0) ((i : Int) + 1) = some _ from hd)
              have HN := Lib.hid hn
              have HX := Lib.hid hx
              have hlb : decide (x ≤ 10) = true := decide_eq_true hl
              clear hd hn hx hl
              go_wp2_with (first | (go_at_call 138; refine (spec_l1look.calls kj A5 c5 p _ cl _ (Kd.R_reads' HO.out).2.2 (Kd.R_reads' HO.out).2.1 HCL.out).mono ?_; rintro e wl ⟨rfl, hbl⟩; have HO1 := Lib.hid (Kd.R_below HO.out hbl); have HW2 := Lib.hid (HW.out.trans (hbl.mono HW.out.size)); have HC2 := Lib.hid (Kd.C_below HC.out hbl); have HG2 : Hid (w1.heap.size < wl.heap.size) := Lib.hid (Nat.lt_of_lt_of_le HG.out hbl.size); have hcell := C_cell HC2.out i hp; clear hbl) | (at_builtin; refine Kd.R_append (Kd.int .u8) (w0 := w) w.heap.size rfl (.tmp 47) (.tmp 52) 22 5 (.int .u8 0) 1 rfl Try.underlying22 infoU8 rfl (by decide) (by omega) _ p (rd (bytesOf a0) (i : Int)) [.int .u8 (rd (bytesOf a0) (i : Int))] (fun k => k ≠ w1.heap.size) (fun _ => False) rfl rfl ?aP (fun _ hk => hk.elim) ?aF ?aO ?aB ?aS ?aL ?_; (case aP => exact rfl); (case aF => exact fun k hk => by have := HG2.out; omega); (case aO => exact HO1.out); (case aB => exact HW2.out); (case aS => exact HW2.out.size); (case aL => have := HL.out; omega); intro v1 wA ho1 hb1 hg1 hat1; obtain ⟨g1, cA, ev1, -, -, -, -⟩ := Kd.R_form ho1 (by simp); rw [show (p ++ [rd (bytesOf a0) (i : Int)]).length = p.length + 1 by simp] at ev1; subst ev1; have HO3 := Lib.hid ho1; have HCP := Lib.hid (R_readsC ho1).1; have HLC := Lib.hid (R_readsC ho1).2; have HW3 := Lib.hid hb1; have HC3 := Lib.hid (C_kept HC2.out hg1 HG2.out (fun k hk => (HO1.out.1 k hk))); have HG3 : Hid (w1.heap.size < wA.heap.size) := Lib.hid (Nat.lt_of_lt_of_le HG2.out hg1.size); clear ho1 hb1 hg1 hat1) | (go_at_call 139; refine (l1walk_due (i := (i : Int) + 1) HC3.out HCC.out _ HD.out).mono ?_; rintro e w' ⟨rfl, ⟨nd, rfl⟩⟩) | (go_at_call 87; refine (l1walk_field (k := kj) (p := p ++ [rd (bytesOf a0) (i : Int)]) (Kd.C_below HCP.out (by repeat (first | exact Below.refl _ _ | apply pw_below_drewN | apply below_drew))) HLC.out HX.out).mono ?_; rintro e w' ⟨rfl, ⟨nf, rfl⟩⟩))
              go_roundw
              case rel => exact ⟨kj, i + 1, _, cl, true, rfl, rfl, by go_num, hp, ⟨HN.out⟩, ⟨by have := HL.out; simp; omega⟩, ⟨Kd.R_below HO3.out (by repeat (first | exact Below.refl _ _ | apply pw_below_drewN | apply below_drew))⟩, ⟨by repeat (first | exact HW3.out | apply pw_below_drewN | apply below_drew)⟩, ⟨Kd.C_below HC3.out (by repeat (first | exact Below.refl _ _ | apply pw_below_drewN | apply below_drew))⟩, ⟨HG3.out⟩⟩
              case measure => simp [intOf]; omega
            | high hd x hx hl hn =>
              have HD := Lib.hid (show spec_l1due.f (bytesOf a0) ((i : Int) + 1) = some _ from hd)
              have HN := Lib.hid hn
              have HX := Lib.hid hx
              have hlb : decide (x ≤ 10) = false := decide_eq_false hl
              clear hd hn hx hl
              go_wp2_with (first | (go_at_call 138; refine (spec_l1look.calls kj A5 c5 p _ cl _ (Kd.R_reads' HO.out).2.2 (Kd.R_reads' HO.out).2.1 HCL.out).mono ?_; rintro e wl ⟨rfl, hbl⟩; have HO1 := Lib.hid (Kd.R_below HO.out hbl); have HW2 := Lib.hid (HW.out.trans (hbl.mono HW.out.size)); have HC2 := Lib.hid (Kd.C_below HC.out hbl); have HG2 : Hid (w1.heap.size < wl.heap.size) := Lib.hid (Nat.lt_of_lt_of_le HG.out hbl.size); have hcell := C_cell HC2.out i hp; clear hbl) | (at_builtin; refine Kd.R_append (Kd.int .u8) (w0 := w) w.heap.size rfl (.tmp 47) (.tmp 52) 22 5 (.int .u8 0) 1 rfl Try.underlying22 infoU8 rfl (by decide) (by omega) _ p (rd (bytesOf a0) (i : Int)) [.int .u8 (rd (bytesOf a0) (i : Int))] (fun k => k ≠ w1.heap.size) (fun _ => False) rfl rfl ?aP (fun _ hk => hk.elim) ?aF ?aO ?aB ?aS ?aL ?_; (case aP => exact rfl); (case aF => exact fun k hk => by have := HG2.out; omega); (case aO => exact HO1.out); (case aB => exact HW2.out); (case aS => exact HW2.out.size); (case aL => have := HL.out; omega); intro v1 wA ho1 hb1 hg1 hat1; obtain ⟨g1, cA, ev1, -, -, -, -⟩ := Kd.R_form ho1 (by simp); rw [show (p ++ [rd (bytesOf a0) (i : Int)]).length = p.length + 1 by simp] at ev1; subst ev1; have HO3 := Lib.hid ho1; have HCP := Lib.hid (R_readsC ho1).1; have HLC := Lib.hid (R_readsC ho1).2; have HW3 := Lib.hid hb1; have HC3 := Lib.hid (C_kept HC2.out hg1 HG2.out (fun k hk => (HO1.out.1 k hk))); have HG3 : Hid (w1.heap.size < wA.heap.size) := Lib.hid (Nat.lt_of_lt_of_le HG2.out hg1.size); clear ho1 hb1 hg1 hat1) | (go_at_call 139; refine (l1walk_due (i := (i : Int) + 1) HC3.out HCC.out _ HD.out).mono ?_; rintro e w' ⟨rfl, ⟨nd, rfl⟩⟩) | (go_at_call 87; refine (l1walk_field (k := kj) (p := p ++ [rd (bytesOf a0) (i : Int)]) (Kd.C_below HCP.out (by repeat (first | exact Below.refl _ _ | apply pw_below_drewN | apply below_drew))) HLC.out HX.out).mono ?_; rintro e w' ⟨rfl, ⟨nf, rfl⟩⟩))
              go_roundw
              case rel => exact ⟨kj, i + 1, _, cl, (x == 11), rfl, rfl, by go_num, hp, ⟨HN.out⟩, ⟨by have := HL.out; simp; omega⟩, ⟨Kd.R_below HO3.out (by repeat (first | exact Below.refl _ _ | apply pw_below_drewN | apply below_drew))⟩, ⟨by repeat (first | exact HW3.out | apply pw_below_drewN | apply below_drew)⟩, ⟨Kd.C_below HC3.out (by repeat (first | exact Below.refl _ _ | apply pw_below_drewN | apply below_drew))⟩, ⟨HG3.out⟩⟩
              case measure => simp [intOf]; omega
      · rw [if_neg (by rw [bytesOf_length]; exact hp)] at H
        simp only [Option.some.injEq, Prod.mk.injEq] at H
        obtain ⟨rfl, rfl, rfl⟩ := H
        go_wp2_with (fail)
        go_ret3
        exact ⟨_, rfl, Kd.R_mono HO.out (fun _ _ => trivial), HW.out⟩
theorem spec_l1walk.calls (k : Nat) (a0 : ByteArray) (r1 : Int) (r2 : List Int) (r3 : Bool) (w : World) (h : spec_l1walk.f k a0 = some (r1, r2, r3)) :
    Calls Try.prog 86 #[.string a0] w fun e w' => ∃ v2_ : Value, e = .returned (.tuple #[.int .i64 r1, v2_, .bool r3]) ∧ Kd.R (Kd.int .u8) 5 w' w.heap.size (fun _ => True) v2_ r2 ∧ Below w.heap.size w w' := by
  unfold spec_l1walk.f at h
  by_cases c : a0.size ≤ 4000 ∧ isBits a0 = true
  · rw [if_pos c] at h
    exact spec_l1walk.yes k a0 r1 r2 r3 w c.1 c.2 h
  · rw [if_neg c] at h
    simp only [Option.some.injEq, Prod.mk.injEq] at h
    obtain ⟨rfl, rfl, rfl⟩ := h
    have hbt : Hid ((decide (a0.size ≤ 4000) && isBits a0) = false) := by
      refine Lib.hid ?_
      rw [Bool.and_eq_false_iff]
      by_cases h : isBits a0 = true
      · exact .inl (decide_eq_false fun h2 => c ⟨h2, h⟩)
      · exact .inr (by simpa using h)
    clear c
    go_enter Try.func86, Try.ntmps86
    go_wp2_with (go_at_call 128; refine (l1walk_okBits a0 _ false hbt.out).mono ?_; rintro e w1 ⟨rfl, hb1⟩; have HB1 := Lib.hid hb1; clear hb1)
    go_ret3
    exact ⟨_, rfl, Kd.R_mono (Kd.R_below (R_empty (Kd.int .u8) w 5 w.heap.size (Nat.le_refl _) (fun _ => True) trivial) HB1.out) (fun _ _ => trivial), Below.trans ((Below.refl _ _).alloc (Nat.le_refl _) _) (HB1.out.mono (by simp))⟩

end Go.Proofs.Ytdoclpgciadjaaa.P

namespace Go.Proofs.Ytdoclpgciadjaaa.P
open Go.RowKit Go.Proofs.YtdoclpgciadjaaaW.PrintWords Go.Proofs.YtdoclpgciadjaaaW.PrintLast Go.Proofs.YtdoclpgciadjaaaW.PrintMore
attribute [local go_sem] max2_int min2_int max_two min_two max_three min_three max_four min_four
set_option linter.unusedVariables false
set_option linter.unusedSimpArgs false

/-! ### spec_Judge: function 29 -/
def spec_Judge.j0 : Nat → Int → List Int → Bool → Bool → Option (Int × Int × Bool × Bool)
  | 0, _, _, _, _ => none
  | k + 1, x3, x4, x5, x17 => if x17 = true then (some (x3, 0, false, false)) else ((spec_l1field.f k x4).bind fun t291 => ((spec_l1crcOk.f k x4).bind fun t292 => (some (x3, t291, x5, t292))))
def spec_Judge.f (k : Nat) (a0 : ByteArray) : Option (Int × Int × Bool × Bool) := (spec_l1walk.f k a0).bind fun bt286 => (if bt286.1 = 0 then (spec_Judge.j0 k bt286.1 bt286.2.1 bt286.2.2 false) else (spec_Judge.j0 k bt286.1 bt286.2.1 bt286.2.2 (bt286.1 != 1)))
theorem spec_Judge.mono_l : ∀ k, (∀ y0 y1 y2 y3, LeO (spec_Judge.j0 k y0 y1 y2 y3) (spec_Judge.j0 (k + 1) y0 y1 y2 y3))
  | 0 => fun _ _ _ _ r h => by simp [spec_Judge.j0] at h
  | k + 1 => by
    have ih0 := spec_Judge.mono_l k
    · intro y0 y1 y2 y3
      unfold spec_Judge.j0
      repeat' first
      | (with_reducible exact ih0 _ _ _ _)
      | (with_reducible exact spec_l1crcOk.mono _ _)
      | (with_reducible exact spec_l1field.mono _ _)
      | (with_reducible exact spec_l1walk.mono _ _)
      | (with_reducible exact LeO.refl _)
      | (with_reducible exact LeO.none _)
      | (with_reducible refine LeO.ite ?_ ?_)
      | (with_reducible refine LeO.bind ?_ (fun _ => ?_))
      | exact ih0 _ _ _ _
      | exact spec_l1crcOk.mono _ _
      | exact spec_l1field.mono _ _
      | exact spec_l1walk.mono _ _
      | exact LeO.none _
      | refine LeO.ite ?_ ?_
      | refine LeO.bind ?_ (fun _ => ?_)
theorem spec_Judge.mono : ∀ a0 k, LeO (spec_Judge.f k a0) (spec_Judge.f (k + 1) a0) := by
  intro a0 k
  have ih0 := spec_Judge.mono_l k
  unfold spec_Judge.f
  repeat' first
      | (with_reducible exact ih0 _ _ _ _)
      | (with_reducible exact spec_l1crcOk.mono _ _)
      | (with_reducible exact spec_l1field.mono _ _)
      | (with_reducible exact spec_l1walk.mono _ _)
      | (with_reducible exact LeO.refl _)
      | (with_reducible exact LeO.none _)
      | (with_reducible refine LeO.ite ?_ ?_)
      | (with_reducible refine LeO.bind ?_ (fun _ => ?_))
      | exact ih0 _ _ _ _
      | exact spec_l1crcOk.mono _ _
      | exact spec_l1field.mono _ _
      | exact spec_l1walk.mono _ _
      | exact LeO.none _
      | refine LeO.ite ?_ ?_
      | refine LeO.bind ?_ (fun _ => ?_)
set_option maxHeartbeats 8000000 in
set_option maxRecDepth 100000 in
theorem spec_Judge.calls (k : Nat) (a0 : ByteArray) (r1 : Int) (r2 : Int) (r3 : Bool) (r4 : Bool) (w : World) (h : spec_Judge.f k a0 = some (r1, r2, r3, r4)) :
    Calls Try.prog 29 #[.string a0] w fun e w' => e = .returned (.agg #[.int .i64 r1, .int .i64 r2, .bool r3, .bool r4]) ∧ Below w.heap.size w w' := by
  have hu32 := Try.underlying32
  have HB := Aside0.mk (Below.refl w.heap.size w)
  have H : ((spec_l1walk.f k a0).bind fun bt286 => (if bt286.1 = 0 then (spec_Judge.j0 k bt286.1 bt286.2.1 bt286.2.2 false) else (spec_Judge.j0 k bt286.1 bt286.2.1 bt286.2.2 (bt286.1 != 1)))) = some (r1, r2, r3, r4) := h
  clear h
  replace H := Option.bind_eq_some_iff.mp H
  obtain ⟨⟨t286, t287, t288⟩, A20, H⟩ := H
  replace H : (if t286 = 0 then (spec_Judge.j0 k t286 t287 t288 false) else (spec_Judge.j0 k t286 t287 t288 (t286 != 1))) = some (r1, r2, r3, r4) := H
  have A2 := Aside0.mk A20
  clear A20
  have HC3 := Aside0.mk H
  clear H
  go_enter Try.func29, Try.ntmps29
  go_upto_region 2 with (first | ((with_reducible refine gate_dst (N := 2) rfl ?_); refine box_event ?hg (N := 2) ?hd (cs := #[.int .i64 0, .int .i64 0, .bool false, .bool false]) (t := 32) ?hr ?_; (case hd => rfl); (case hg => rfl); (case hr => first | (go_simp; done) | (go_simp; rfl)); intro gb285 hg w4 hbox hb; have n0_ := Aside0.mk (below_step (by repeat (first | (with_reducible first | exact HB.out | apply below_alloc | apply pw_below_drewN | apply below_drew1) | exact HB.out)) hb); have n1_ := Aside0.mk (hbox); have n2_ := Aside0.mk ((by rw [hg]; exact (below_size (by repeat (first | (with_reducible first | exact HB.out | apply below_alloc | apply pw_below_drewN | apply below_drew1) | exact HB.out))) : w.heap.size ≤ gb285)); have n3_ := Aside0.mk ((by rw [hg]; exact (below_size (by repeat (first | (with_reducible first | exact HB.out | apply below_alloc | apply pw_below_drewN | apply below_drew1) | exact HB.out))) : w.heap.size ≤ gb285)); clear HB; have HB := n0_; have BK285 := n1_; have GW285 := n2_; have GE285 := n3_; clear n0_ n1_ n2_ n3_; clear hb hbox hg) | ((with_reducible refine gate_callee (f := 86) rfl ?_); refine goesL_ (some 8) rfl rfl Try.func86 (by kernel_rfl) rfl #[.string a0] rfl (by (try simp only [List.map_toArray, List.map_cons, List.map_nil]); first | done | rfl | (simp only [List.length_drop, List.length_take]; rfl)) ?_; (with_reducible refine (spec_l1walk.calls k a0 t286 t287 t288 _ A2.out).mono ?_); rintro e w5 ⟨v289, rfl, ho0, hb⟩; refine ⟨_, rfl, ?_⟩; have n0_ := Aside0.mk (Kd.R_lower ho0 (below_size (by repeat (first | (with_reducible first | exact HB.out | apply below_alloc | apply pw_below_drewN | apply below_drew1 | refine below_set ?_ GE285.out) | exact HB.out)))); have n1_ := Aside0.mk (blk_below (g := gb285) (o := .cells #[.int .i64 0, .int .i64 0, .bool false, .bool false] 32 (0, 0)) (by (with_reducible repeat (first | refine blk_drewN ?_ _ | refine blk_drew ?_ | refine blk_alloc ?_ _)); exact BK285.out) hb); have n2_ := Aside0.mk (below_step (by repeat (first | (with_reducible first | exact HB.out | apply below_alloc | apply pw_below_drewN | apply below_drew1 | refine below_set ?_ GE285.out) | exact HB.out)) hb); clear BK285; clear HB; have HO290 := n0_; have BK285 := n1_; have HB := n2_; clear n0_ n1_ n2_; (try clear hb); (try clear hb2); (try clear hk); (try clear hi); (try clear ho0)))
  (try simp only [Act.put, List.setIfInBounds_toArray, List.set_cons_zero, List.set_cons_succ])
  go_cut [17] (fun v17 wc => ∃ (kq : Nat) (x17_2 : Bool), v17 = .bool x17_2 ∧ Aside0 (spec_Judge.j0 kq t286 t287 t288 x17_2 = some (r1, r2, r3, r4)) ∧ Aside0 (kq ≤ k) ∧ Aside0 (Kd.R (Kd.int .u8) 5 wc w.heap.size (fun _ => True) v289 t287) ∧ Aside0 (wc.heap[gb285]? = some (.cells #[.int .i64 0, .int .i64 0, .bool false, .bool false] 32 (0, 0))) ∧ Aside0 (Below w.heap.size w wc))
  case first =>
    have H := HC3.out
    clear HC3
    by_cases c6 : t286 = 0
    · rw [if_pos c6] at H
      have c6b0 : (t286 == 0) = true := beq_iff_eq.mpr c6
      have c6b1 : (t286 != 0) = false := bne_eq_false_iff_eq.mpr c6
      clear c6
      (first | rw [c6b0] | (simp only [i64_w, i32_w]; rw [c6b0]) | skip)
      have H' := Aside0.mk H
      clear H
      go_wp2
      go_meet
      case rel => exact ⟨_, (false), (by first | rfl | (simp; done) | (simp [*]; done)), H', ⟨by first | omega | exact Nat.le_refl _⟩, ⟨by (with_reducible repeat (first | apply Kd.R_alloc | apply Kd.R_drewN | apply Kd.R_drew)); exact HO290.out⟩, ⟨by (with_reducible repeat (first | refine blk_drewN ?_ _ | refine blk_drew ?_ | refine blk_alloc ?_ _)); exact BK285.out⟩, ⟨by repeat (first | (with_reducible first | exact HB.out | apply below_alloc | apply pw_below_drewN | apply below_drew1 | refine below_set ?_ GE285.out) | exact HB.out)⟩⟩
    · rw [if_neg c6] at H
      have c6b0 : (t286 == 0) = false := beq_eq_false_iff_ne.mpr c6
      have c6b1 : (t286 != 0) = true := bne_iff_ne.mpr c6
      (first | rw [c6b0] | (simp only [i64_w, i32_w]; rw [c6b0]) | skip)
      have H' := Aside0.mk H
      clear H
      go_wp2
      go_meet
      case rel => exact ⟨_, ((t286 != 1)), (by first | rfl | (simp; done) | (simp [*]; done)), H', ⟨by first | omega | exact Nat.le_refl _⟩, ⟨by (with_reducible repeat (first | apply Kd.R_alloc | apply Kd.R_drewN | apply Kd.R_drew)); exact HO290.out⟩, ⟨by (with_reducible repeat (first | refine blk_drewN ?_ _ | refine blk_drew ?_ | refine blk_alloc ?_ _)); exact BK285.out⟩, ⟨by repeat (first | (with_reducible first | exact HB.out | apply below_alloc | apply pw_below_drewN | apply below_drew1 | refine below_set ?_ GE285.out) | exact HB.out)⟩⟩
  case rest =>
    clear HC3
    try clear c2
    try clear p2
    try clear c6
    try clear c6b0
    try clear c6b1
    obtain ⟨kq, x17_2, rfl, HA, HJ2, HO_4, BK285, HB⟩ := hcut
    cases kq with
    | zero => exact absurd HA.out (by simp [spec_Judge.j0])
    | succ kj2 =>
      have H := HA.out
      clear HA
      simp only [spec_Judge.j0] at H
      by_cases c7 : x17_2 = true
      · subst c7
        have H1 : (some (t286, 0, false, false)) = some (r1, r2, r3, r4) := by rw [if_pos rfl] at H; exact H
        clear H
        have H := H1
        clear H1
        simp only [Option.some.injEq, Prod.mk.injEq] at H
        obtain ⟨rfl, rfl, rfl, rfl⟩ := H
        have hcz8_0 : wc.cell? ⟨gb285, 0, none⟩ = some (.int .i64 0) := (blk_cell BK285.out 0).trans rfl
        have hcz8_1 : wc.cell? ⟨gb285, 1, none⟩ = some (.int .i64 0) := (blk_cell BK285.out 1).trans rfl
        have hcz8_2 : wc.cell? ⟨gb285, 2, none⟩ = some (.bool false) := (blk_cell BK285.out 2).trans rfl
        have hcz8_3 : wc.cell? ⟨gb285, 3, none⟩ = some (.bool false) := (blk_cell BK285.out 3).trans rfl
        have hfz8_0 := blk_frozen BK285.out 0
        have hfz8_1 := blk_frozen BK285.out 1
        have hfz8_2 := blk_frozen BK285.out 2
        have hfz8_3 := blk_frozen BK285.out 3
        go_wp2
        refine bodyPost_ret (results_cell_row rfl _ _ gb285 32 #[.int .i64 t286, .int .i64 0, .bool false, .bool false] (0, 0) _ rfl (by (with_reducible repeat (first | refine blk_drewN ?_ _ | refine blk_drew ?_ | refine blk_alloc ?_ _)); refine blk_put (cs := #[.int .i64 t286, .int .i64 0, .bool false, .bool false]) ?_ 3 _ rfl; (with_reducible repeat (first | refine blk_drewN ?_ _ | refine blk_drew ?_ | refine blk_alloc ?_ _)); refine blk_put (cs := #[.int .i64 t286, .int .i64 0, .bool false, .bool false]) ?_ 2 _ rfl; (with_reducible repeat (first | refine blk_drewN ?_ _ | refine blk_drew ?_ | refine blk_alloc ?_ _)); refine blk_put (cs := #[.int .i64 t286, .int .i64 0, .bool false, .bool false]) ?_ 1 _ rfl; (with_reducible repeat (first | refine blk_drewN ?_ _ | refine blk_drew ?_ | refine blk_alloc ?_ _)); refine blk_put (cs := #[.int .i64 0, .int .i64 0, .bool false, .bool false]) ?_ 0 _ rfl; (with_reducible repeat (first | refine blk_drewN ?_ _ | refine blk_drew ?_ | refine blk_alloc ?_ _)); exact BK285.out) Try.underlying32 rfl (by kernel_rfl)) rfl ?_
        exact ⟨by first | rfl | (simp [errW_none, errW_some] <;> rfl) | (simp [*, errW_none, errW_some] <;> rfl), by repeat (first | (with_reducible first | exact HB.out | apply below_alloc | apply pw_below_drewN | apply below_drew1 | refine below_set ?_ GE285.out) | exact HB.out)⟩
      · replace c7 := Bool.eq_false_iff.mpr c7
        subst c7
        have H1 : ((spec_l1field.f kj2 t287).bind fun t291 => ((spec_l1crcOk.f kj2 t287).bind fun t292 => (some (t286, t291, t288, t292)))) = some (r1, r2, r3, r4) := by rw [if_neg (show ¬ (false = true) by decide)] at H; exact H
        clear H
        have H := H1
        clear H1
        replace H := Option.bind_eq_some_iff.mp H
        obtain ⟨t291, A90, H⟩ := H
        replace H : ((spec_l1crcOk.f kj2 t287).bind fun t292 => (some (t286, t291, t288, t292))) = some (r1, r2, r3, r4) := H
        have A9 := Aside0.mk A90
        clear A90
        replace H := Option.bind_eq_some_iff.mp H
        obtain ⟨t292, A100, H⟩ := H
        replace H : (some (t286, t291, t288, t292)) = some (r1, r2, r3, r4) := H
        have A10 := Aside0.mk A100
        clear A100
        simp only [Option.some.injEq, Prod.mk.injEq] at H
        obtain ⟨rfl, rfl, rfl, rfl⟩ := H
        obtain ⟨Ao11, co11, eo11⟩ := Kd.R_slice HO_4.out
        subst eo11
        go_wp2_with (first | ((with_reducible refine gate_callee (f := 87) rfl ?_); refine goesL_ (some 22) rfl rfl Try.func87 (by kernel_rfl) rfl #[.slice Ao11 t287.length co11] rfl (by (try simp only [List.map_toArray, List.map_cons, List.map_nil]); first | done | rfl | (simp only [List.length_drop, List.length_take]; rfl)) ?_; (with_reducible refine (spec_l1field.calls kj2 _ _ t287 t291 _ ?side1 ?side2 A9.out).mono ?_); (case side1 => repeat (first | exact (Kd.R_reads' HO_4.out).2.2 | (with_reducible refine Kd.C_alloc ?_ _) | (with_reducible refine Kd.C_drewN ?_ _) | (with_reducible refine Kd.C_drew ?_))); (case side2 => exact (Kd.R_reads' HO_4.out).2.1); rintro e w' ⟨rfl, ⟨nd, rfl⟩⟩; refine ⟨_, rfl, ?_⟩; (try (rw [drewN_self wc]; generalize hq_ : World.drewN wc _ = wc; have n0_ : Aside0 (Kd.R (Kd.int .u8) 5 wc w.heap.size (fun _ => True) (.slice Ao11 t287.length co11) t287) := ⟨by rw [← hq_]; exact (by (with_reducible repeat (first | apply Kd.R_alloc | apply Kd.R_drewN | apply Kd.R_drew)); exact HO_4.out)⟩; have n1_ : Aside0 (wc.heap[gb285]? = some (.cells #[.int .i64 0, .int .i64 0, .bool false, .bool false] 32 (0, 0))) := ⟨by rw [← hq_]; exact (by (with_reducible repeat (first | refine blk_drewN ?_ _ | refine blk_drew ?_ | refine blk_alloc ?_ _)); exact BK285.out)⟩; have n2_ : Aside0 (Below w.heap.size w wc) := ⟨by rw [← hq_]; exact (by repeat (first | (with_reducible first | exact HB.out | apply below_alloc | apply pw_below_drewN | apply below_drew1 | refine below_set ?_ GE285.out) | exact HB.out))⟩; clear HO_4 BK285 HB hq_; have HO_4 := n0_; have BK285 := n1_; have HB := n2_; clear n0_ n1_ n2_))) | ((with_reducible refine gate_callee (f := 88) rfl ?_); refine goesL_ (some 25) rfl rfl Try.func88 (by kernel_rfl) rfl #[.slice Ao11 t287.length co11] rfl (by (try simp only [List.map_toArray, List.map_cons, List.map_nil]); first | done | rfl | (simp only [List.length_drop, List.length_take]; rfl)) ?_; (with_reducible refine (spec_l1crcOk.calls kj2 _ _ t287 t292 _ ?side1 ?side2 A10.out).mono ?_); (case side1 => repeat (first | exact (Kd.R_reads' HO_4.out).2.2 | (with_reducible refine Kd.C_alloc ?_ _) | (with_reducible refine Kd.C_drewN ?_ _) | (with_reducible refine Kd.C_drew ?_))); (case side2 => exact (Kd.R_reads' HO_4.out).2.1); rintro e w12 ⟨rfl, hb⟩; refine ⟨_, rfl, ?_⟩; have n0_ := Aside0.mk (Kd.R_below (by (with_reducible repeat (first | apply Kd.R_alloc | apply Kd.R_drewN | apply Kd.R_drew)); exact HO_4.out) hb); have n1_ := Aside0.mk (blk_below (g := gb285) (o := .cells #[.int .i64 0, .int .i64 0, .bool false, .bool false] 32 (0, 0)) (by (with_reducible repeat (first | refine blk_drewN ?_ _ | refine blk_drew ?_ | refine blk_alloc ?_ _)); exact BK285.out) hb); have n2_ := Aside0.mk (below_step (by repeat (first | (with_reducible first | exact HB.out | apply below_alloc | apply pw_below_drewN | apply below_drew1 | refine below_set ?_ GE285.out) | exact HB.out)) hb); clear HO_4; clear BK285; clear HB; have HO_4 := n0_; have BK285 := n1_; have HB := n2_; clear n0_ n1_ n2_; (try clear hb); (try clear hb2); (try clear hk); (try clear hi); have hcz13_0 : w12.cell? ⟨gb285, 0, none⟩ = some (.int .i64 0) := (blk_cell BK285.out 0).trans rfl; have hcz13_1 : w12.cell? ⟨gb285, 1, none⟩ = some (.int .i64 0) := (blk_cell BK285.out 1).trans rfl; have hcz13_2 : w12.cell? ⟨gb285, 2, none⟩ = some (.bool false) := (blk_cell BK285.out 2).trans rfl; have hcz13_3 : w12.cell? ⟨gb285, 3, none⟩ = some (.bool false) := (blk_cell BK285.out 3).trans rfl; have hfz13_0 := blk_frozen BK285.out 0; have hfz13_1 := blk_frozen BK285.out 1; have hfz13_2 := blk_frozen BK285.out 2; have hfz13_3 := blk_frozen BK285.out 3))
        refine bodyPost_ret (results_cell_row rfl _ _ gb285 32 #[.int .i64 t286, .int .i64 t291, .bool t288, .bool t292] (0, 0) _ rfl (by (with_reducible repeat (first | refine blk_drewN ?_ _ | refine blk_drew ?_ | refine blk_alloc ?_ _)); refine blk_put (cs := #[.int .i64 t286, .int .i64 t291, .bool t288, .bool false]) ?_ 3 _ rfl; (with_reducible repeat (first | refine blk_drewN ?_ _ | refine blk_drew ?_ | refine blk_alloc ?_ _)); refine blk_put (cs := #[.int .i64 t286, .int .i64 t291, .bool false, .bool false]) ?_ 2 _ rfl; (with_reducible repeat (first | refine blk_drewN ?_ _ | refine blk_drew ?_ | refine blk_alloc ?_ _)); refine blk_put (cs := #[.int .i64 t286, .int .i64 0, .bool false, .bool false]) ?_ 1 _ rfl; (with_reducible repeat (first | refine blk_drewN ?_ _ | refine blk_drew ?_ | refine blk_alloc ?_ _)); refine blk_put (cs := #[.int .i64 0, .int .i64 0, .bool false, .bool false]) ?_ 0 _ rfl; (with_reducible repeat (first | refine blk_drewN ?_ _ | refine blk_drew ?_ | refine blk_alloc ?_ _)); exact BK285.out) Try.underlying32 rfl (by kernel_rfl)) rfl ?_
        exact ⟨by first | rfl | (simp [errW_none, errW_some] <;> rfl) | (simp [*, errW_none, errW_some] <;> rfl), by repeat (first | (with_reducible first | exact HB.out | apply below_alloc | apply pw_below_drewN | apply below_drew1 | refine below_set ?_ GE285.out) | exact HB.out)⟩

end Go.Proofs.Ytdoclpgciadjaaa.P

namespace Go.Proofs.Ytdoclpgciadjaaa.P
open Go.RowKit Go.Proofs.YtdoclpgciadjaaaW.PrintWords Go.Proofs.YtdoclpgciadjaaaW.PrintLast Go.Proofs.YtdoclpgciadjaaaW.PrintMore
attribute [local go_sem] max2_int min2_int max_two min_two max_three min_three max_four min_four
set_option linter.unusedVariables false
set_option linter.unusedSimpArgs false

/-! ### laws_eqVerdict: function 30 -/
def laws_eqVerdict.f (a0_0 : Int) (a0_1 : Int) (a0_2 : Bool) (a0_3 : Bool) (a1_0 : Int) (a1_1 : Int) (a1_2 : Bool) (a1_3 : Bool) : Option (Bool) := if a0_0 = a1_0 then (if a0_1 = a1_1 then (if (a0_2 != a1_2) = true then (some false) else (if (a0_3 != a1_3) = true then (some false) else (some true))) else (some false)) else (some false)
set_option maxHeartbeats 8000000 in
set_option maxRecDepth 100000 in
theorem laws_eqVerdict.calls (a0_0 : Int) (a0_1 : Int) (a0_2 : Bool) (a0_3 : Bool) (a1_0 : Int) (a1_1 : Int) (a1_2 : Bool) (a1_3 : Bool) (r : Bool) (w : World) (h : laws_eqVerdict.f a0_0 a0_1 a0_2 a0_3 a1_0 a1_1 a1_2 a1_3 = some r) :
    Calls Try.prog 30 #[.agg #[.int .i64 a0_0, .int .i64 a0_1, .bool a0_2, .bool a0_3], .agg #[.int .i64 a1_0, .int .i64 a1_1, .bool a1_2, .bool a1_3]] w fun e w' => e = .returned (.bool r) ∧ Below w.heap.size w w' := by
  have hu32 := Try.underlying32
  have HB := Aside0.mk (Below.refl w.heap.size w)
  have H : (if a0_0 = a1_0 then (if a0_1 = a1_1 then (if (a0_2 != a1_2) = true then (some false) else (if (a0_3 != a1_3) = true then (some false) else (some true))) else (some false)) else (some false)) = some r := h
  clear h
  by_cases c3 : a0_0 = a1_0
  · rw [if_pos c3] at H
    have c3b0 : (a0_0 == a1_0) = true := beq_iff_eq.mpr c3
    have c3b1 : (a0_0 != a1_0) = false := bne_eq_false_iff_eq.mpr c3
    clear c3
    by_cases c4 : a0_1 = a1_1
    · rw [if_pos c4] at H
      have c4b0 : (a0_1 == a1_1) = true := beq_iff_eq.mpr c4
      have c4b1 : (a0_1 != a1_1) = false := bne_eq_false_iff_eq.mpr c4
      clear c4
      by_cases c5 : (a0_2 != a1_2) = true
      · rw [if_pos c5] at H
        have c5b0 : (a0_2 != a1_2) = true := c5
        (try (have c5b1 : decide (a0_2 = a1_2) = false := by simpa using c5))
        (try (have c5b2 : (a0_2 == a1_2) = false := by simpa using c5))
        (try (have c5b3 : ¬ (a0_2 = a1_2) := by simpa using c5))
        clear c5
        obtain rfl := Option.some.inj H
        go_enter Try.func30, Try.ntmps30
        go_wp2_with (first | ((with_reducible refine gate_dst (N := 2) rfl ?_); refine box_event ?hg (N := 2) ?hd (cs := #[.int .i64 a0_0, .int .i64 a0_1, .bool a0_2, .bool a0_3]) (t := 32) ?hr ?_; (case hd => rfl); (case hg => rfl); (case hr => first | (go_simp; done) | (go_simp; rfl)); intro gb293 hg w6 hbox hb; have n0_ := Aside0.mk (below_step (by repeat (first | (with_reducible first | exact HB.out | apply below_alloc | apply pw_below_drewN | apply below_drew1) | exact HB.out)) hb); have n1_ := Aside0.mk (hbox); have n2_ := Aside0.mk ((by rw [hg]; exact (below_size (by repeat (first | (with_reducible first | exact HB.out | apply below_alloc | apply pw_below_drewN | apply below_drew1) | exact HB.out))) : w.heap.size ≤ gb293)); have n3_ := Aside0.mk ((by rw [hg]; exact (below_size (by repeat (first | (with_reducible first | exact HB.out | apply below_alloc | apply pw_below_drewN | apply below_drew1) | exact HB.out))) : w.heap.size ≤ gb293)); clear HB; have HB := n0_; have BK293 := n1_; have GW293 := n2_; have GE293 := n3_; clear n0_ n1_ n2_ n3_; clear hb hbox hg) | ((with_reducible refine gate_dst (N := 3) rfl ?_); refine box_event ?hg (N := 3) ?hd (cs := #[.int .i64 a1_0, .int .i64 a1_1, .bool a1_2, .bool a1_3]) (t := 32) ?hr ?_; (case hd => rfl); (case hg => rfl); (case hr => first | (go_simp; done) | (go_simp; rfl)); intro gb294 hg w7 hbox hb; have n0_ := Aside0.mk (blk_below (g := gb293) (o := .cells #[.int .i64 a0_0, .int .i64 a0_1, .bool a0_2, .bool a0_3] 32 (0, 0)) (by (with_reducible repeat (first | refine blk_drewN ?_ _ | refine blk_drew ?_ | refine blk_alloc ?_ _)); exact BK293.out) hb); have n1_ := Aside0.mk (below_step (by repeat (first | (with_reducible first | exact HB.out | apply below_alloc | apply pw_below_drewN | apply below_drew1 | refine below_set ?_ GE293.out) | exact HB.out)) hb); have n2_ := Aside0.mk (hbox); have n3_ := Aside0.mk ((by rw [hg]; exact (below_size (by repeat (first | (with_reducible first | exact HB.out | apply below_alloc | apply pw_below_drewN | apply below_drew1 | refine below_set ?_ GE293.out) | exact HB.out))) : w.heap.size ≤ gb294)); have n4_ := Aside0.mk ((by rw [hg]; exact (below_size (by repeat (first | (with_reducible first | exact HB.out | apply below_alloc | apply pw_below_drewN | apply below_drew1 | refine below_set ?_ GE293.out) | exact HB.out))) : w.heap.size ≤ gb294)); have n5_ := Aside0.mk ((by rw [hg]; exact Nat.ne_of_lt (blk_lt (g := gb293) (o := .cells #[.int .i64 a0_0, .int .i64 a0_1, .bool a0_2, .bool a0_3] 32 (0, 0)) (by (with_reducible repeat (first | refine blk_drewN ?_ _ | refine blk_drew ?_ | refine blk_alloc ?_ _)); exact BK293.out)) : gb293 ≠ gb294)); have n6_ := Aside0.mk ((by rw [hg]; exact Nat.ne_of_gt (blk_lt (g := gb293) (o := .cells #[.int .i64 a0_0, .int .i64 a0_1, .bool a0_2, .bool a0_3] 32 (0, 0)) (by (with_reducible repeat (first | refine blk_drewN ?_ _ | refine blk_drew ?_ | refine blk_alloc ?_ _)); exact BK293.out)) : gb294 ≠ gb293)); clear BK293; clear HB; have BK293 := n0_; have HB := n1_; have BK294 := n2_; have GW294 := n3_; have GE294 := n4_; have NB293_294 := n5_; have NB294_293 := n6_; clear n0_ n1_ n2_ n3_ n4_ n5_ n6_; clear hb hbox hg; have hnb8 := NB293_294.out; have hnc8 := NB294_293.out; have hcz9_0 : w7.cell? ⟨gb293, 0, none⟩ = some (.int .i64 a0_0) := (blk_cell BK293.out 0).trans rfl; have hcz9_1 : w7.cell? ⟨gb293, 1, none⟩ = some (.int .i64 a0_1) := (blk_cell BK293.out 1).trans rfl; have hcz9_2 : w7.cell? ⟨gb293, 2, none⟩ = some (.bool a0_2) := (blk_cell BK293.out 2).trans rfl; have hcz9_3 : w7.cell? ⟨gb293, 3, none⟩ = some (.bool a0_3) := (blk_cell BK293.out 3).trans rfl; have hfz9_0 := blk_frozen BK293.out 0; have hfz9_1 := blk_frozen BK293.out 1; have hfz9_2 := blk_frozen BK293.out 2; have hfz9_3 := blk_frozen BK293.out 3; have hcz10_0 : w7.cell? ⟨gb294, 0, none⟩ = some (.int .i64 a1_0) := (blk_cell BK294.out 0).trans rfl; have hcz10_1 : w7.cell? ⟨gb294, 1, none⟩ = some (.int .i64 a1_1) := (blk_cell BK294.out 1).trans rfl; have hcz10_2 : w7.cell? ⟨gb294, 2, none⟩ = some (.bool a1_2) := (blk_cell BK294.out 2).trans rfl; have hcz10_3 : w7.cell? ⟨gb294, 3, none⟩ = some (.bool a1_3) := (blk_cell BK294.out 3).trans rfl; have hfz10_0 := blk_frozen BK294.out 0; have hfz10_1 := blk_frozen BK294.out 1; have hfz10_2 := blk_frozen BK294.out 2; have hfz10_3 := blk_frozen BK294.out 3))
        go_ret
        exact ⟨by first | rfl | (simp [errW_none, errW_some] <;> rfl) | (simp [*, errW_none, errW_some] <;> rfl), by repeat (first | (with_reducible first | exact HB.out | apply below_alloc | apply pw_below_drewN | apply below_drew1 | refine below_set ?_ GE293.out | refine below_set ?_ GE294.out) | exact HB.out)⟩
      · rw [if_neg c5] at H
        have c5b0 : (a0_2 != a1_2) = false := by simpa using c5
        (try (have c5b1 : decide (a0_2 = a1_2) = true := by simpa using c5))
        (try (have c5b2 : (a0_2 == a1_2) = true := by simpa using c5))
        clear c5
        by_cases c11 : (a0_3 != a1_3) = true
        · rw [if_pos c11] at H
          have c11b0 : (a0_3 != a1_3) = true := c11
          (try (have c11b1 : decide (a0_3 = a1_3) = false := by simpa using c11))
          (try (have c11b2 : (a0_3 == a1_3) = false := by simpa using c11))
          (try (have c11b3 : ¬ (a0_3 = a1_3) := by simpa using c11))
          clear c11
          obtain rfl := Option.some.inj H
          go_enter Try.func30, Try.ntmps30
          go_wp2_with (first | ((with_reducible refine gate_dst (N := 2) rfl ?_); refine box_event ?hg (N := 2) ?hd (cs := #[.int .i64 a0_0, .int .i64 a0_1, .bool a0_2, .bool a0_3]) (t := 32) ?hr ?_; (case hd => rfl); (case hg => rfl); (case hr => first | (go_simp; done) | (go_simp; rfl)); intro gb293 hg w12 hbox hb; have n0_ := Aside0.mk (below_step (by repeat (first | (with_reducible first | exact HB.out | apply below_alloc | apply pw_below_drewN | apply below_drew1) | exact HB.out)) hb); have n1_ := Aside0.mk (hbox); have n2_ := Aside0.mk ((by rw [hg]; exact (below_size (by repeat (first | (with_reducible first | exact HB.out | apply below_alloc | apply pw_below_drewN | apply below_drew1) | exact HB.out))) : w.heap.size ≤ gb293)); have n3_ := Aside0.mk ((by rw [hg]; exact (below_size (by repeat (first | (with_reducible first | exact HB.out | apply below_alloc | apply pw_below_drewN | apply below_drew1) | exact HB.out))) : w.heap.size ≤ gb293)); clear HB; have HB := n0_; have BK293 := n1_; have GW293 := n2_; have GE293 := n3_; clear n0_ n1_ n2_ n3_; clear hb hbox hg) | ((with_reducible refine gate_dst (N := 3) rfl ?_); refine box_event ?hg (N := 3) ?hd (cs := #[.int .i64 a1_0, .int .i64 a1_1, .bool a1_2, .bool a1_3]) (t := 32) ?hr ?_; (case hd => rfl); (case hg => rfl); (case hr => first | (go_simp; done) | (go_simp; rfl)); intro gb294 hg w13 hbox hb; have n0_ := Aside0.mk (blk_below (g := gb293) (o := .cells #[.int .i64 a0_0, .int .i64 a0_1, .bool a0_2, .bool a0_3] 32 (0, 0)) (by (with_reducible repeat (first | refine blk_drewN ?_ _ | refine blk_drew ?_ | refine blk_alloc ?_ _)); exact BK293.out) hb); have n1_ := Aside0.mk (below_step (by repeat (first | (with_reducible first | exact HB.out | apply below_alloc | apply pw_below_drewN | apply below_drew1 | refine below_set ?_ GE293.out) | exact HB.out)) hb); have n2_ := Aside0.mk (hbox); have n3_ := Aside0.mk ((by rw [hg]; exact (below_size (by repeat (first | (with_reducible first | exact HB.out | apply below_alloc | apply pw_below_drewN | apply below_drew1 | refine below_set ?_ GE293.out) | exact HB.out))) : w.heap.size ≤ gb294)); have n4_ := Aside0.mk ((by rw [hg]; exact (below_size (by repeat (first | (with_reducible first | exact HB.out | apply below_alloc | apply pw_below_drewN | apply below_drew1 | refine below_set ?_ GE293.out) | exact HB.out))) : w.heap.size ≤ gb294)); have n5_ := Aside0.mk ((by rw [hg]; exact Nat.ne_of_lt (blk_lt (g := gb293) (o := .cells #[.int .i64 a0_0, .int .i64 a0_1, .bool a0_2, .bool a0_3] 32 (0, 0)) (by (with_reducible repeat (first | refine blk_drewN ?_ _ | refine blk_drew ?_ | refine blk_alloc ?_ _)); exact BK293.out)) : gb293 ≠ gb294)); have n6_ := Aside0.mk ((by rw [hg]; exact Nat.ne_of_gt (blk_lt (g := gb293) (o := .cells #[.int .i64 a0_0, .int .i64 a0_1, .bool a0_2, .bool a0_3] 32 (0, 0)) (by (with_reducible repeat (first | refine blk_drewN ?_ _ | refine blk_drew ?_ | refine blk_alloc ?_ _)); exact BK293.out)) : gb294 ≠ gb293)); clear BK293; clear HB; have BK293 := n0_; have HB := n1_; have BK294 := n2_; have GW294 := n3_; have GE294 := n4_; have NB293_294 := n5_; have NB294_293 := n6_; clear n0_ n1_ n2_ n3_ n4_ n5_ n6_; clear hb hbox hg; have hnb14 := NB293_294.out; have hnc14 := NB294_293.out; have hcz15_0 : w13.cell? ⟨gb293, 0, none⟩ = some (.int .i64 a0_0) := (blk_cell BK293.out 0).trans rfl; have hcz15_1 : w13.cell? ⟨gb293, 1, none⟩ = some (.int .i64 a0_1) := (blk_cell BK293.out 1).trans rfl; have hcz15_2 : w13.cell? ⟨gb293, 2, none⟩ = some (.bool a0_2) := (blk_cell BK293.out 2).trans rfl; have hcz15_3 : w13.cell? ⟨gb293, 3, none⟩ = some (.bool a0_3) := (blk_cell BK293.out 3).trans rfl; have hfz15_0 := blk_frozen BK293.out 0; have hfz15_1 := blk_frozen BK293.out 1; have hfz15_2 := blk_frozen BK293.out 2; have hfz15_3 := blk_frozen BK293.out 3; have hcz16_0 : w13.cell? ⟨gb294, 0, none⟩ = some (.int .i64 a1_0) := (blk_cell BK294.out 0).trans rfl; have hcz16_1 : w13.cell? ⟨gb294, 1, none⟩ = some (.int .i64 a1_1) := (blk_cell BK294.out 1).trans rfl; have hcz16_2 : w13.cell? ⟨gb294, 2, none⟩ = some (.bool a1_2) := (blk_cell BK294.out 2).trans rfl; have hcz16_3 : w13.cell? ⟨gb294, 3, none⟩ = some (.bool a1_3) := (blk_cell BK294.out 3).trans rfl; have hfz16_0 := blk_frozen BK294.out 0; have hfz16_1 := blk_frozen BK294.out 1; have hfz16_2 := blk_frozen BK294.out 2; have hfz16_3 := blk_frozen BK294.out 3))
          go_ret
          exact ⟨by first | rfl | (simp [errW_none, errW_some] <;> rfl) | (simp [*, errW_none, errW_some] <;> rfl), by repeat (first | (with_reducible first | exact HB.out | apply below_alloc | apply pw_below_drewN | apply below_drew1 | refine below_set ?_ GE293.out | refine below_set ?_ GE294.out) | exact HB.out)⟩
        · rw [if_neg c11] at H
          have c11b0 : (a0_3 != a1_3) = false := by simpa using c11
          (try (have c11b1 : decide (a0_3 = a1_3) = true := by simpa using c11))
          (try (have c11b2 : (a0_3 == a1_3) = true := by simpa using c11))
          clear c11
          obtain rfl := Option.some.inj H
          go_enter Try.func30, Try.ntmps30
          go_wp2_with (first | ((with_reducible refine gate_dst (N := 2) rfl ?_); refine box_event ?hg (N := 2) ?hd (cs := #[.int .i64 a0_0, .int .i64 a0_1, .bool a0_2, .bool a0_3]) (t := 32) ?hr ?_; (case hd => rfl); (case hg => rfl); (case hr => first | (go_simp; done) | (go_simp; rfl)); intro gb293 hg w17 hbox hb; have n0_ := Aside0.mk (below_step (by repeat (first | (with_reducible first | exact HB.out | apply below_alloc | apply pw_below_drewN | apply below_drew1) | exact HB.out)) hb); have n1_ := Aside0.mk (hbox); have n2_ := Aside0.mk ((by rw [hg]; exact (below_size (by repeat (first | (with_reducible first | exact HB.out | apply below_alloc | apply pw_below_drewN | apply below_drew1) | exact HB.out))) : w.heap.size ≤ gb293)); have n3_ := Aside0.mk ((by rw [hg]; exact (below_size (by repeat (first | (with_reducible first | exact HB.out | apply below_alloc | apply pw_below_drewN | apply below_drew1) | exact HB.out))) : w.heap.size ≤ gb293)); clear HB; have HB := n0_; have BK293 := n1_; have GW293 := n2_; have GE293 := n3_; clear n0_ n1_ n2_ n3_; clear hb hbox hg) | ((with_reducible refine gate_dst (N := 3) rfl ?_); refine box_event ?hg (N := 3) ?hd (cs := #[.int .i64 a1_0, .int .i64 a1_1, .bool a1_2, .bool a1_3]) (t := 32) ?hr ?_; (case hd => rfl); (case hg => rfl); (case hr => first | (go_simp; done) | (go_simp; rfl)); intro gb294 hg w18 hbox hb; have n0_ := Aside0.mk (blk_below (g := gb293) (o := .cells #[.int .i64 a0_0, .int .i64 a0_1, .bool a0_2, .bool a0_3] 32 (0, 0)) (by (with_reducible repeat (first | refine blk_drewN ?_ _ | refine blk_drew ?_ | refine blk_alloc ?_ _)); exact BK293.out) hb); have n1_ := Aside0.mk (below_step (by repeat (first | (with_reducible first | exact HB.out | apply below_alloc | apply pw_below_drewN | apply below_drew1 | refine below_set ?_ GE293.out) | exact HB.out)) hb); have n2_ := Aside0.mk (hbox); have n3_ := Aside0.mk ((by rw [hg]; exact (below_size (by repeat (first | (with_reducible first | exact HB.out | apply below_alloc | apply pw_below_drewN | apply below_drew1 | refine below_set ?_ GE293.out) | exact HB.out))) : w.heap.size ≤ gb294)); have n4_ := Aside0.mk ((by rw [hg]; exact (below_size (by repeat (first | (with_reducible first | exact HB.out | apply below_alloc | apply pw_below_drewN | apply below_drew1 | refine below_set ?_ GE293.out) | exact HB.out))) : w.heap.size ≤ gb294)); have n5_ := Aside0.mk ((by rw [hg]; exact Nat.ne_of_lt (blk_lt (g := gb293) (o := .cells #[.int .i64 a0_0, .int .i64 a0_1, .bool a0_2, .bool a0_3] 32 (0, 0)) (by (with_reducible repeat (first | refine blk_drewN ?_ _ | refine blk_drew ?_ | refine blk_alloc ?_ _)); exact BK293.out)) : gb293 ≠ gb294)); have n6_ := Aside0.mk ((by rw [hg]; exact Nat.ne_of_gt (blk_lt (g := gb293) (o := .cells #[.int .i64 a0_0, .int .i64 a0_1, .bool a0_2, .bool a0_3] 32 (0, 0)) (by (with_reducible repeat (first | refine blk_drewN ?_ _ | refine blk_drew ?_ | refine blk_alloc ?_ _)); exact BK293.out)) : gb294 ≠ gb293)); clear BK293; clear HB; have BK293 := n0_; have HB := n1_; have BK294 := n2_; have GW294 := n3_; have GE294 := n4_; have NB293_294 := n5_; have NB294_293 := n6_; clear n0_ n1_ n2_ n3_ n4_ n5_ n6_; clear hb hbox hg; have hnb19 := NB293_294.out; have hnc19 := NB294_293.out; have hcz20_0 : w18.cell? ⟨gb293, 0, none⟩ = some (.int .i64 a0_0) := (blk_cell BK293.out 0).trans rfl; have hcz20_1 : w18.cell? ⟨gb293, 1, none⟩ = some (.int .i64 a0_1) := (blk_cell BK293.out 1).trans rfl; have hcz20_2 : w18.cell? ⟨gb293, 2, none⟩ = some (.bool a0_2) := (blk_cell BK293.out 2).trans rfl; have hcz20_3 : w18.cell? ⟨gb293, 3, none⟩ = some (.bool a0_3) := (blk_cell BK293.out 3).trans rfl; have hfz20_0 := blk_frozen BK293.out 0; have hfz20_1 := blk_frozen BK293.out 1; have hfz20_2 := blk_frozen BK293.out 2; have hfz20_3 := blk_frozen BK293.out 3; have hcz21_0 : w18.cell? ⟨gb294, 0, none⟩ = some (.int .i64 a1_0) := (blk_cell BK294.out 0).trans rfl; have hcz21_1 : w18.cell? ⟨gb294, 1, none⟩ = some (.int .i64 a1_1) := (blk_cell BK294.out 1).trans rfl; have hcz21_2 : w18.cell? ⟨gb294, 2, none⟩ = some (.bool a1_2) := (blk_cell BK294.out 2).trans rfl; have hcz21_3 : w18.cell? ⟨gb294, 3, none⟩ = some (.bool a1_3) := (blk_cell BK294.out 3).trans rfl; have hfz21_0 := blk_frozen BK294.out 0; have hfz21_1 := blk_frozen BK294.out 1; have hfz21_2 := blk_frozen BK294.out 2; have hfz21_3 := blk_frozen BK294.out 3))
          go_ret
          exact ⟨by first | rfl | (simp [errW_none, errW_some] <;> rfl) | (simp [*, errW_none, errW_some] <;> rfl), by repeat (first | (with_reducible first | exact HB.out | apply below_alloc | apply pw_below_drewN | apply below_drew1 | refine below_set ?_ GE293.out | refine below_set ?_ GE294.out) | exact HB.out)⟩
    · rw [if_neg c4] at H
      have c4b0 : (a0_1 == a1_1) = false := beq_eq_false_iff_ne.mpr c4
      have c4b1 : (a0_1 != a1_1) = true := bne_iff_ne.mpr c4
      obtain rfl := Option.some.inj H
      go_enter Try.func30, Try.ntmps30
      go_wp2_with (first | ((with_reducible refine gate_dst (N := 2) rfl ?_); refine box_event ?hg (N := 2) ?hd (cs := #[.int .i64 a0_0, .int .i64 a0_1, .bool a0_2, .bool a0_3]) (t := 32) ?hr ?_; (case hd => rfl); (case hg => rfl); (case hr => first | (go_simp; done) | (go_simp; rfl)); intro gb293 hg w22 hbox hb; have n0_ := Aside0.mk (below_step (by repeat (first | (with_reducible first | exact HB.out | apply below_alloc | apply pw_below_drewN | apply below_drew1) | exact HB.out)) hb); have n1_ := Aside0.mk (hbox); have n2_ := Aside0.mk ((by rw [hg]; exact (below_size (by repeat (first | (with_reducible first | exact HB.out | apply below_alloc | apply pw_below_drewN | apply below_drew1) | exact HB.out))) : w.heap.size ≤ gb293)); have n3_ := Aside0.mk ((by rw [hg]; exact (below_size (by repeat (first | (with_reducible first | exact HB.out | apply below_alloc | apply pw_below_drewN | apply below_drew1) | exact HB.out))) : w.heap.size ≤ gb293)); clear HB; have HB := n0_; have BK293 := n1_; have GW293 := n2_; have GE293 := n3_; clear n0_ n1_ n2_ n3_; clear hb hbox hg) | ((with_reducible refine gate_dst (N := 3) rfl ?_); refine box_event ?hg (N := 3) ?hd (cs := #[.int .i64 a1_0, .int .i64 a1_1, .bool a1_2, .bool a1_3]) (t := 32) ?hr ?_; (case hd => rfl); (case hg => rfl); (case hr => first | (go_simp; done) | (go_simp; rfl)); intro gb294 hg w23 hbox hb; have n0_ := Aside0.mk (blk_below (g := gb293) (o := .cells #[.int .i64 a0_0, .int .i64 a0_1, .bool a0_2, .bool a0_3] 32 (0, 0)) (by (with_reducible repeat (first | refine blk_drewN ?_ _ | refine blk_drew ?_ | refine blk_alloc ?_ _)); exact BK293.out) hb); have n1_ := Aside0.mk (below_step (by repeat (first | (with_reducible first | exact HB.out | apply below_alloc | apply pw_below_drewN | apply below_drew1 | refine below_set ?_ GE293.out) | exact HB.out)) hb); have n2_ := Aside0.mk (hbox); have n3_ := Aside0.mk ((by rw [hg]; exact (below_size (by repeat (first | (with_reducible first | exact HB.out | apply below_alloc | apply pw_below_drewN | apply below_drew1 | refine below_set ?_ GE293.out) | exact HB.out))) : w.heap.size ≤ gb294)); have n4_ := Aside0.mk ((by rw [hg]; exact (below_size (by repeat (first | (with_reducible first | exact HB.out | apply below_alloc | apply pw_below_drewN | apply below_drew1 | refine below_set ?_ GE293.out) | exact HB.out))) : w.heap.size ≤ gb294)); have n5_ := Aside0.mk ((by rw [hg]; exact Nat.ne_of_lt (blk_lt (g := gb293) (o := .cells #[.int .i64 a0_0, .int .i64 a0_1, .bool a0_2, .bool a0_3] 32 (0, 0)) (by (with_reducible repeat (first | refine blk_drewN ?_ _ | refine blk_drew ?_ | refine blk_alloc ?_ _)); exact BK293.out)) : gb293 ≠ gb294)); have n6_ := Aside0.mk ((by rw [hg]; exact Nat.ne_of_gt (blk_lt (g := gb293) (o := .cells #[.int .i64 a0_0, .int .i64 a0_1, .bool a0_2, .bool a0_3] 32 (0, 0)) (by (with_reducible repeat (first | refine blk_drewN ?_ _ | refine blk_drew ?_ | refine blk_alloc ?_ _)); exact BK293.out)) : gb294 ≠ gb293)); clear BK293; clear HB; have BK293 := n0_; have HB := n1_; have BK294 := n2_; have GW294 := n3_; have GE294 := n4_; have NB293_294 := n5_; have NB294_293 := n6_; clear n0_ n1_ n2_ n3_ n4_ n5_ n6_; clear hb hbox hg; have hnb24 := NB293_294.out; have hnc24 := NB294_293.out; have hcz25_0 : w23.cell? ⟨gb293, 0, none⟩ = some (.int .i64 a0_0) := (blk_cell BK293.out 0).trans rfl; have hcz25_1 : w23.cell? ⟨gb293, 1, none⟩ = some (.int .i64 a0_1) := (blk_cell BK293.out 1).trans rfl; have hcz25_2 : w23.cell? ⟨gb293, 2, none⟩ = some (.bool a0_2) := (blk_cell BK293.out 2).trans rfl; have hcz25_3 : w23.cell? ⟨gb293, 3, none⟩ = some (.bool a0_3) := (blk_cell BK293.out 3).trans rfl; have hfz25_0 := blk_frozen BK293.out 0; have hfz25_1 := blk_frozen BK293.out 1; have hfz25_2 := blk_frozen BK293.out 2; have hfz25_3 := blk_frozen BK293.out 3; have hcz26_0 : w23.cell? ⟨gb294, 0, none⟩ = some (.int .i64 a1_0) := (blk_cell BK294.out 0).trans rfl; have hcz26_1 : w23.cell? ⟨gb294, 1, none⟩ = some (.int .i64 a1_1) := (blk_cell BK294.out 1).trans rfl; have hcz26_2 : w23.cell? ⟨gb294, 2, none⟩ = some (.bool a1_2) := (blk_cell BK294.out 2).trans rfl; have hcz26_3 : w23.cell? ⟨gb294, 3, none⟩ = some (.bool a1_3) := (blk_cell BK294.out 3).trans rfl; have hfz26_0 := blk_frozen BK294.out 0; have hfz26_1 := blk_frozen BK294.out 1; have hfz26_2 := blk_frozen BK294.out 2; have hfz26_3 := blk_frozen BK294.out 3))
      go_ret
      exact ⟨by first | rfl | (simp [errW_none, errW_some] <;> rfl) | (simp [*, errW_none, errW_some] <;> rfl), by repeat (first | (with_reducible first | exact HB.out | apply below_alloc | apply pw_below_drewN | apply below_drew1 | refine below_set ?_ GE293.out | refine below_set ?_ GE294.out) | exact HB.out)⟩
  · rw [if_neg c3] at H
    have c3b0 : (a0_0 == a1_0) = false := beq_eq_false_iff_ne.mpr c3
    have c3b1 : (a0_0 != a1_0) = true := bne_iff_ne.mpr c3
    obtain rfl := Option.some.inj H
    go_enter Try.func30, Try.ntmps30
    go_wp2_with (first | ((with_reducible refine gate_dst (N := 2) rfl ?_); refine box_event ?hg (N := 2) ?hd (cs := #[.int .i64 a0_0, .int .i64 a0_1, .bool a0_2, .bool a0_3]) (t := 32) ?hr ?_; (case hd => rfl); (case hg => rfl); (case hr => first | (go_simp; done) | (go_simp; rfl)); intro gb293 hg w27 hbox hb; have n0_ := Aside0.mk (below_step (by repeat (first | (with_reducible first | exact HB.out | apply below_alloc | apply pw_below_drewN | apply below_drew1) | exact HB.out)) hb); have n1_ := Aside0.mk (hbox); have n2_ := Aside0.mk ((by rw [hg]; exact (below_size (by repeat (first | (with_reducible first | exact HB.out | apply below_alloc | apply pw_below_drewN | apply below_drew1) | exact HB.out))) : w.heap.size ≤ gb293)); have n3_ := Aside0.mk ((by rw [hg]; exact (below_size (by repeat (first | (with_reducible first | exact HB.out | apply below_alloc | apply pw_below_drewN | apply below_drew1) | exact HB.out))) : w.heap.size ≤ gb293)); clear HB; have HB := n0_; have BK293 := n1_; have GW293 := n2_; have GE293 := n3_; clear n0_ n1_ n2_ n3_; clear hb hbox hg) | ((with_reducible refine gate_dst (N := 3) rfl ?_); refine box_event ?hg (N := 3) ?hd (cs := #[.int .i64 a1_0, .int .i64 a1_1, .bool a1_2, .bool a1_3]) (t := 32) ?hr ?_; (case hd => rfl); (case hg => rfl); (case hr => first | (go_simp; done) | (go_simp; rfl)); intro gb294 hg w28 hbox hb; have n0_ := Aside0.mk (blk_below (g := gb293) (o := .cells #[.int .i64 a0_0, .int .i64 a0_1, .bool a0_2, .bool a0_3] 32 (0, 0)) (by (with_reducible repeat (first | refine blk_drewN ?_ _ | refine blk_drew ?_ | refine blk_alloc ?_ _)); exact BK293.out) hb); have n1_ := Aside0.mk (below_step (by repeat (first | (with_reducible first | exact HB.out | apply below_alloc | apply pw_below_drewN | apply below_drew1 | refine below_set ?_ GE293.out) | exact HB.out)) hb); have n2_ := Aside0.mk (hbox); have n3_ := Aside0.mk ((by rw [hg]; exact (below_size (by repeat (first | (with_reducible first | exact HB.out | apply below_alloc | apply pw_below_drewN | apply below_drew1 | refine below_set ?_ GE293.out) | exact HB.out))) : w.heap.size ≤ gb294)); have n4_ := Aside0.mk ((by rw [hg]; exact (below_size (by repeat (first | (with_reducible first | exact HB.out | apply below_alloc | apply pw_below_drewN | apply below_drew1 | refine below_set ?_ GE293.out) | exact HB.out))) : w.heap.size ≤ gb294)); have n5_ := Aside0.mk ((by rw [hg]; exact Nat.ne_of_lt (blk_lt (g := gb293) (o := .cells #[.int .i64 a0_0, .int .i64 a0_1, .bool a0_2, .bool a0_3] 32 (0, 0)) (by (with_reducible repeat (first | refine blk_drewN ?_ _ | refine blk_drew ?_ | refine blk_alloc ?_ _)); exact BK293.out)) : gb293 ≠ gb294)); have n6_ := Aside0.mk ((by rw [hg]; exact Nat.ne_of_gt (blk_lt (g := gb293) (o := .cells #[.int .i64 a0_0, .int .i64 a0_1, .bool a0_2, .bool a0_3] 32 (0, 0)) (by (with_reducible repeat (first | refine blk_drewN ?_ _ | refine blk_drew ?_ | refine blk_alloc ?_ _)); exact BK293.out)) : gb294 ≠ gb293)); clear BK293; clear HB; have BK293 := n0_; have HB := n1_; have BK294 := n2_; have GW294 := n3_; have GE294 := n4_; have NB293_294 := n5_; have NB294_293 := n6_; clear n0_ n1_ n2_ n3_ n4_ n5_ n6_; clear hb hbox hg; have hnb29 := NB293_294.out; have hnc29 := NB294_293.out; have hcz30_0 : w28.cell? ⟨gb293, 0, none⟩ = some (.int .i64 a0_0) := (blk_cell BK293.out 0).trans rfl; have hcz30_1 : w28.cell? ⟨gb293, 1, none⟩ = some (.int .i64 a0_1) := (blk_cell BK293.out 1).trans rfl; have hcz30_2 : w28.cell? ⟨gb293, 2, none⟩ = some (.bool a0_2) := (blk_cell BK293.out 2).trans rfl; have hcz30_3 : w28.cell? ⟨gb293, 3, none⟩ = some (.bool a0_3) := (blk_cell BK293.out 3).trans rfl; have hfz30_0 := blk_frozen BK293.out 0; have hfz30_1 := blk_frozen BK293.out 1; have hfz30_2 := blk_frozen BK293.out 2; have hfz30_3 := blk_frozen BK293.out 3; have hcz31_0 : w28.cell? ⟨gb294, 0, none⟩ = some (.int .i64 a1_0) := (blk_cell BK294.out 0).trans rfl; have hcz31_1 : w28.cell? ⟨gb294, 1, none⟩ = some (.int .i64 a1_1) := (blk_cell BK294.out 1).trans rfl; have hcz31_2 : w28.cell? ⟨gb294, 2, none⟩ = some (.bool a1_2) := (blk_cell BK294.out 2).trans rfl; have hcz31_3 : w28.cell? ⟨gb294, 3, none⟩ = some (.bool a1_3) := (blk_cell BK294.out 3).trans rfl; have hfz31_0 := blk_frozen BK294.out 0; have hfz31_1 := blk_frozen BK294.out 1; have hfz31_2 := blk_frozen BK294.out 2; have hfz31_3 := blk_frozen BK294.out 3))
    go_ret
    exact ⟨by first | rfl | (simp [errW_none, errW_some] <;> rfl) | (simp [*, errW_none, errW_some] <;> rfl), by repeat (first | (with_reducible first | exact HB.out | apply below_alloc | apply pw_below_drewN | apply below_drew1 | refine below_set ?_ GE293.out | refine below_set ?_ GE294.out) | exact HB.out)⟩

end Go.Proofs.Ytdoclpgciadjaaa.P
