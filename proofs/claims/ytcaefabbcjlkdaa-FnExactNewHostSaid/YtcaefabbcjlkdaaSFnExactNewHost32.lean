/- Texts of the proof of FnExactNewHost, joined. -/
import Derived.Test.YtcaefabbcjlkdaaSFnExactNewHost22
import Derived.Test.YtcaefabbcjlkdaaSFnExactNewHost31
import Derived.Test.YtcaefabbcjlkdaaSFnExactNewHost30
namespace Go.Proofs.Ytcaefabbcjlkdaa.P
open Go.RowKit Go.Proofs.YtcaefabbcjlkdaaW.PrintWords Go.Proofs.YtcaefabbcjlkdaaW.PrintLast Go.Proofs.YtcaefabbcjlkdaaW.PrintMore
set_option linter.unusedVariables false
set_option linter.unusedSimpArgs false
def laws_eqBoxS.l0 : Nat → List (S87) → List (S87) → Int → Option (Bool)
 | 0,_,_,_ => none
 | k + 1,x0,x1,x5 => if x5 < (x0.length : Int) then (if 0 ≤ x5 then (if x5 < (x1.length : Int) then ((laws_eqBox.f k ((rd_T87 x0 x5).f0) ((rd_T87 x0 x5).f1) ((rd_T87 x0 x5).f2) ((rd_T87 x0 x5).f3.f0) ((rd_T87 x0 x5).f3.f1) ((rd_T87 x0 x5).f3.f2) ((rd_T87 x0 x5).f3.f3) ((rd_T87 x0 x5).f3.f4) ((rd_T87 x1 x5).f0) ((rd_T87 x1 x5).f1) ((rd_T87 x1 x5).f2) ((rd_T87 x1 x5).f3.f0) ((rd_T87 x1 x5).f3.f1) ((rd_T87 x1 x5).f3.f2) ((rd_T87 x1 x5).f3.f3) ((rd_T87 x1 x5).f3.f4)).bind fun t647 => (if t647 = true then (laws_eqBoxS.l0 k x0 x1 (wrap64 (x5 + 1))) else (some false))) else (none)) else (none)) else (some true)
def laws_eqBoxS.f (k : Nat) (l0 : List (S87)) (l1 : List (S87)) : Option (Bool):=if (l0.length : Int) = (l1.length : Int) then (laws_eqBoxS.l0 k l0 l1 0) else (some false)
def laws_eqBoxS.T6 : Bool × List (List Nat × List Nat):=(true, [([], []),([], []),([0,1], [0,1]),([2], [2]),([], []),([], []),([4,5], [4,5]),([6], [6]),([3,7], [3,7]),([8], [8])])
def laws_eqBoxS.B6 : List Nat := [0,0,3,7,0,0,48,112,255,511]
theorem laws_eqBoxS.tab6 : rtab .any (opsOf Try.f66 6) = laws_eqBoxS.T6:=by kernel_rfl
theorem laws_eqBoxS.bits6 : waitsOk laws_eqBoxS.T6.2 laws_eqBoxS.B6 = true:=by kernel_rfl
set_option maxHeartbeats 8000000 in
set_option maxRecDepth 100000 in
theorem laws_eqBoxS.calls (k : Nat) (A0 : Option Addr) (c0 : Nat) (l0 : List (S87)) (A1 : Option Addr) (c1 : Nat) (l1 : List (S87)) (r : Bool) (w : World) (hr0 : Kd.C k87 w A0 l0.length l0) (hc0 : l0.length ≤ c0) (hr1 : Kd.C k87 w A1 l1.length l1) (hc1 : l1.length ≤ c1) (h : laws_eqBoxS.f k l0 l1 = some r) :
  Calls Try.prog 66 #[.slice A0 l0.length c0, .slice A1 l1.length c1] w fun e w' => e = .returned (.bool r) ∧ Below w.heap.size w w':=by
 have hu87:=Try.underlying87
 have HR0:=Aside0.mk hr0
 have HC0:=Aside0.mk hc0
 clear hr0 hc0
 have HR1:=Aside0.mk hr1
 have HC1:=Aside0.mk hc1
 clear hr1 hc1
 have HB:=Aside0.mk (Below.refl w.heap.size w)
 have H : (if (l0.length : Int) = (l1.length : Int) then (laws_eqBoxS.l0 k l0 l1 0) else (some false)) = some r:=h
 clear h
 by_cases c3 : (l0.length : Int) = (l1.length : Int)
 ·rw [if_pos c3] at H
  have c3b0 : ((l0.length : Int) == (l1.length : Int)) = true:=beq_iff_eq.mpr c3
  have c3b1 : ((l0.length : Int) != (l1.length : Int)) = false:=bne_eq_false_iff_eq.mpr c3
  have c3b2 : (l0.length == l1.length) = true:=by first | simpa using c3 | (simp at c3 ⊢;omega)
  clear c3
  have H':=Aside0.mk H
  clear H
  go_enter Try.func66,Try.ntmps66
  go_wp2
  go_loopg [5] k (fun kq v5 w' => ∃ (x5_1 : Int),v5 = .int .i64 x5_1 ∧ Aside0 (laws_eqBoxS.l0 kq l0 l1 x5_1 = some r) ∧ Aside0 (kq ≤ k) ∧ Aside0 (Below w.heap.size w w'))
  case atStart => exact ⟨(0),(by first | rfl | (simp;done) | (simp [*];done)),H',⟨Nat.le_refl _⟩,⟨by repeat (first | (with_reducible first | exact HB.out | apply below_alloc | apply pw_below_drewN | apply below_drew1) | exact HB.out)⟩⟩
  case round =>
   clear H'
   try clear c1
   try clear p2
   try clear c3
   try clear c3b0
   try clear c3b1
   try clear c3b2
   obtain ⟨x5_1,rfl,HA,HK1,HB⟩:=hrel
   cases gk with
   | zero => exact absurd HA.out (by simp [laws_eqBoxS.l0])
   | succ k1 =>
    have H:=HA.out
    clear HA
    simp only [laws_eqBoxS.l0] at H
    by_cases c4 : x5_1 < (l0.length : Int)
    ·rw [if_pos c4] at H
     have c4b0 : decide (x5_1 < (l0.length : Int)) = true:=decide_eq_true c4
     clear c4
     by_cases c5 : 0 ≤ x5_1
     ·rw [if_pos c5] at H
      have c5b0 : decide (0 ≤ x5_1) = true:=decide_eq_true c5
      clear c5
      by_cases c6 : x5_1 < (l1.length : Int)
      ·rw [if_pos c6] at H
       have c6b0 : decide (x5_1 < (l1.length : Int)) = true:=decide_eq_true c6
       clear c6
       replace H:=Option.bind_eq_some_iff.mp H
       obtain ⟨t647,A70,H⟩:=H
       replace H : (if t647 = true then (laws_eqBoxS.l0 k1 l0 l1 (wrap64 (x5_1 + 1))) else (some false)) = some r:=H
       have A7:=Aside0.mk A70
       clear A70
       by_cases c8 : t647 = true
       ·subst c8
        have H1 : (laws_eqBoxS.l0 k1 l0 l1 (wrap64 (x5_1 + 1))) = some r:=by rw [if_pos rfl] at H;exact H
        clear H
        have H:=H1
        clear H1
        have H':=Aside0.mk H
        clear H
        try go_wp2
        have n0_:=Aside0.mk (below_drew1 HB.out)
        clear HB
        have HB:=n0_
        clear n0_
        have p645 : 0 ≤ (x5_1 : Int):=of_decide_eq_true (by first | (with_reducible assumption) | assumption)
        have q645 : x5_1 < (l0.length : Int):=of_decide_eq_true (by first | (with_reducible assumption) | assumption)
        obtain ⟨ad645,A645_7,c645_7,e645,hx645_0,hx645_1,hx645_2,hx645_3,hx645_4,hx645_5,hx645_6,hx645_7,hl645_7,hi645_7⟩:=at_T87 HR0.out x5_1 p645 q645
        have hw645_7:=hx645_7
        have hw645_6:=hx645_6
        have hw645_5:=hx645_5
        have hw645_4:=hx645_4
        have hw645_3:=hx645_3
        have hw645_2:=hx645_2
        have hw645_1:=hx645_1
        have hw645_0:=hx645_0
        cases e645
        replace hx645_0:=(HB.out.cell (World.block_lt_of_cell? w _ hx645_0)).trans hx645_0
        replace hx645_1:=(HB.out.cell (World.block_lt_of_cell? w _ hx645_1)).trans hx645_1
        replace hx645_2:=(HB.out.cell (World.block_lt_of_cell? w _ hx645_2)).trans hx645_2
        replace hx645_3:=(HB.out.cell (World.block_lt_of_cell? w _ hx645_3)).trans hx645_3
        replace hx645_4:=(HB.out.cell (World.block_lt_of_cell? w _ hx645_4)).trans hx645_4
        replace hx645_5:=(HB.out.cell (World.block_lt_of_cell? w _ hx645_5)).trans hx645_5
        replace hx645_6:=(HB.out.cell (World.block_lt_of_cell? w _ hx645_6)).trans hx645_6
        replace hx645_7:=(HB.out.cell (World.block_lt_of_cell? w _ hx645_7)).trans hx645_7
        have HR645_7:=Aside0.mk hi645_7
        have HC645_7:=Aside0.mk hl645_7
        clear hi645_7 hl645_7
        replace p645:=eq_true p645
        replace q645:=eq_true q645
        have p646 : 0 ≤ (x5_1 : Int):=of_decide_eq_true (by first | (with_reducible assumption) | assumption)
        have q646 : x5_1 < (l1.length : Int):=of_decide_eq_true (by first | (with_reducible assumption) | assumption)
        obtain ⟨ad646,A646_7,c646_7,e646,hx646_0,hx646_1,hx646_2,hx646_3,hx646_4,hx646_5,hx646_6,hx646_7,hl646_7,hi646_7⟩:=at_T87 HR1.out x5_1 p646 q646
        have hw646_7:=hx646_7
        have hw646_6:=hx646_6
        have hw646_5:=hx646_5
        have hw646_4:=hx646_4
        have hw646_3:=hx646_3
        have hw646_2:=hx646_2
        have hw646_1:=hx646_1
        have hw646_0:=hx646_0
        cases e646
        replace hx646_0:=(HB.out.cell (World.block_lt_of_cell? w _ hx646_0)).trans hx646_0
        replace hx646_1:=(HB.out.cell (World.block_lt_of_cell? w _ hx646_1)).trans hx646_1
        replace hx646_2:=(HB.out.cell (World.block_lt_of_cell? w _ hx646_2)).trans hx646_2
        replace hx646_3:=(HB.out.cell (World.block_lt_of_cell? w _ hx646_3)).trans hx646_3
        replace hx646_4:=(HB.out.cell (World.block_lt_of_cell? w _ hx646_4)).trans hx646_4
        replace hx646_5:=(HB.out.cell (World.block_lt_of_cell? w _ hx646_5)).trans hx646_5
        replace hx646_6:=(HB.out.cell (World.block_lt_of_cell? w _ hx646_6)).trans hx646_6
        replace hx646_7:=(HB.out.cell (World.block_lt_of_cell? w _ hx646_7)).trans hx646_7
        have HR646_7:=Aside0.mk hi646_7
        have HC646_7:=Aside0.mk hl646_7
        clear hi646_7 hl646_7
        replace p646:=eq_true p646
        replace q646:=eq_true q646
        refine start_ (n:=10) (S:=fun w' => w'.cell? (ad645.add ((x5_1).toNat * 8)) = some (.int .i64 ((rd_T87 l0 x5_1).f0)) ∧ w'.cell? ⟨(ad645.add ((x5_1).toNat * 8)).block,(ad645.add ((x5_1).toNat * 8)).off + 1,none⟩ = some (.int .i64 ((rd_T87 l0 x5_1).f1)) ∧ w'.cell? ⟨(ad645.add ((x5_1).toNat * 8)).block,(ad645.add ((x5_1).toNat * 8)).off + 2,none⟩ = some (.int .i64 ((rd_T87 l0 x5_1).f2)) ∧ w'.cell? ⟨(ad645.add ((x5_1).toNat * 8)).block,(ad645.add ((x5_1).toNat * 8)).off + 3,none⟩ = some (.bool ((rd_T87 l0 x5_1).f3.f0)) ∧ w'.cell? ⟨(ad645.add ((x5_1).toNat * 8)).block,(ad645.add ((x5_1).toNat * 8)).off + 4,none⟩ = some (.int .u32 ((rd_T87 l0 x5_1).f3.f1)) ∧ w'.cell? ⟨(ad645.add ((x5_1).toNat * 8)).block,(ad645.add ((x5_1).toNat * 8)).off + 5,none⟩ = some (.bool ((rd_T87 l0 x5_1).f3.f2)) ∧ w'.cell? ⟨(ad645.add ((x5_1).toNat * 8)).block,(ad645.add ((x5_1).toNat * 8)).off + 6,none⟩ = some (.int .i64 ((rd_T87 l0 x5_1).f3.f3)) ∧ w'.cell? ⟨(ad645.add ((x5_1).toNat * 8)).block,(ad645.add ((x5_1).toNat * 8)).off + 7,none⟩ = some (.slice A645_7 ((rd_T87 l0 x5_1).f3.f4).length c645_7) ∧ w'.cell? (ad646.add ((x5_1).toNat * 8)) = some (.int .i64 ((rd_T87 l1 x5_1).f0)) ∧ w'.cell? ⟨(ad646.add ((x5_1).toNat * 8)).block,(ad646.add ((x5_1).toNat * 8)).off + 1,none⟩ = some (.int .i64 ((rd_T87 l1 x5_1).f1)) ∧ w'.cell? ⟨(ad646.add ((x5_1).toNat * 8)).block,(ad646.add ((x5_1).toNat * 8)).off + 2,none⟩ = some (.int .i64 ((rd_T87 l1 x5_1).f2)) ∧ w'.cell? ⟨(ad646.add ((x5_1).toNat * 8)).block,(ad646.add ((x5_1).toNat * 8)).off + 3,none⟩ = some (.bool ((rd_T87 l1 x5_1).f3.f0)) ∧ w'.cell? ⟨(ad646.add ((x5_1).toNat * 8)).block,(ad646.add ((x5_1).toNat * 8)).off + 4,none⟩ = some (.int .u32 ((rd_T87 l1 x5_1).f3.f1)) ∧ w'.cell? ⟨(ad646.add ((x5_1).toNat * 8)).block,(ad646.add ((x5_1).toNat * 8)).off + 5,none⟩ = some (.bool ((rd_T87 l1 x5_1).f3.f2)) ∧ w'.cell? ⟨(ad646.add ((x5_1).toNat * 8)).block,(ad646.add ((x5_1).toNat * 8)).off + 6,none⟩ = some (.int .i64 ((rd_T87 l1 x5_1).f3.f3)) ∧ w'.cell? ⟨(ad646.add ((x5_1).toNat * 8)).block,(ad646.add ((x5_1).toNat * 8)).off + 7,none⟩ = some (.slice A646_7 ((rd_T87 l1 x5_1).f3.f4).length c646_7)) (ds := []) #[false,false,false,false,false,false,false,false,false,false] (by kernel_rfl) rfl rfl ⟨((HB.out.cell (World.block_lt_of_cell? w _ hw645_0)).trans hw645_0),((HB.out.cell (World.block_lt_of_cell? w _ hw645_1)).trans hw645_1),((HB.out.cell (World.block_lt_of_cell? w _ hw645_2)).trans hw645_2),((HB.out.cell (World.block_lt_of_cell? w _ hw645_3)).trans hw645_3),((HB.out.cell (World.block_lt_of_cell? w _ hw645_4)).trans hw645_4),((HB.out.cell (World.block_lt_of_cell? w _ hw645_5)).trans hw645_5),((HB.out.cell (World.block_lt_of_cell? w _ hw645_6)).trans hw645_6),((HB.out.cell (World.block_lt_of_cell? w _ hw645_7)).trans hw645_7),((HB.out.cell (World.block_lt_of_cell? w _ hw646_0)).trans hw646_0),((HB.out.cell (World.block_lt_of_cell? w _ hw646_1)).trans hw646_1),((HB.out.cell (World.block_lt_of_cell? w _ hw646_2)).trans hw646_2),((HB.out.cell (World.block_lt_of_cell? w _ hw646_3)).trans hw646_3),((HB.out.cell (World.block_lt_of_cell? w _ hw646_4)).trans hw646_4),((HB.out.cell (World.block_lt_of_cell? w _ hw646_5)).trans hw646_5),((HB.out.cell (World.block_lt_of_cell? w _ hw646_6)).trans hw646_6),((HB.out.cell (World.block_lt_of_cell? w _ hw646_7)).trans hw646_7)⟩ (fun hHeld => ?_);refine with_tabW laws_eqBoxS.tab6 laws_eqBoxS.bits6 (fun HT_ HW_ => ?_)
        generalize wr.drew = w9 at HB HR645_7 HR646_7 hx645_0 hx645_1 hx645_2 hx645_3 hx645_4 hx645_5 hx645_6 hx645_7 hx646_0 hx646_1 hx646_2 hx646_3 hx646_4 hx646_5 hx646_6 hx646_7 hHeld ⊢
        refine pure_ (i:=0) (N:=some 17) (v := ?_) (a' := ?_) #[true,false,false,false,false,false,false,false,false,false] rfl rfl (any_of HT_.out (by kernel_rfl)) (fun _ _ _ h => h) (Or.inl ⟨by rfl, ?_⟩) ?_ ?_
        rotate_left
        ·intro w'
         go_simp
         with_reducible rfl
        rotate_left
        ·simp only [Act.put,List.setIfInBounds_toArray,List.set_cons_zero,List.set_cons_succ,i64_w,i32_w]
         rfl
        refine pure_ (i:=1) (N:=some 18) (v := ?_) (a' := ?_) #[true,true,false,false,false,false,false,false,false,false] rfl rfl (any_of HT_.out (by kernel_rfl)) (fun _ _ _ h => h) (Or.inl ⟨by rfl, ?_⟩) ?_ ?_
        rotate_left
        ·intro w'
         go_simp
         with_reducible rfl
        rotate_left
        ·simp only [Act.put,List.setIfInBounds_toArray,List.set_cons_zero,List.set_cons_succ,i64_w,i32_w]
         rfl
        refine pure_ (i:=2) (N:=some 19) (v := ?_) (a' := ?_) #[true,true,true,false,false,false,false,false,false,false] rfl rfl (any_of HT_.out (by kernel_rfl)) (fun _ _ _ h => h) (Or.inl ⟨by rfl, ?_⟩) ?_ ?_
        rotate_left
        ·intro w'
         go_simp
         with_reducible rfl
        rotate_left
        ·simp only [Act.put,List.setIfInBounds_toArray,List.set_cons_zero,List.set_cons_succ,i64_w,i32_w]
         rfl
        refine pure_ (i:=4) (N:=some 21) (v := ?_) (a' := ?_) #[true,true,true,false,true,false,false,false,false,false] rfl rfl (any_of HT_.out (by kernel_rfl)) (fun _ _ _ h => h) (Or.inl ⟨by rfl, ?_⟩) ?_ ?_
        rotate_left
        ·intro w'
         go_simp
         with_reducible rfl
        rotate_left
        ·simp only [Act.put,List.setIfInBounds_toArray,List.set_cons_zero,List.set_cons_succ,i64_w,i32_w]
         rfl
        refine pure_ (i:=5) (N:=some 22) (v := ?_) (a' := ?_) #[true,true,true,false,true,true,false,false,false,false] rfl rfl (any_of HT_.out (by kernel_rfl)) (fun _ _ _ h => h) (Or.inl ⟨by rfl, ?_⟩) ?_ ?_
        rotate_left
        ·intro w'
         go_simp
         with_reducible rfl
        rotate_left
        ·simp only [Act.put,List.setIfInBounds_toArray,List.set_cons_zero,List.set_cons_succ,i64_w,i32_w]
         rfl
        refine pure_ (i:=6) (N:=some 23) (v := ?_) (a' := ?_) #[true,true,true,false,true,true,true,false,false,false] rfl rfl (any_of HT_.out (by kernel_rfl)) (fun _ _ _ h => h) (Or.inl ⟨by rfl, ?_⟩) ?_ ?_
        rotate_left
        ·intro w'
         go_simp
         with_reducible rfl
        rotate_left
        ·simp only [Act.put,List.setIfInBounds_toArray,List.set_cons_zero,List.set_cons_succ,i64_w,i32_w]
         rfl
        refine take_ (i:=3) (N:=some 20) (v := ?_) (a' := ?_) #[true,true,true,true,true,true,true,false,false,false] rfl rfl (take_ofW HT_.out HW_.out (by kernel_rfl)) (fun _ _ _ h => h) (Or.inl ⟨by rfl, ?_⟩) hHeld ?_ ?_
        rotate_left
        ·rintro w' ⟨s0,s1,s2,s3,s4,s5,s6,s7,s8,s9,s10,s11,s12,s13,s14,s15⟩
         go_simp
         with_reducible rfl
        rotate_left
        ·simp only [Act.put,List.setIfInBounds_toArray,List.set_cons_zero,List.set_cons_succ,i64_w,i32_w]
         rfl
        refine take_ (i:=7) (N:=some 24) (v := ?_) (a' := ?_) #[true,true,true,true,true,true,true,true,false,false] rfl rfl (take_ofW HT_.out HW_.out (by kernel_rfl)) (fun _ _ _ h => h) (Or.inl ⟨by rfl, ?_⟩) hHeld ?_ ?_
        rotate_left
        ·rintro w' ⟨s0,s1,s2,s3,s4,s5,s6,s7,s8,s9,s10,s11,s12,s13,s14,s15⟩
         go_simp
         with_reducible rfl
        rotate_left
        ·simp only [Act.put,List.setIfInBounds_toArray,List.set_cons_zero,List.set_cons_succ,i64_w,i32_w]
         rfl
        refine one_ (i:=8) (N:=some 25) #[true,true,true,true,true,true,true,true,true,false] rfl rfl (one_of HT_.out (by kernel_rfl)) (by decide) (fun K hK => ?_)
        refine goes_ Try.func112 (by kernel_rfl) rfl #[.agg #[.int .i64 ((rd_T87 l0 x5_1).f0), .int .i64 ((rd_T87 l0 x5_1).f1), .int .i64 ((rd_T87 l0 x5_1).f2), .bool ((rd_T87 l0 x5_1).f3.f0), .int .u32 ((rd_T87 l0 x5_1).f3.f1), .bool ((rd_T87 l0 x5_1).f3.f2), .int .i64 ((rd_T87 l0 x5_1).f3.f3), .slice A645_7 ((rd_T87 l0 x5_1).f3.f4).length c645_7], .agg #[.int .i64 ((rd_T87 l1 x5_1).f0), .int .i64 ((rd_T87 l1 x5_1).f1), .int .i64 ((rd_T87 l1 x5_1).f2), .bool ((rd_T87 l1 x5_1).f3.f0), .int .u32 ((rd_T87 l1 x5_1).f3.f1), .bool ((rd_T87 l1 x5_1).f3.f2), .int .i64 ((rd_T87 l1 x5_1).f3.f3), .slice A646_7 ((rd_T87 l1 x5_1).f3.f4).length c646_7]] (by rfl) rfl rfl (by (try simp only [List.map_toArray,List.map_cons,List.map_nil]);first | done | rfl | (simp only [List.length_drop,List.length_take];rfl)) ?_
        with_reducible refine (laws_eqBox.calls k1 ((rd_T87 l0 x5_1).f0) ((rd_T87 l0 x5_1).f1) ((rd_T87 l0 x5_1).f2) ((rd_T87 l0 x5_1).f3.f0) ((rd_T87 l0 x5_1).f3.f1) ((rd_T87 l0 x5_1).f3.f2) ((rd_T87 l0 x5_1).f3.f3) _ _ ((rd_T87 l0 x5_1).f3.f4) ((rd_T87 l1 x5_1).f0) ((rd_T87 l1 x5_1).f1) ((rd_T87 l1 x5_1).f2) ((rd_T87 l1 x5_1).f3.f0) ((rd_T87 l1 x5_1).f3.f1) ((rd_T87 l1 x5_1).f3.f2) ((rd_T87 l1 x5_1).f3.f3) _ _ ((rd_T87 l1 x5_1).f3.f4) true _ ?side1 ?side2 ?side3 ?side4 A7.out).mono ?_
        (case side1 => repeat (first | exact (Kd.C_below HR645_7.out HB.out) | (with_reducible refine Kd.C_alloc ?_ _) | (with_reducible refine Kd.C_drewN ?_ _) | (with_reducible refine Kd.C_drew ?_)))
        (case side2 => exact HC645_7.out)
        (case side3 => repeat (first | exact (Kd.C_below HR646_7.out HB.out) | (with_reducible refine Kd.C_alloc ?_ _) | (with_reducible refine Kd.C_drewN ?_ _) | (with_reducible refine Kd.C_drew ?_)))
        (case side4 => exact HC646_7.out)
        rintro e w10 ⟨rfl,hb⟩
        refine ⟨_,rfl, ?_⟩
        have n0_:=Aside0.mk (below_step (by repeat (first | (with_reducible first | exact HB.out | apply below_alloc | apply pw_below_drewN | apply below_drew1) | exact HB.out)) hb)
        clear HB
        have HB:=n0_
        clear n0_
        (try clear hb)
        (try clear hb2)
        (try clear hk)
        (try clear hi)
        refine hK.out _ _ ⟨((HB.out.cell (World.block_lt_of_cell? w _ hw645_0)).trans hw645_0),((HB.out.cell (World.block_lt_of_cell? w _ hw645_1)).trans hw645_1),((HB.out.cell (World.block_lt_of_cell? w _ hw645_2)).trans hw645_2),((HB.out.cell (World.block_lt_of_cell? w _ hw645_3)).trans hw645_3),((HB.out.cell (World.block_lt_of_cell? w _ hw645_4)).trans hw645_4),((HB.out.cell (World.block_lt_of_cell? w _ hw645_5)).trans hw645_5),((HB.out.cell (World.block_lt_of_cell? w _ hw645_6)).trans hw645_6),((HB.out.cell (World.block_lt_of_cell? w _ hw645_7)).trans hw645_7),((HB.out.cell (World.block_lt_of_cell? w _ hw646_0)).trans hw646_0),((HB.out.cell (World.block_lt_of_cell? w _ hw646_1)).trans hw646_1),((HB.out.cell (World.block_lt_of_cell? w _ hw646_2)).trans hw646_2),((HB.out.cell (World.block_lt_of_cell? w _ hw646_3)).trans hw646_3),((HB.out.cell (World.block_lt_of_cell? w _ hw646_4)).trans hw646_4),((HB.out.cell (World.block_lt_of_cell? w _ hw646_5)).trans hw646_5),((HB.out.cell (World.block_lt_of_cell? w _ hw646_6)).trans hw646_6),((HB.out.cell (World.block_lt_of_cell? w _ hw646_7)).trans hw646_7)⟩ (fun hHeld => ?_)
        clear hK K
        refine norm_ (a' := ?_) ?_ ?_
        rotate_left
        ·show Act.put _ (some 25) _ = _
         simp only [Act.put,List.setIfInBounds_toArray,List.set_cons_zero,List.set_cons_succ,i64_w,i32_w]
         rfl
        refine pure_ (i:=9) (N:=some 26) (v := ?_) (a' := ?_) #[true,true,true,true,true,true,true,true,true,true] rfl rfl (any_of HT_.out (by kernel_rfl)) (fun _ _ _ h => h) (Or.inl ⟨by rfl, ?_⟩) ?_ ?_
        rotate_left
        ·intro w'
         go_simp
         with_reducible rfl
        rotate_left
        ·simp only [Act.put,List.setIfInBounds_toArray,List.set_cons_zero,List.set_cons_succ,i64_w,i32_w]
         rfl
        refine done_ (done_of HT_.out (by kernel_rfl)) ?_
        try go_wp2
        go_roundg k1
        case measure => have:=HK1.out;omega
        case rel => exact ⟨(wrap64 (x5_1 + 1)),(by first | rfl | (simp;done) | (simp [*];done)),H',⟨by have:=HK1.out;omega⟩,⟨by repeat (first | (with_reducible first | exact HB.out | apply below_alloc | apply pw_below_drewN | apply below_drew1) | exact HB.out)⟩⟩
       ·replace c8:=Bool.eq_false_iff.mpr c8
        subst c8
        have H1 : (some false) = some r:=by rw [if_neg (show ¬ (false = true) by decide)] at H;exact H
        clear H
        have H:=H1
        clear H1
        obtain rfl:=Option.some.inj H
        try go_wp2
        have n0_:=Aside0.mk (below_drew1 HB.out)
        clear HB
        have HB:=n0_
        clear n0_
        have p645 : 0 ≤ (x5_1 : Int):=of_decide_eq_true (by first | (with_reducible assumption) | assumption)
        have q645 : x5_1 < (l0.length : Int):=of_decide_eq_true (by first | (with_reducible assumption) | assumption)
        obtain ⟨ad645,A645_7,c645_7,e645,hx645_0,hx645_1,hx645_2,hx645_3,hx645_4,hx645_5,hx645_6,hx645_7,hl645_7,hi645_7⟩:=at_T87 HR0.out x5_1 p645 q645
        have hw645_7:=hx645_7
        have hw645_6:=hx645_6
        have hw645_5:=hx645_5
        have hw645_4:=hx645_4
        have hw645_3:=hx645_3
        have hw645_2:=hx645_2
        have hw645_1:=hx645_1
        have hw645_0:=hx645_0
        cases e645
        replace hx645_0:=(HB.out.cell (World.block_lt_of_cell? w _ hx645_0)).trans hx645_0
        replace hx645_1:=(HB.out.cell (World.block_lt_of_cell? w _ hx645_1)).trans hx645_1
        replace hx645_2:=(HB.out.cell (World.block_lt_of_cell? w _ hx645_2)).trans hx645_2
        replace hx645_3:=(HB.out.cell (World.block_lt_of_cell? w _ hx645_3)).trans hx645_3
        replace hx645_4:=(HB.out.cell (World.block_lt_of_cell? w _ hx645_4)).trans hx645_4
        replace hx645_5:=(HB.out.cell (World.block_lt_of_cell? w _ hx645_5)).trans hx645_5
        replace hx645_6:=(HB.out.cell (World.block_lt_of_cell? w _ hx645_6)).trans hx645_6
        replace hx645_7:=(HB.out.cell (World.block_lt_of_cell? w _ hx645_7)).trans hx645_7
        have HR645_7:=Aside0.mk hi645_7
        have HC645_7:=Aside0.mk hl645_7
        clear hi645_7 hl645_7
        replace p645:=eq_true p645
        replace q645:=eq_true q645
        have p646 : 0 ≤ (x5_1 : Int):=of_decide_eq_true (by first | (with_reducible assumption) | assumption)
        have q646 : x5_1 < (l1.length : Int):=of_decide_eq_true (by first | (with_reducible assumption) | assumption)
        obtain ⟨ad646,A646_7,c646_7,e646,hx646_0,hx646_1,hx646_2,hx646_3,hx646_4,hx646_5,hx646_6,hx646_7,hl646_7,hi646_7⟩:=at_T87 HR1.out x5_1 p646 q646
        have hw646_7:=hx646_7
        have hw646_6:=hx646_6
        have hw646_5:=hx646_5
        have hw646_4:=hx646_4
        have hw646_3:=hx646_3
        have hw646_2:=hx646_2
        have hw646_1:=hx646_1
        have hw646_0:=hx646_0
        cases e646
        replace hx646_0:=(HB.out.cell (World.block_lt_of_cell? w _ hx646_0)).trans hx646_0
        replace hx646_1:=(HB.out.cell (World.block_lt_of_cell? w _ hx646_1)).trans hx646_1
        replace hx646_2:=(HB.out.cell (World.block_lt_of_cell? w _ hx646_2)).trans hx646_2
        replace hx646_3:=(HB.out.cell (World.block_lt_of_cell? w _ hx646_3)).trans hx646_3
        replace hx646_4:=(HB.out.cell (World.block_lt_of_cell? w _ hx646_4)).trans hx646_4
        replace hx646_5:=(HB.out.cell (World.block_lt_of_cell? w _ hx646_5)).trans hx646_5
        replace hx646_6:=(HB.out.cell (World.block_lt_of_cell? w _ hx646_6)).trans hx646_6
        replace hx646_7:=(HB.out.cell (World.block_lt_of_cell? w _ hx646_7)).trans hx646_7
        have HR646_7:=Aside0.mk hi646_7
        have HC646_7:=Aside0.mk hl646_7
        clear hi646_7 hl646_7
        replace p646:=eq_true p646
        replace q646:=eq_true q646
        refine start_ (n:=10) (S:=fun w' => w'.cell? (ad645.add ((x5_1).toNat * 8)) = some (.int .i64 ((rd_T87 l0 x5_1).f0)) ∧ w'.cell? ⟨(ad645.add ((x5_1).toNat * 8)).block,(ad645.add ((x5_1).toNat * 8)).off + 1,none⟩ = some (.int .i64 ((rd_T87 l0 x5_1).f1)) ∧ w'.cell? ⟨(ad645.add ((x5_1).toNat * 8)).block,(ad645.add ((x5_1).toNat * 8)).off + 2,none⟩ = some (.int .i64 ((rd_T87 l0 x5_1).f2)) ∧ w'.cell? ⟨(ad645.add ((x5_1).toNat * 8)).block,(ad645.add ((x5_1).toNat * 8)).off + 3,none⟩ = some (.bool ((rd_T87 l0 x5_1).f3.f0)) ∧ w'.cell? ⟨(ad645.add ((x5_1).toNat * 8)).block,(ad645.add ((x5_1).toNat * 8)).off + 4,none⟩ = some (.int .u32 ((rd_T87 l0 x5_1).f3.f1)) ∧ w'.cell? ⟨(ad645.add ((x5_1).toNat * 8)).block,(ad645.add ((x5_1).toNat * 8)).off + 5,none⟩ = some (.bool ((rd_T87 l0 x5_1).f3.f2)) ∧ w'.cell? ⟨(ad645.add ((x5_1).toNat * 8)).block,(ad645.add ((x5_1).toNat * 8)).off + 6,none⟩ = some (.int .i64 ((rd_T87 l0 x5_1).f3.f3)) ∧ w'.cell? ⟨(ad645.add ((x5_1).toNat * 8)).block,(ad645.add ((x5_1).toNat * 8)).off + 7,none⟩ = some (.slice A645_7 ((rd_T87 l0 x5_1).f3.f4).length c645_7) ∧ w'.cell? (ad646.add ((x5_1).toNat * 8)) = some (.int .i64 ((rd_T87 l1 x5_1).f0)) ∧ w'.cell? ⟨(ad646.add ((x5_1).toNat * 8)).block,(ad646.add ((x5_1).toNat * 8)).off + 1,none⟩ = some (.int .i64 ((rd_T87 l1 x5_1).f1)) ∧ w'.cell? ⟨(ad646.add ((x5_1).toNat * 8)).block,(ad646.add ((x5_1).toNat * 8)).off + 2,none⟩ = some (.int .i64 ((rd_T87 l1 x5_1).f2)) ∧ w'.cell? ⟨(ad646.add ((x5_1).toNat * 8)).block,(ad646.add ((x5_1).toNat * 8)).off + 3,none⟩ = some (.bool ((rd_T87 l1 x5_1).f3.f0)) ∧ w'.cell? ⟨(ad646.add ((x5_1).toNat * 8)).block,(ad646.add ((x5_1).toNat * 8)).off + 4,none⟩ = some (.int .u32 ((rd_T87 l1 x5_1).f3.f1)) ∧ w'.cell? ⟨(ad646.add ((x5_1).toNat * 8)).block,(ad646.add ((x5_1).toNat * 8)).off + 5,none⟩ = some (.bool ((rd_T87 l1 x5_1).f3.f2)) ∧ w'.cell? ⟨(ad646.add ((x5_1).toNat * 8)).block,(ad646.add ((x5_1).toNat * 8)).off + 6,none⟩ = some (.int .i64 ((rd_T87 l1 x5_1).f3.f3)) ∧ w'.cell? ⟨(ad646.add ((x5_1).toNat * 8)).block,(ad646.add ((x5_1).toNat * 8)).off + 7,none⟩ = some (.slice A646_7 ((rd_T87 l1 x5_1).f3.f4).length c646_7)) (ds := []) #[false,false,false,false,false,false,false,false,false,false] (by kernel_rfl) rfl rfl ⟨((HB.out.cell (World.block_lt_of_cell? w _ hw645_0)).trans hw645_0),((HB.out.cell (World.block_lt_of_cell? w _ hw645_1)).trans hw645_1),((HB.out.cell (World.block_lt_of_cell? w _ hw645_2)).trans hw645_2),((HB.out.cell (World.block_lt_of_cell? w _ hw645_3)).trans hw645_3),((HB.out.cell (World.block_lt_of_cell? w _ hw645_4)).trans hw645_4),((HB.out.cell (World.block_lt_of_cell? w _ hw645_5)).trans hw645_5),((HB.out.cell (World.block_lt_of_cell? w _ hw645_6)).trans hw645_6),((HB.out.cell (World.block_lt_of_cell? w _ hw645_7)).trans hw645_7),((HB.out.cell (World.block_lt_of_cell? w _ hw646_0)).trans hw646_0),((HB.out.cell (World.block_lt_of_cell? w _ hw646_1)).trans hw646_1),((HB.out.cell (World.block_lt_of_cell? w _ hw646_2)).trans hw646_2),((HB.out.cell (World.block_lt_of_cell? w _ hw646_3)).trans hw646_3),((HB.out.cell (World.block_lt_of_cell? w _ hw646_4)).trans hw646_4),((HB.out.cell (World.block_lt_of_cell? w _ hw646_5)).trans hw646_5),((HB.out.cell (World.block_lt_of_cell? w _ hw646_6)).trans hw646_6),((HB.out.cell (World.block_lt_of_cell? w _ hw646_7)).trans hw646_7)⟩ (fun hHeld => ?_);refine with_tabW laws_eqBoxS.tab6 laws_eqBoxS.bits6 (fun HT_ HW_ => ?_)
        generalize wr.drew = w11 at HB HR645_7 HR646_7 hx645_0 hx645_1 hx645_2 hx645_3 hx645_4 hx645_5 hx645_6 hx645_7 hx646_0 hx646_1 hx646_2 hx646_3 hx646_4 hx646_5 hx646_6 hx646_7 hHeld ⊢
        refine pure_ (i:=0) (N:=some 17) (v := ?_) (a' := ?_) #[true,false,false,false,false,false,false,false,false,false] rfl rfl (any_of HT_.out (by kernel_rfl)) (fun _ _ _ h => h) (Or.inl ⟨by rfl, ?_⟩) ?_ ?_
        rotate_left
        ·intro w'
         go_simp
         with_reducible rfl
        rotate_left
        ·simp only [Act.put,List.setIfInBounds_toArray,List.set_cons_zero,List.set_cons_succ,i64_w,i32_w]
         rfl
        refine pure_ (i:=1) (N:=some 18) (v := ?_) (a' := ?_) #[true,true,false,false,false,false,false,false,false,false] rfl rfl (any_of HT_.out (by kernel_rfl)) (fun _ _ _ h => h) (Or.inl ⟨by rfl, ?_⟩) ?_ ?_
        rotate_left
        ·intro w'
         go_simp
         with_reducible rfl
        rotate_left
        ·simp only [Act.put,List.setIfInBounds_toArray,List.set_cons_zero,List.set_cons_succ,i64_w,i32_w]
         rfl
        refine pure_ (i:=2) (N:=some 19) (v := ?_) (a' := ?_) #[true,true,true,false,false,false,false,false,false,false] rfl rfl (any_of HT_.out (by kernel_rfl)) (fun _ _ _ h => h) (Or.inl ⟨by rfl, ?_⟩) ?_ ?_
        rotate_left
        ·intro w'
         go_simp
         with_reducible rfl
        rotate_left
        ·simp only [Act.put,List.setIfInBounds_toArray,List.set_cons_zero,List.set_cons_succ,i64_w,i32_w]
         rfl
        refine pure_ (i:=4) (N:=some 21) (v := ?_) (a' := ?_) #[true,true,true,false,true,false,false,false,false,false] rfl rfl (any_of HT_.out (by kernel_rfl)) (fun _ _ _ h => h) (Or.inl ⟨by rfl, ?_⟩) ?_ ?_
        rotate_left
        ·intro w'
         go_simp
         with_reducible rfl
        rotate_left
        ·simp only [Act.put,List.setIfInBounds_toArray,List.set_cons_zero,List.set_cons_succ,i64_w,i32_w]
         rfl
        refine pure_ (i:=5) (N:=some 22) (v := ?_) (a' := ?_) #[true,true,true,false,true,true,false,false,false,false] rfl rfl (any_of HT_.out (by kernel_rfl)) (fun _ _ _ h => h) (Or.inl ⟨by rfl, ?_⟩) ?_ ?_
        rotate_left
        ·intro w'
         go_simp
         with_reducible rfl
        rotate_left
        ·simp only [Act.put,List.setIfInBounds_toArray,List.set_cons_zero,List.set_cons_succ,i64_w,i32_w]
         rfl
        refine pure_ (i:=6) (N:=some 23) (v := ?_) (a' := ?_) #[true,true,true,false,true,true,true,false,false,false] rfl rfl (any_of HT_.out (by kernel_rfl)) (fun _ _ _ h => h) (Or.inl ⟨by rfl, ?_⟩) ?_ ?_
        rotate_left
        ·intro w'
         go_simp
         with_reducible rfl
        rotate_left
        ·simp only [Act.put,List.setIfInBounds_toArray,List.set_cons_zero,List.set_cons_succ,i64_w,i32_w]
         rfl
        refine take_ (i:=3) (N:=some 20) (v := ?_) (a' := ?_) #[true,true,true,true,true,true,true,false,false,false] rfl rfl (take_ofW HT_.out HW_.out (by kernel_rfl)) (fun _ _ _ h => h) (Or.inl ⟨by rfl, ?_⟩) hHeld ?_ ?_
        rotate_left
        ·rintro w' ⟨s0,s1,s2,s3,s4,s5,s6,s7,s8,s9,s10,s11,s12,s13,s14,s15⟩
         go_simp
         with_reducible rfl
        rotate_left
        ·simp only [Act.put,List.setIfInBounds_toArray,List.set_cons_zero,List.set_cons_succ,i64_w,i32_w]
         rfl
        refine take_ (i:=7) (N:=some 24) (v := ?_) (a' := ?_) #[true,true,true,true,true,true,true,true,false,false] rfl rfl (take_ofW HT_.out HW_.out (by kernel_rfl)) (fun _ _ _ h => h) (Or.inl ⟨by rfl, ?_⟩) hHeld ?_ ?_
        rotate_left
        ·rintro w' ⟨s0,s1,s2,s3,s4,s5,s6,s7,s8,s9,s10,s11,s12,s13,s14,s15⟩
         go_simp
         with_reducible rfl
        rotate_left
        ·simp only [Act.put,List.setIfInBounds_toArray,List.set_cons_zero,List.set_cons_succ,i64_w,i32_w]
         rfl
        refine one_ (i:=8) (N:=some 25) #[true,true,true,true,true,true,true,true,true,false] rfl rfl (one_of HT_.out (by kernel_rfl)) (by decide) (fun K hK => ?_)
        refine goes_ Try.func112 (by kernel_rfl) rfl #[.agg #[.int .i64 ((rd_T87 l0 x5_1).f0), .int .i64 ((rd_T87 l0 x5_1).f1), .int .i64 ((rd_T87 l0 x5_1).f2), .bool ((rd_T87 l0 x5_1).f3.f0), .int .u32 ((rd_T87 l0 x5_1).f3.f1), .bool ((rd_T87 l0 x5_1).f3.f2), .int .i64 ((rd_T87 l0 x5_1).f3.f3), .slice A645_7 ((rd_T87 l0 x5_1).f3.f4).length c645_7], .agg #[.int .i64 ((rd_T87 l1 x5_1).f0), .int .i64 ((rd_T87 l1 x5_1).f1), .int .i64 ((rd_T87 l1 x5_1).f2), .bool ((rd_T87 l1 x5_1).f3.f0), .int .u32 ((rd_T87 l1 x5_1).f3.f1), .bool ((rd_T87 l1 x5_1).f3.f2), .int .i64 ((rd_T87 l1 x5_1).f3.f3), .slice A646_7 ((rd_T87 l1 x5_1).f3.f4).length c646_7]] (by rfl) rfl rfl (by (try simp only [List.map_toArray,List.map_cons,List.map_nil]);first | done | rfl | (simp only [List.length_drop,List.length_take];rfl)) ?_
        with_reducible refine (laws_eqBox.calls k1 ((rd_T87 l0 x5_1).f0) ((rd_T87 l0 x5_1).f1) ((rd_T87 l0 x5_1).f2) ((rd_T87 l0 x5_1).f3.f0) ((rd_T87 l0 x5_1).f3.f1) ((rd_T87 l0 x5_1).f3.f2) ((rd_T87 l0 x5_1).f3.f3) _ _ ((rd_T87 l0 x5_1).f3.f4) ((rd_T87 l1 x5_1).f0) ((rd_T87 l1 x5_1).f1) ((rd_T87 l1 x5_1).f2) ((rd_T87 l1 x5_1).f3.f0) ((rd_T87 l1 x5_1).f3.f1) ((rd_T87 l1 x5_1).f3.f2) ((rd_T87 l1 x5_1).f3.f3) _ _ ((rd_T87 l1 x5_1).f3.f4) false _ ?side1 ?side2 ?side3 ?side4 A7.out).mono ?_
        (case side1 => repeat (first | exact (Kd.C_below HR645_7.out HB.out) | (with_reducible refine Kd.C_alloc ?_ _) | (with_reducible refine Kd.C_drewN ?_ _) | (with_reducible refine Kd.C_drew ?_)))
        (case side2 => exact HC645_7.out)
        (case side3 => repeat (first | exact (Kd.C_below HR646_7.out HB.out) | (with_reducible refine Kd.C_alloc ?_ _) | (with_reducible refine Kd.C_drewN ?_ _) | (with_reducible refine Kd.C_drew ?_)))
        (case side4 => exact HC646_7.out)
        rintro e w12 ⟨rfl,hb⟩
        refine ⟨_,rfl, ?_⟩
        have n0_:=Aside0.mk (below_step (by repeat (first | (with_reducible first | exact HB.out | apply below_alloc | apply pw_below_drewN | apply below_drew1) | exact HB.out)) hb)
        clear HB
        have HB:=n0_
        clear n0_
        (try clear hb)
        (try clear hb2)
        (try clear hk)
        (try clear hi)
        refine hK.out _ _ ⟨((HB.out.cell (World.block_lt_of_cell? w _ hw645_0)).trans hw645_0),((HB.out.cell (World.block_lt_of_cell? w _ hw645_1)).trans hw645_1),((HB.out.cell (World.block_lt_of_cell? w _ hw645_2)).trans hw645_2),((HB.out.cell (World.block_lt_of_cell? w _ hw645_3)).trans hw645_3),((HB.out.cell (World.block_lt_of_cell? w _ hw645_4)).trans hw645_4),((HB.out.cell (World.block_lt_of_cell? w _ hw645_5)).trans hw645_5),((HB.out.cell (World.block_lt_of_cell? w _ hw645_6)).trans hw645_6),((HB.out.cell (World.block_lt_of_cell? w _ hw645_7)).trans hw645_7),((HB.out.cell (World.block_lt_of_cell? w _ hw646_0)).trans hw646_0),((HB.out.cell (World.block_lt_of_cell? w _ hw646_1)).trans hw646_1),((HB.out.cell (World.block_lt_of_cell? w _ hw646_2)).trans hw646_2),((HB.out.cell (World.block_lt_of_cell? w _ hw646_3)).trans hw646_3),((HB.out.cell (World.block_lt_of_cell? w _ hw646_4)).trans hw646_4),((HB.out.cell (World.block_lt_of_cell? w _ hw646_5)).trans hw646_5),((HB.out.cell (World.block_lt_of_cell? w _ hw646_6)).trans hw646_6),((HB.out.cell (World.block_lt_of_cell? w _ hw646_7)).trans hw646_7)⟩ (fun hHeld => ?_)
        clear hK K
        refine norm_ (a' := ?_) ?_ ?_
        rotate_left
        ·show Act.put _ (some 25) _ = _
         simp only [Act.put,List.setIfInBounds_toArray,List.set_cons_zero,List.set_cons_succ,i64_w,i32_w]
         rfl
        refine pure_ (i:=9) (N:=some 26) (v := ?_) (a' := ?_) #[true,true,true,true,true,true,true,true,true,true] rfl rfl (any_of HT_.out (by kernel_rfl)) (fun _ _ _ h => h) (Or.inl ⟨by rfl, ?_⟩) ?_ ?_
        rotate_left
        ·intro w'
         go_simp
         with_reducible rfl
        rotate_left
        ·simp only [Act.put,List.setIfInBounds_toArray,List.set_cons_zero,List.set_cons_succ,i64_w,i32_w]
         rfl
        refine done_ (done_of HT_.out (by kernel_rfl)) ?_
        try go_wp2
        go_ret
        exact ⟨by first | rfl | (simp [errW_none,errW_some] <;> rfl) | (simp [*,errW_none,errW_some] <;> rfl),by repeat (first | (with_reducible first | exact HB.out | apply below_alloc | apply pw_below_drewN | apply below_drew1) | exact HB.out)⟩
      ·rw [if_neg c6] at H
       exact absurd H (by simp)
     ·rw [if_neg c5] at H
      exact absurd H (by simp)
    ·rw [if_neg c4] at H
     have c4b0 : decide (x5_1 < (l0.length : Int)) = false:=decide_eq_false c4
     clear c4
     obtain rfl:=Option.some.inj H
     go_wp2
     go_ret
     exact ⟨by first | rfl | (simp [errW_none,errW_some] <;> rfl) | (simp [*,errW_none,errW_some] <;> rfl),by repeat (first | (with_reducible first | exact HB.out | apply below_alloc | apply pw_below_drewN | apply below_drew1) | exact HB.out)⟩
 ·rw [if_neg c3] at H
  have c3b0 : ((l0.length : Int) == (l1.length : Int)) = false:=beq_eq_false_iff_ne.mpr c3
  have c3b1 : ((l0.length : Int) != (l1.length : Int)) = true:=bne_iff_ne.mpr c3
  have c3b2 : (l0.length == l1.length) = false:=by first | simpa using c3 | (simp at c3 ⊢;omega)
  obtain rfl:=Option.some.inj H
  go_enter Try.func66,Try.ntmps66
  go_wp2
  go_ret
  exact ⟨by first | rfl | (simp [errW_none,errW_some] <;> rfl) | (simp [*,errW_none,errW_some] <;> rfl),by repeat (first | (with_reducible first | exact HB.out | apply below_alloc | apply pw_below_drewN | apply below_drew1) | exact HB.out)⟩
def laws_szEvent.f (a0_0 : Int) (a0_1 : Int) (a0_2 : Int) (a0_3 : Bool) (a0_4 : Int) (a0_5 : Bool) (a0_6 : Int) (l0_7 : List Int) (a1 : Int) : Option (Int):=(laws_szFrame.f a0_3 a0_4 a0_5 a0_6 l0_7 a1).bind fun t667 => (if t667 < 0 then (some (-1)) else (some t667))
def laws_szEventS.l0 : Nat → List (S144) → Int → Int → Option (Int)
 | 0,_,_,_ => none
 | k + 1,x0,x1,x5 => if x5 < (x0.length : Int) then (if 0 ≤ x5 then ((laws_szEvent.f ((rd_T144 x0 x5).f0) ((rd_T144 x0 x5).f1) ((rd_T144 x0 x5).f2) ((rd_T144 x0 x5).f3.f0) ((rd_T144 x0 x5).f3.f1) ((rd_T144 x0 x5).f3.f2) ((rd_T144 x0 x5).f3.f3) ((rd_T144 x0 x5).f3.f4) x1).bind fun t669 => (if t669 < 0 then (some (-1)) else (laws_szEventS.l0 k x0 t669 (wrap64 (x5 + 1))))) else (none)) else (some x1)
def laws_toEvent.f (k : Nat) (a0_0 : Int) (a0_1 : Int) (a0_2 : Int) (a0_3 : Bool) (a0_4 : Int) (a0_5 : Bool) (a0_6 : Int) (l0_7 : List Int) : Option (Int × Int × Int × Bool × Int × Bool × Int × List Int):=(laws_toFrame.f k a0_3 a0_4 a0_5 a0_6 l0_7).bind fun bt740 => (some (a0_0,a0_1,a0_2,bt740.1,bt740.2.1,bt740.2.2.1,bt740.2.2.2.1,bt740.2.2.2.2))
def laws_toEventS.l0 : Nat → List (S144) → List (S56) → Int → Option ((List (S56)))
 | 0,_,_,_ => none
 | k + 1,x0,x3,x4 => if x4 < (x0.length : Int) then (if 0 ≤ x4 then ((laws_toEvent.f k ((rd_T144 x0 x4).f0) ((rd_T144 x0 x4).f1) ((rd_T144 x0 x4).f2) ((rd_T144 x0 x4).f3.f0) ((rd_T144 x0 x4).f3.f1) ((rd_T144 x0 x4).f3.f2) ((rd_T144 x0 x4).f3.f3) ((rd_T144 x0 x4).f3.f4)).bind fun bt751 => (if x4 < (x3.length : Int) then (laws_toEventS.l0 k x0 (x3.set (x4 : Int).toNat (⟨bt751.1,bt751.2.1,bt751.2.2.1,(⟨bt751.2.2.2.1,bt751.2.2.2.2.1,bt751.2.2.2.2.2.1,bt751.2.2.2.2.2.2.1,bt751.2.2.2.2.2.2.2⟩ : S45)⟩ : S56)) (wrap64 (x4 + 1))) else (none))) else (none)) else (some x3)
def laws_eqEvent.f (k : Nat) (a0_0 : Int) (a0_1 : Int) (a0_2 : Int) (a0_3 : Bool) (a0_4 : Int) (a0_5 : Bool) (a0_6 : Int) (l0_7 : List Int) (a1_0 : Int) (a1_1 : Int) (a1_2 : Int) (a1_3 : Bool) (a1_4 : Int) (a1_5 : Bool) (a1_6 : Int) (l1_7 : List Int) : Option (Bool):=if a0_0 = a1_0 then (if a0_1 = a1_1 then (if a0_2 = a1_2 then ((laws_eqFrame.f k a0_3 a0_4 a0_5 a0_6 l0_7 a1_3 a1_4 a1_5 a1_6 l1_7).bind fun t636 => (if t636 = true then (some true) else (some false))) else (some false)) else (some false)) else (some false)
set_option maxHeartbeats 8000000 in
set_option maxRecDepth 100000 in
theorem laws_eqEvent.calls (k : Nat) (a0_0 : Int) (a0_1 : Int) (a0_2 : Int) (a0_3 : Bool) (a0_4 : Int) (a0_5 : Bool) (a0_6 : Int) (A0_7 : Option Addr) (c0_7 : Nat) (l0_7 : List Int) (a1_0 : Int) (a1_1 : Int) (a1_2 : Int) (a1_3 : Bool) (a1_4 : Int) (a1_5 : Bool) (a1_6 : Int) (A1_7 : Option Addr) (c1_7 : Nat) (l1_7 : List Int) (r : Bool) (w : World) (hr0_7 : Kd.C (Kd.int .u8) w A0_7 l0_7.length l0_7) (hc0_7 : l0_7.length ≤ c0_7) (hr1_7 : Kd.C (Kd.int .u8) w A1_7 l1_7.length l1_7) (hc1_7 : l1_7.length ≤ c1_7) (h : laws_eqEvent.f k a0_0 a0_1 a0_2 a0_3 a0_4 a0_5 a0_6 l0_7 a1_0 a1_1 a1_2 a1_3 a1_4 a1_5 a1_6 l1_7 = some r) :
  Calls Try.prog 98 #[.agg #[.int .i64 a0_0, .int .i64 a0_1, .int .i64 a0_2, .bool a0_3, .int .u32 a0_4, .bool a0_5, .int .i64 a0_6, .slice A0_7 l0_7.length c0_7], .agg #[.int .i64 a1_0, .int .i64 a1_1, .int .i64 a1_2, .bool a1_3, .int .u32 a1_4, .bool a1_5, .int .i64 a1_6, .slice A1_7 l1_7.length c1_7]] w fun e w' => e = .returned (.bool r) ∧ Below w.heap.size w w':=by
 have hu56:=Try.underlying56
 have hu45:=Try.underlying45
 have HR0_7:=Aside0.mk hr0_7
 have HC0_7:=Aside0.mk hc0_7
 clear hr0_7 hc0_7
 have HR1_7:=Aside0.mk hr1_7
 have HC1_7:=Aside0.mk hc1_7
 clear hr1_7 hc1_7
 have HB:=Aside0.mk (Below.refl w.heap.size w)
 have H : (if a0_0 = a1_0 then (if a0_1 = a1_1 then (if a0_2 = a1_2 then ((laws_eqFrame.f k a0_3 a0_4 a0_5 a0_6 l0_7 a1_3 a1_4 a1_5 a1_6 l1_7).bind fun t636 => (if t636 = true then (some true) else (some false))) else (some false)) else (some false)) else (some false)) = some r:=h
 clear h
 by_cases c3 : a0_0 = a1_0
 ·rw [if_pos c3] at H
  have c3b0 : (a0_0 == a1_0) = true:=beq_iff_eq.mpr c3
  have c3b1 : (a0_0 != a1_0) = false:=bne_eq_false_iff_eq.mpr c3
  clear c3
  by_cases c4 : a0_1 = a1_1
  ·rw [if_pos c4] at H
   have c4b0 : (a0_1 == a1_1) = true:=beq_iff_eq.mpr c4
   have c4b1 : (a0_1 != a1_1) = false:=bne_eq_false_iff_eq.mpr c4
   clear c4
   by_cases c5 : a0_2 = a1_2
   ·rw [if_pos c5] at H
    have c5b0 : (a0_2 == a1_2) = true:=beq_iff_eq.mpr c5
    have c5b1 : (a0_2 != a1_2) = false:=bne_eq_false_iff_eq.mpr c5
    clear c5
    replace H:=Option.bind_eq_some_iff.mp H
    obtain ⟨t636,A60,H⟩:=H
    replace H : (if t636 = true then (some true) else (some false)) = some r:=H
    have A6:=Aside0.mk A60
    clear A60
    by_cases c7 : t636 = true
    ·subst c7
     have H1 : (some true) = some r:=by rw [if_pos rfl] at H;exact H
     clear H
     have H:=H1
     clear H1
     obtain rfl:=Option.some.inj H
     go_enter Try.func98,Try.ntmps98
     go_wp2_with (first | ((with_reducible refine gate_dst (N:=2) rfl ?_);refine box_event ?hg (N:=2) ?hd (cs := #[.int .i64 a0_0, .int .i64 a0_1, .int .i64 a0_2, .bool a0_3, .int .u32 a0_4, .bool a0_5, .int .i64 a0_6, .slice A0_7 l0_7.length c0_7]) (t:=56) ?hr ?_;(case hd => rfl);(case hg => rfl);(case hr => first | (go_simp;done) | (go_simp;rfl));intro gb634 hg w8 hbox hb;have n0_:=Aside0.mk (below_step (by repeat (first | (with_reducible first | exact HB.out | apply below_alloc | apply pw_below_drewN | apply below_drew1) | exact HB.out)) hb);have n1_:=Aside0.mk (hbox);have n2_:=Aside0.mk ((by rw [hg];exact (below_size (by repeat (first | (with_reducible first | exact HB.out | apply below_alloc | apply pw_below_drewN | apply below_drew1) | exact HB.out))) : w.heap.size ≤ gb634));have n3_:=Aside0.mk ((by rw [hg];exact (below_size (by repeat (first | (with_reducible first | exact HB.out | apply below_alloc | apply pw_below_drewN | apply below_drew1) | exact HB.out))) : w.heap.size ≤ gb634));clear HB;have HB:=n0_;have BK634:=n1_;have GW634:=n2_;have GE634:=n3_;clear n0_ n1_ n2_ n3_;clear hb hbox hg) | ((with_reducible refine gate_dst (N:=3) rfl ?_);refine box_event ?hg (N:=3) ?hd (cs := #[.int .i64 a1_0, .int .i64 a1_1, .int .i64 a1_2, .bool a1_3, .int .u32 a1_4, .bool a1_5, .int .i64 a1_6, .slice A1_7 l1_7.length c1_7]) (t:=56) ?hr ?_;(case hd => rfl);(case hg => rfl);(case hr => first | (go_simp;done) | (go_simp;rfl));intro gb635 hg w9 hbox hb;have n0_:=Aside0.mk (blk_below (g:=gb634) (o := .cells #[.int .i64 a0_0, .int .i64 a0_1, .int .i64 a0_2, .bool a0_3, .int .u32 a0_4, .bool a0_5, .int .i64 a0_6, .slice A0_7 l0_7.length c0_7] 56 (0,0)) (by (with_reducible repeat (first | refine blk_drewN ?_ _ | refine blk_drew ?_ | refine blk_alloc ?_ _));exact BK634.out) hb);have n1_:=Aside0.mk (below_step (by repeat (first | (with_reducible first | exact HB.out | apply below_alloc | apply pw_below_drewN | apply below_drew1 | refine below_set ?_ GE634.out) | exact HB.out)) hb);have n2_:=Aside0.mk (hbox);have n3_:=Aside0.mk ((by rw [hg];exact (below_size (by repeat (first | (with_reducible first | exact HB.out | apply below_alloc | apply pw_below_drewN | apply below_drew1 | refine below_set ?_ GE634.out) | exact HB.out))) : w.heap.size ≤ gb635));have n4_:=Aside0.mk ((by rw [hg];exact (below_size (by repeat (first | (with_reducible first | exact HB.out | apply below_alloc | apply pw_below_drewN | apply below_drew1 | refine below_set ?_ GE634.out) | exact HB.out))) : w.heap.size ≤ gb635));have n5_:=Aside0.mk ((by rw [hg];exact Nat.ne_of_lt (blk_lt (g:=gb634) (o := .cells #[.int .i64 a0_0, .int .i64 a0_1, .int .i64 a0_2, .bool a0_3, .int .u32 a0_4, .bool a0_5, .int .i64 a0_6, .slice A0_7 l0_7.length c0_7] 56 (0,0)) (by (with_reducible repeat (first | refine blk_drewN ?_ _ | refine blk_drew ?_ | refine blk_alloc ?_ _));exact BK634.out)) : gb634 ≠ gb635));have n6_:=Aside0.mk ((by rw [hg];exact Nat.ne_of_gt (blk_lt (g:=gb634) (o := .cells #[.int .i64 a0_0, .int .i64 a0_1, .int .i64 a0_2, .bool a0_3, .int .u32 a0_4, .bool a0_5, .int .i64 a0_6, .slice A0_7 l0_7.length c0_7] 56 (0,0)) (by (with_reducible repeat (first | refine blk_drewN ?_ _ | refine blk_drew ?_ | refine blk_alloc ?_ _));exact BK634.out)) : gb635 ≠ gb634));clear BK634;clear HB;have BK634:=n0_;have HB:=n1_;have BK635:=n2_;have GW635:=n3_;have GE635:=n4_;have NB634_635:=n5_;have NB635_634:=n6_;clear n0_ n1_ n2_ n3_ n4_ n5_ n6_;clear hb hbox hg;have hnb10:=NB634_635.out;have hnc10:=NB635_634.out;have hcz11_0 : w9.cell? ⟨gb634,0,none⟩ = some (.int .i64 a0_0):=(blk_cell BK634.out 0).trans rfl;have hcz11_1 : w9.cell? ⟨gb634,1,none⟩ = some (.int .i64 a0_1):=(blk_cell BK634.out 1).trans rfl;have hcz11_2 : w9.cell? ⟨gb634,2,none⟩ = some (.int .i64 a0_2):=(blk_cell BK634.out 2).trans rfl;have hcz11_3 : w9.cell? ⟨gb634,3,none⟩ = some (.bool a0_3):=(blk_cell BK634.out 3).trans rfl;have hcz11_4 : w9.cell? ⟨gb634,4,none⟩ = some (.int .u32 a0_4):=(blk_cell BK634.out 4).trans rfl;have hcz11_5 : w9.cell? ⟨gb634,5,none⟩ = some (.bool a0_5):=(blk_cell BK634.out 5).trans rfl;have hcz11_6 : w9.cell? ⟨gb634,6,none⟩ = some (.int .i64 a0_6):=(blk_cell BK634.out 6).trans rfl;have hcz11_7 : w9.cell? ⟨gb634,7,none⟩ = some (.slice A0_7 l0_7.length c0_7):=(blk_cell BK634.out 7).trans rfl;have hfz11_0:=blk_frozen BK634.out 0;have hfz11_1:=blk_frozen BK634.out 1;have hfz11_2:=blk_frozen BK634.out 2;have hfz11_3:=blk_frozen BK634.out 3;have hfz11_4:=blk_frozen BK634.out 4;have hfz11_5:=blk_frozen BK634.out 5;have hfz11_6:=blk_frozen BK634.out 6;have hfz11_7:=blk_frozen BK634.out 7;have hcz12_0 : w9.cell? ⟨gb635,0,none⟩ = some (.int .i64 a1_0):=(blk_cell BK635.out 0).trans rfl;have hcz12_1 : w9.cell? ⟨gb635,1,none⟩ = some (.int .i64 a1_1):=(blk_cell BK635.out 1).trans rfl;have hcz12_2 : w9.cell? ⟨gb635,2,none⟩ = some (.int .i64 a1_2):=(blk_cell BK635.out 2).trans rfl;have hcz12_3 : w9.cell? ⟨gb635,3,none⟩ = some (.bool a1_3):=(blk_cell BK635.out 3).trans rfl;have hcz12_4 : w9.cell? ⟨gb635,4,none⟩ = some (.int .u32 a1_4):=(blk_cell BK635.out 4).trans rfl;have hcz12_5 : w9.cell? ⟨gb635,5,none⟩ = some (.bool a1_5):=(blk_cell BK635.out 5).trans rfl;have hcz12_6 : w9.cell? ⟨gb635,6,none⟩ = some (.int .i64 a1_6):=(blk_cell BK635.out 6).trans rfl;have hcz12_7 : w9.cell? ⟨gb635,7,none⟩ = some (.slice A1_7 l1_7.length c1_7):=(blk_cell BK635.out 7).trans rfl;have hfz12_0:=blk_frozen BK635.out 0;have hfz12_1:=blk_frozen BK635.out 1;have hfz12_2:=blk_frozen BK635.out 2;have hfz12_3:=blk_frozen BK635.out 3;have hfz12_4:=blk_frozen BK635.out 4;have hfz12_5:=blk_frozen BK635.out 5;have hfz12_6:=blk_frozen BK635.out 6;have hfz12_7:=blk_frozen BK635.out 7) | ((with_reducible refine gate_callee (f:=55) rfl ?_);refine goesL_ (some 24) rfl rfl Try.func55 (by kernel_rfl) rfl #[.agg #[.bool a0_3, .int .u32 a0_4, .bool a0_5, .int .i64 a0_6, .slice A0_7 l0_7.length c0_7], .agg #[.bool a1_3, .int .u32 a1_4, .bool a1_5, .int .i64 a1_6, .slice A1_7 l1_7.length c1_7]] rfl (by (try simp only [List.map_toArray,List.map_cons,List.map_nil]);first | done | rfl | (simp only [List.length_drop,List.length_take];rfl)) ?_;(with_reducible refine (laws_eqFrame.calls k a0_3 a0_4 a0_5 a0_6 _ _ l0_7 a1_3 a1_4 a1_5 a1_6 _ _ l1_7 true _ ?side1 ?side2 ?side3 ?side4 A6.out).mono ?_);(case side1 => repeat (first | exact (Kd.C_below HR0_7.out HB.out) | (with_reducible refine Kd.C_alloc ?_ _) | (with_reducible refine Kd.C_drewN ?_ _) | (with_reducible refine Kd.C_drew ?_)));(case side2 => exact HC0_7.out);(case side3 => repeat (first | exact (Kd.C_below HR1_7.out HB.out) | (with_reducible refine Kd.C_alloc ?_ _) | (with_reducible refine Kd.C_drewN ?_ _) | (with_reducible refine Kd.C_drew ?_)));(case side4 => exact HC1_7.out);rintro e w13 ⟨rfl,hb⟩;refine ⟨_,rfl, ?_⟩;have n0_:=Aside0.mk (blk_below (g:=gb634) (o := .cells #[.int .i64 a0_0, .int .i64 a0_1, .int .i64 a0_2, .bool a0_3, .int .u32 a0_4, .bool a0_5, .int .i64 a0_6, .slice A0_7 l0_7.length c0_7] 56 (0,0)) (by (with_reducible repeat (first | refine blk_drewN ?_ _ | refine blk_drew ?_ | refine blk_alloc ?_ _));exact BK634.out) hb);have n1_:=Aside0.mk (blk_below (g:=gb635) (o := .cells #[.int .i64 a1_0, .int .i64 a1_1, .int .i64 a1_2, .bool a1_3, .int .u32 a1_4, .bool a1_5, .int .i64 a1_6, .slice A1_7 l1_7.length c1_7] 56 (0,0)) (by (with_reducible repeat (first | refine blk_drewN ?_ _ | refine blk_drew ?_ | refine blk_alloc ?_ _));exact BK635.out) hb);have n2_:=Aside0.mk (below_step (by repeat (first | (with_reducible first | exact HB.out | apply below_alloc | apply pw_below_drewN | apply below_drew1 | refine below_set ?_ GE634.out | refine below_set ?_ GE635.out) | exact HB.out)) hb);clear BK634;clear BK635;clear HB;have BK634:=n0_;have BK635:=n1_;have HB:=n2_;clear n0_ n1_ n2_;(try clear hb);(try clear hb2);(try clear hk);(try clear hi)))
     go_ret
     exact ⟨by first | rfl | (simp [errW_none,errW_some] <;> rfl) | (simp [*,errW_none,errW_some] <;> rfl),by repeat (first | (with_reducible first | exact HB.out | apply below_alloc | apply pw_below_drewN | apply below_drew1 | refine below_set ?_ GE634.out | refine below_set ?_ GE635.out) | exact HB.out)⟩
    ·replace c7:=Bool.eq_false_iff.mpr c7
     subst c7
     have H1 : (some false) = some r:=by rw [if_neg (show ¬ (false = true) by decide)] at H;exact H
     clear H
     have H:=H1
     clear H1
     obtain rfl:=Option.some.inj H
     go_enter Try.func98,Try.ntmps98
     go_wp2_with (first | ((with_reducible refine gate_dst (N:=2) rfl ?_);refine box_event ?hg (N:=2) ?hd (cs := #[.int .i64 a0_0, .int .i64 a0_1, .int .i64 a0_2, .bool a0_3, .int .u32 a0_4, .bool a0_5, .int .i64 a0_6, .slice A0_7 l0_7.length c0_7]) (t:=56) ?hr ?_;(case hd => rfl);(case hg => rfl);(case hr => first | (go_simp;done) | (go_simp;rfl));intro gb634 hg w14 hbox hb;have n0_:=Aside0.mk (below_step (by repeat (first | (with_reducible first | exact HB.out | apply below_alloc | apply pw_below_drewN | apply below_drew1) | exact HB.out)) hb);have n1_:=Aside0.mk (hbox);have n2_:=Aside0.mk ((by rw [hg];exact (below_size (by repeat (first | (with_reducible first | exact HB.out | apply below_alloc | apply pw_below_drewN | apply below_drew1) | exact HB.out))) : w.heap.size ≤ gb634));have n3_:=Aside0.mk ((by rw [hg];exact (below_size (by repeat (first | (with_reducible first | exact HB.out | apply below_alloc | apply pw_below_drewN | apply below_drew1) | exact HB.out))) : w.heap.size ≤ gb634));clear HB;have HB:=n0_;have BK634:=n1_;have GW634:=n2_;have GE634:=n3_;clear n0_ n1_ n2_ n3_;clear hb hbox hg) | ((with_reducible refine gate_dst (N:=3) rfl ?_);refine box_event ?hg (N:=3) ?hd (cs := #[.int .i64 a1_0, .int .i64 a1_1, .int .i64 a1_2, .bool a1_3, .int .u32 a1_4, .bool a1_5, .int .i64 a1_6, .slice A1_7 l1_7.length c1_7]) (t:=56) ?hr ?_;(case hd => rfl);(case hg => rfl);(case hr => first | (go_simp;done) | (go_simp;rfl));intro gb635 hg w15 hbox hb;have n0_:=Aside0.mk (blk_below (g:=gb634) (o := .cells #[.int .i64 a0_0, .int .i64 a0_1, .int .i64 a0_2, .bool a0_3, .int .u32 a0_4, .bool a0_5, .int .i64 a0_6, .slice A0_7 l0_7.length c0_7] 56 (0,0)) (by (with_reducible repeat (first | refine blk_drewN ?_ _ | refine blk_drew ?_ | refine blk_alloc ?_ _));exact BK634.out) hb);have n1_:=Aside0.mk (below_step (by repeat (first | (with_reducible first | exact HB.out | apply below_alloc | apply pw_below_drewN | apply below_drew1 | refine below_set ?_ GE634.out) | exact HB.out)) hb);have n2_:=Aside0.mk (hbox);have n3_:=Aside0.mk ((by rw [hg];exact (below_size (by repeat (first | (with_reducible first | exact HB.out | apply below_alloc | apply pw_below_drewN | apply below_drew1 | refine below_set ?_ GE634.out) | exact HB.out))) : w.heap.size ≤ gb635));have n4_:=Aside0.mk ((by rw [hg];exact (below_size (by repeat (first | (with_reducible first | exact HB.out | apply below_alloc | apply pw_below_drewN | apply below_drew1 | refine below_set ?_ GE634.out) | exact HB.out))) : w.heap.size ≤ gb635));have n5_:=Aside0.mk ((by rw [hg];exact Nat.ne_of_lt (blk_lt (g:=gb634) (o := .cells #[.int .i64 a0_0, .int .i64 a0_1, .int .i64 a0_2, .bool a0_3, .int .u32 a0_4, .bool a0_5, .int .i64 a0_6, .slice A0_7 l0_7.length c0_7] 56 (0,0)) (by (with_reducible repeat (first | refine blk_drewN ?_ _ | refine blk_drew ?_ | refine blk_alloc ?_ _));exact BK634.out)) : gb634 ≠ gb635));have n6_:=Aside0.mk ((by rw [hg];exact Nat.ne_of_gt (blk_lt (g:=gb634) (o := .cells #[.int .i64 a0_0, .int .i64 a0_1, .int .i64 a0_2, .bool a0_3, .int .u32 a0_4, .bool a0_5, .int .i64 a0_6, .slice A0_7 l0_7.length c0_7] 56 (0,0)) (by (with_reducible repeat (first | refine blk_drewN ?_ _ | refine blk_drew ?_ | refine blk_alloc ?_ _));exact BK634.out)) : gb635 ≠ gb634));clear BK634;clear HB;have BK634:=n0_;have HB:=n1_;have BK635:=n2_;have GW635:=n3_;have GE635:=n4_;have NB634_635:=n5_;have NB635_634:=n6_;clear n0_ n1_ n2_ n3_ n4_ n5_ n6_;clear hb hbox hg;have hnb16:=NB634_635.out;have hnc16:=NB635_634.out;have hcz17_0 : w15.cell? ⟨gb634,0,none⟩ = some (.int .i64 a0_0):=(blk_cell BK634.out 0).trans rfl;have hcz17_1 : w15.cell? ⟨gb634,1,none⟩ = some (.int .i64 a0_1):=(blk_cell BK634.out 1).trans rfl;have hcz17_2 : w15.cell? ⟨gb634,2,none⟩ = some (.int .i64 a0_2):=(blk_cell BK634.out 2).trans rfl;have hcz17_3 : w15.cell? ⟨gb634,3,none⟩ = some (.bool a0_3):=(blk_cell BK634.out 3).trans rfl;have hcz17_4 : w15.cell? ⟨gb634,4,none⟩ = some (.int .u32 a0_4):=(blk_cell BK634.out 4).trans rfl;have hcz17_5 : w15.cell? ⟨gb634,5,none⟩ = some (.bool a0_5):=(blk_cell BK634.out 5).trans rfl;have hcz17_6 : w15.cell? ⟨gb634,6,none⟩ = some (.int .i64 a0_6):=(blk_cell BK634.out 6).trans rfl;have hcz17_7 : w15.cell? ⟨gb634,7,none⟩ = some (.slice A0_7 l0_7.length c0_7):=(blk_cell BK634.out 7).trans rfl;have hfz17_0:=blk_frozen BK634.out 0;have hfz17_1:=blk_frozen BK634.out 1;have hfz17_2:=blk_frozen BK634.out 2;have hfz17_3:=blk_frozen BK634.out 3;have hfz17_4:=blk_frozen BK634.out 4;have hfz17_5:=blk_frozen BK634.out 5;have hfz17_6:=blk_frozen BK634.out 6;have hfz17_7:=blk_frozen BK634.out 7;have hcz18_0 : w15.cell? ⟨gb635,0,none⟩ = some (.int .i64 a1_0):=(blk_cell BK635.out 0).trans rfl;have hcz18_1 : w15.cell? ⟨gb635,1,none⟩ = some (.int .i64 a1_1):=(blk_cell BK635.out 1).trans rfl;have hcz18_2 : w15.cell? ⟨gb635,2,none⟩ = some (.int .i64 a1_2):=(blk_cell BK635.out 2).trans rfl;have hcz18_3 : w15.cell? ⟨gb635,3,none⟩ = some (.bool a1_3):=(blk_cell BK635.out 3).trans rfl;have hcz18_4 : w15.cell? ⟨gb635,4,none⟩ = some (.int .u32 a1_4):=(blk_cell BK635.out 4).trans rfl;have hcz18_5 : w15.cell? ⟨gb635,5,none⟩ = some (.bool a1_5):=(blk_cell BK635.out 5).trans rfl;have hcz18_6 : w15.cell? ⟨gb635,6,none⟩ = some (.int .i64 a1_6):=(blk_cell BK635.out 6).trans rfl;have hcz18_7 : w15.cell? ⟨gb635,7,none⟩ = some (.slice A1_7 l1_7.length c1_7):=(blk_cell BK635.out 7).trans rfl;have hfz18_0:=blk_frozen BK635.out 0;have hfz18_1:=blk_frozen BK635.out 1;have hfz18_2:=blk_frozen BK635.out 2;have hfz18_3:=blk_frozen BK635.out 3;have hfz18_4:=blk_frozen BK635.out 4;have hfz18_5:=blk_frozen BK635.out 5;have hfz18_6:=blk_frozen BK635.out 6;have hfz18_7:=blk_frozen BK635.out 7) | ((with_reducible refine gate_callee (f:=55) rfl ?_);refine goesL_ (some 24) rfl rfl Try.func55 (by kernel_rfl) rfl #[.agg #[.bool a0_3, .int .u32 a0_4, .bool a0_5, .int .i64 a0_6, .slice A0_7 l0_7.length c0_7], .agg #[.bool a1_3, .int .u32 a1_4, .bool a1_5, .int .i64 a1_6, .slice A1_7 l1_7.length c1_7]] rfl (by (try simp only [List.map_toArray,List.map_cons,List.map_nil]);first | done | rfl | (simp only [List.length_drop,List.length_take];rfl)) ?_;(with_reducible refine (laws_eqFrame.calls k a0_3 a0_4 a0_5 a0_6 _ _ l0_7 a1_3 a1_4 a1_5 a1_6 _ _ l1_7 false _ ?side1 ?side2 ?side3 ?side4 A6.out).mono ?_);(case side1 => repeat (first | exact (Kd.C_below HR0_7.out HB.out) | (with_reducible refine Kd.C_alloc ?_ _) | (with_reducible refine Kd.C_drewN ?_ _) | (with_reducible refine Kd.C_drew ?_)));(case side2 => exact HC0_7.out);(case side3 => repeat (first | exact (Kd.C_below HR1_7.out HB.out) | (with_reducible refine Kd.C_alloc ?_ _) | (with_reducible refine Kd.C_drewN ?_ _) | (with_reducible refine Kd.C_drew ?_)));(case side4 => exact HC1_7.out);rintro e w19 ⟨rfl,hb⟩;refine ⟨_,rfl, ?_⟩;have n0_:=Aside0.mk (blk_below (g:=gb634) (o := .cells #[.int .i64 a0_0, .int .i64 a0_1, .int .i64 a0_2, .bool a0_3, .int .u32 a0_4, .bool a0_5, .int .i64 a0_6, .slice A0_7 l0_7.length c0_7] 56 (0,0)) (by (with_reducible repeat (first | refine blk_drewN ?_ _ | refine blk_drew ?_ | refine blk_alloc ?_ _));exact BK634.out) hb);have n1_:=Aside0.mk (blk_below (g:=gb635) (o := .cells #[.int .i64 a1_0, .int .i64 a1_1, .int .i64 a1_2, .bool a1_3, .int .u32 a1_4, .bool a1_5, .int .i64 a1_6, .slice A1_7 l1_7.length c1_7] 56 (0,0)) (by (with_reducible repeat (first | refine blk_drewN ?_ _ | refine blk_drew ?_ | refine blk_alloc ?_ _));exact BK635.out) hb);have n2_:=Aside0.mk (below_step (by repeat (first | (with_reducible first | exact HB.out | apply below_alloc | apply pw_below_drewN | apply below_drew1 | refine below_set ?_ GE634.out | refine below_set ?_ GE635.out) | exact HB.out)) hb);clear BK634;clear BK635;clear HB;have BK634:=n0_;have BK635:=n1_;have HB:=n2_;clear n0_ n1_ n2_;(try clear hb);(try clear hb2);(try clear hk);(try clear hi)))
     go_ret
     exact ⟨by first | rfl | (simp [errW_none,errW_some] <;> rfl) | (simp [*,errW_none,errW_some] <;> rfl),by repeat (first | (with_reducible first | exact HB.out | apply below_alloc | apply pw_below_drewN | apply below_drew1 | refine below_set ?_ GE634.out | refine below_set ?_ GE635.out) | exact HB.out)⟩
   ·rw [if_neg c5] at H
    have c5b0 : (a0_2 == a1_2) = false:=beq_eq_false_iff_ne.mpr c5
    have c5b1 : (a0_2 != a1_2) = true:=bne_iff_ne.mpr c5
    obtain rfl:=Option.some.inj H
    go_enter Try.func98,Try.ntmps98
    go_wp2_with (first | ((with_reducible refine gate_dst (N:=2) rfl ?_);refine box_event ?hg (N:=2) ?hd (cs := #[.int .i64 a0_0, .int .i64 a0_1, .int .i64 a0_2, .bool a0_3, .int .u32 a0_4, .bool a0_5, .int .i64 a0_6, .slice A0_7 l0_7.length c0_7]) (t:=56) ?hr ?_;(case hd => rfl);(case hg => rfl);(case hr => first | (go_simp;done) | (go_simp;rfl));intro gb634 hg w20 hbox hb;have n0_:=Aside0.mk (below_step (by repeat (first | (with_reducible first | exact HB.out | apply below_alloc | apply pw_below_drewN | apply below_drew1) | exact HB.out)) hb);have n1_:=Aside0.mk (hbox);have n2_:=Aside0.mk ((by rw [hg];exact (below_size (by repeat (first | (with_reducible first | exact HB.out | apply below_alloc | apply pw_below_drewN | apply below_drew1) | exact HB.out))) : w.heap.size ≤ gb634));have n3_:=Aside0.mk ((by rw [hg];exact (below_size (by repeat (first | (with_reducible first | exact HB.out | apply below_alloc | apply pw_below_drewN | apply below_drew1) | exact HB.out))) : w.heap.size ≤ gb634));clear HB;have HB:=n0_;have BK634:=n1_;have GW634:=n2_;have GE634:=n3_;clear n0_ n1_ n2_ n3_;clear hb hbox hg) | ((with_reducible refine gate_dst (N:=3) rfl ?_);refine box_event ?hg (N:=3) ?hd (cs := #[.int .i64 a1_0, .int .i64 a1_1, .int .i64 a1_2, .bool a1_3, .int .u32 a1_4, .bool a1_5, .int .i64 a1_6, .slice A1_7 l1_7.length c1_7]) (t:=56) ?hr ?_;(case hd => rfl);(case hg => rfl);(case hr => first | (go_simp;done) | (go_simp;rfl));intro gb635 hg w21 hbox hb;have n0_:=Aside0.mk (blk_below (g:=gb634) (o := .cells #[.int .i64 a0_0, .int .i64 a0_1, .int .i64 a0_2, .bool a0_3, .int .u32 a0_4, .bool a0_5, .int .i64 a0_6, .slice A0_7 l0_7.length c0_7] 56 (0,0)) (by (with_reducible repeat (first | refine blk_drewN ?_ _ | refine blk_drew ?_ | refine blk_alloc ?_ _));exact BK634.out) hb);have n1_:=Aside0.mk (below_step (by repeat (first | (with_reducible first | exact HB.out | apply below_alloc | apply pw_below_drewN | apply below_drew1 | refine below_set ?_ GE634.out) | exact HB.out)) hb);have n2_:=Aside0.mk (hbox);have n3_:=Aside0.mk ((by rw [hg];exact (below_size (by repeat (first | (with_reducible first | exact HB.out | apply below_alloc | apply pw_below_drewN | apply below_drew1 | refine below_set ?_ GE634.out) | exact HB.out))) : w.heap.size ≤ gb635));have n4_:=Aside0.mk ((by rw [hg];exact (below_size (by repeat (first | (with_reducible first | exact HB.out | apply below_alloc | apply pw_below_drewN | apply below_drew1 | refine below_set ?_ GE634.out) | exact HB.out))) : w.heap.size ≤ gb635));have n5_:=Aside0.mk ((by rw [hg];exact Nat.ne_of_lt (blk_lt (g:=gb634) (o := .cells #[.int .i64 a0_0, .int .i64 a0_1, .int .i64 a0_2, .bool a0_3, .int .u32 a0_4, .bool a0_5, .int .i64 a0_6, .slice A0_7 l0_7.length c0_7] 56 (0,0)) (by (with_reducible repeat (first | refine blk_drewN ?_ _ | refine blk_drew ?_ | refine blk_alloc ?_ _));exact BK634.out)) : gb634 ≠ gb635));have n6_:=Aside0.mk ((by rw [hg];exact Nat.ne_of_gt (blk_lt (g:=gb634) (o := .cells #[.int .i64 a0_0, .int .i64 a0_1, .int .i64 a0_2, .bool a0_3, .int .u32 a0_4, .bool a0_5, .int .i64 a0_6, .slice A0_7 l0_7.length c0_7] 56 (0,0)) (by (with_reducible repeat (first | refine blk_drewN ?_ _ | refine blk_drew ?_ | refine blk_alloc ?_ _));exact BK634.out)) : gb635 ≠ gb634));clear BK634;clear HB;have BK634:=n0_;have HB:=n1_;have BK635:=n2_;have GW635:=n3_;have GE635:=n4_;have NB634_635:=n5_;have NB635_634:=n6_;clear n0_ n1_ n2_ n3_ n4_ n5_ n6_;clear hb hbox hg;have hnb22:=NB634_635.out;have hnc22:=NB635_634.out;have hcz23_0 : w21.cell? ⟨gb634,0,none⟩ = some (.int .i64 a0_0):=(blk_cell BK634.out 0).trans rfl;have hcz23_1 : w21.cell? ⟨gb634,1,none⟩ = some (.int .i64 a0_1):=(blk_cell BK634.out 1).trans rfl;have hcz23_2 : w21.cell? ⟨gb634,2,none⟩ = some (.int .i64 a0_2):=(blk_cell BK634.out 2).trans rfl;have hcz23_3 : w21.cell? ⟨gb634,3,none⟩ = some (.bool a0_3):=(blk_cell BK634.out 3).trans rfl;have hcz23_4 : w21.cell? ⟨gb634,4,none⟩ = some (.int .u32 a0_4):=(blk_cell BK634.out 4).trans rfl;have hcz23_5 : w21.cell? ⟨gb634,5,none⟩ = some (.bool a0_5):=(blk_cell BK634.out 5).trans rfl;have hcz23_6 : w21.cell? ⟨gb634,6,none⟩ = some (.int .i64 a0_6):=(blk_cell BK634.out 6).trans rfl;have hcz23_7 : w21.cell? ⟨gb634,7,none⟩ = some (.slice A0_7 l0_7.length c0_7):=(blk_cell BK634.out 7).trans rfl;have hfz23_0:=blk_frozen BK634.out 0;have hfz23_1:=blk_frozen BK634.out 1;have hfz23_2:=blk_frozen BK634.out 2;have hfz23_3:=blk_frozen BK634.out 3;have hfz23_4:=blk_frozen BK634.out 4;have hfz23_5:=blk_frozen BK634.out 5;have hfz23_6:=blk_frozen BK634.out 6;have hfz23_7:=blk_frozen BK634.out 7;have hcz24_0 : w21.cell? ⟨gb635,0,none⟩ = some (.int .i64 a1_0):=(blk_cell BK635.out 0).trans rfl;have hcz24_1 : w21.cell? ⟨gb635,1,none⟩ = some (.int .i64 a1_1):=(blk_cell BK635.out 1).trans rfl;have hcz24_2 : w21.cell? ⟨gb635,2,none⟩ = some (.int .i64 a1_2):=(blk_cell BK635.out 2).trans rfl;have hcz24_3 : w21.cell? ⟨gb635,3,none⟩ = some (.bool a1_3):=(blk_cell BK635.out 3).trans rfl;have hcz24_4 : w21.cell? ⟨gb635,4,none⟩ = some (.int .u32 a1_4):=(blk_cell BK635.out 4).trans rfl;have hcz24_5 : w21.cell? ⟨gb635,5,none⟩ = some (.bool a1_5):=(blk_cell BK635.out 5).trans rfl;have hcz24_6 : w21.cell? ⟨gb635,6,none⟩ = some (.int .i64 a1_6):=(blk_cell BK635.out 6).trans rfl;have hcz24_7 : w21.cell? ⟨gb635,7,none⟩ = some (.slice A1_7 l1_7.length c1_7):=(blk_cell BK635.out 7).trans rfl;have hfz24_0:=blk_frozen BK635.out 0;have hfz24_1:=blk_frozen BK635.out 1;have hfz24_2:=blk_frozen BK635.out 2;have hfz24_3:=blk_frozen BK635.out 3;have hfz24_4:=blk_frozen BK635.out 4;have hfz24_5:=blk_frozen BK635.out 5;have hfz24_6:=blk_frozen BK635.out 6;have hfz24_7:=blk_frozen BK635.out 7))
    go_ret
    exact ⟨by first | rfl | (simp [errW_none,errW_some] <;> rfl) | (simp [*,errW_none,errW_some] <;> rfl),by repeat (first | (with_reducible first | exact HB.out | apply below_alloc | apply pw_below_drewN | apply below_drew1 | refine below_set ?_ GE634.out | refine below_set ?_ GE635.out) | exact HB.out)⟩
  ·rw [if_neg c4] at H
   have c4b0 : (a0_1 == a1_1) = false:=beq_eq_false_iff_ne.mpr c4
   have c4b1 : (a0_1 != a1_1) = true:=bne_iff_ne.mpr c4
   obtain rfl:=Option.some.inj H
   go_enter Try.func98,Try.ntmps98
   go_wp2_with (first | ((with_reducible refine gate_dst (N:=2) rfl ?_);refine box_event ?hg (N:=2) ?hd (cs := #[.int .i64 a0_0, .int .i64 a0_1, .int .i64 a0_2, .bool a0_3, .int .u32 a0_4, .bool a0_5, .int .i64 a0_6, .slice A0_7 l0_7.length c0_7]) (t:=56) ?hr ?_;(case hd => rfl);(case hg => rfl);(case hr => first | (go_simp;done) | (go_simp;rfl));intro gb634 hg w25 hbox hb;have n0_:=Aside0.mk (below_step (by repeat (first | (with_reducible first | exact HB.out | apply below_alloc | apply pw_below_drewN | apply below_drew1) | exact HB.out)) hb);have n1_:=Aside0.mk (hbox);have n2_:=Aside0.mk ((by rw [hg];exact (below_size (by repeat (first | (with_reducible first | exact HB.out | apply below_alloc | apply pw_below_drewN | apply below_drew1) | exact HB.out))) : w.heap.size ≤ gb634));have n3_:=Aside0.mk ((by rw [hg];exact (below_size (by repeat (first | (with_reducible first | exact HB.out | apply below_alloc | apply pw_below_drewN | apply below_drew1) | exact HB.out))) : w.heap.size ≤ gb634));clear HB;have HB:=n0_;have BK634:=n1_;have GW634:=n2_;have GE634:=n3_;clear n0_ n1_ n2_ n3_;clear hb hbox hg) | ((with_reducible refine gate_dst (N:=3) rfl ?_);refine box_event ?hg (N:=3) ?hd (cs := #[.int .i64 a1_0, .int .i64 a1_1, .int .i64 a1_2, .bool a1_3, .int .u32 a1_4, .bool a1_5, .int .i64 a1_6, .slice A1_7 l1_7.length c1_7]) (t:=56) ?hr ?_;(case hd => rfl);(case hg => rfl);(case hr => first | (go_simp;done) | (go_simp;rfl));intro gb635 hg w26 hbox hb;have n0_:=Aside0.mk (blk_below (g:=gb634) (o := .cells #[.int .i64 a0_0, .int .i64 a0_1, .int .i64 a0_2, .bool a0_3, .int .u32 a0_4, .bool a0_5, .int .i64 a0_6, .slice A0_7 l0_7.length c0_7] 56 (0,0)) (by (with_reducible repeat (first | refine blk_drewN ?_ _ | refine blk_drew ?_ | refine blk_alloc ?_ _));exact BK634.out) hb);have n1_:=Aside0.mk (below_step (by repeat (first | (with_reducible first | exact HB.out | apply below_alloc | apply pw_below_drewN | apply below_drew1 | refine below_set ?_ GE634.out) | exact HB.out)) hb);have n2_:=Aside0.mk (hbox);have n3_:=Aside0.mk ((by rw [hg];exact (below_size (by repeat (first | (with_reducible first | exact HB.out | apply below_alloc | apply pw_below_drewN | apply below_drew1 | refine below_set ?_ GE634.out) | exact HB.out))) : w.heap.size ≤ gb635));have n4_:=Aside0.mk ((by rw [hg];exact (below_size (by repeat (first | (with_reducible first | exact HB.out | apply below_alloc | apply pw_below_drewN | apply below_drew1 | refine below_set ?_ GE634.out) | exact HB.out))) : w.heap.size ≤ gb635));have n5_:=Aside0.mk ((by rw [hg];exact Nat.ne_of_lt (blk_lt (g:=gb634) (o := .cells #[.int .i64 a0_0, .int .i64 a0_1, .int .i64 a0_2, .bool a0_3, .int .u32 a0_4, .bool a0_5, .int .i64 a0_6, .slice A0_7 l0_7.length c0_7] 56 (0,0)) (by (with_reducible repeat (first | refine blk_drewN ?_ _ | refine blk_drew ?_ | refine blk_alloc ?_ _));exact BK634.out)) : gb634 ≠ gb635));have n6_:=Aside0.mk ((by rw [hg];exact Nat.ne_of_gt (blk_lt (g:=gb634) (o := .cells #[.int .i64 a0_0, .int .i64 a0_1, .int .i64 a0_2, .bool a0_3, .int .u32 a0_4, .bool a0_5, .int .i64 a0_6, .slice A0_7 l0_7.length c0_7] 56 (0,0)) (by (with_reducible repeat (first | refine blk_drewN ?_ _ | refine blk_drew ?_ | refine blk_alloc ?_ _));exact BK634.out)) : gb635 ≠ gb634));clear BK634;clear HB;have BK634:=n0_;have HB:=n1_;have BK635:=n2_;have GW635:=n3_;have GE635:=n4_;have NB634_635:=n5_;have NB635_634:=n6_;clear n0_ n1_ n2_ n3_ n4_ n5_ n6_;clear hb hbox hg;have hnb27:=NB634_635.out;have hnc27:=NB635_634.out;have hcz28_0 : w26.cell? ⟨gb634,0,none⟩ = some (.int .i64 a0_0):=(blk_cell BK634.out 0).trans rfl;have hcz28_1 : w26.cell? ⟨gb634,1,none⟩ = some (.int .i64 a0_1):=(blk_cell BK634.out 1).trans rfl;have hcz28_2 : w26.cell? ⟨gb634,2,none⟩ = some (.int .i64 a0_2):=(blk_cell BK634.out 2).trans rfl;have hcz28_3 : w26.cell? ⟨gb634,3,none⟩ = some (.bool a0_3):=(blk_cell BK634.out 3).trans rfl;have hcz28_4 : w26.cell? ⟨gb634,4,none⟩ = some (.int .u32 a0_4):=(blk_cell BK634.out 4).trans rfl;have hcz28_5 : w26.cell? ⟨gb634,5,none⟩ = some (.bool a0_5):=(blk_cell BK634.out 5).trans rfl;have hcz28_6 : w26.cell? ⟨gb634,6,none⟩ = some (.int .i64 a0_6):=(blk_cell BK634.out 6).trans rfl;have hcz28_7 : w26.cell? ⟨gb634,7,none⟩ = some (.slice A0_7 l0_7.length c0_7):=(blk_cell BK634.out 7).trans rfl;have hfz28_0:=blk_frozen BK634.out 0;have hfz28_1:=blk_frozen BK634.out 1;have hfz28_2:=blk_frozen BK634.out 2;have hfz28_3:=blk_frozen BK634.out 3;have hfz28_4:=blk_frozen BK634.out 4;have hfz28_5:=blk_frozen BK634.out 5;have hfz28_6:=blk_frozen BK634.out 6;have hfz28_7:=blk_frozen BK634.out 7;have hcz29_0 : w26.cell? ⟨gb635,0,none⟩ = some (.int .i64 a1_0):=(blk_cell BK635.out 0).trans rfl;have hcz29_1 : w26.cell? ⟨gb635,1,none⟩ = some (.int .i64 a1_1):=(blk_cell BK635.out 1).trans rfl;have hcz29_2 : w26.cell? ⟨gb635,2,none⟩ = some (.int .i64 a1_2):=(blk_cell BK635.out 2).trans rfl;have hcz29_3 : w26.cell? ⟨gb635,3,none⟩ = some (.bool a1_3):=(blk_cell BK635.out 3).trans rfl;have hcz29_4 : w26.cell? ⟨gb635,4,none⟩ = some (.int .u32 a1_4):=(blk_cell BK635.out 4).trans rfl;have hcz29_5 : w26.cell? ⟨gb635,5,none⟩ = some (.bool a1_5):=(blk_cell BK635.out 5).trans rfl;have hcz29_6 : w26.cell? ⟨gb635,6,none⟩ = some (.int .i64 a1_6):=(blk_cell BK635.out 6).trans rfl;have hcz29_7 : w26.cell? ⟨gb635,7,none⟩ = some (.slice A1_7 l1_7.length c1_7):=(blk_cell BK635.out 7).trans rfl;have hfz29_0:=blk_frozen BK635.out 0;have hfz29_1:=blk_frozen BK635.out 1;have hfz29_2:=blk_frozen BK635.out 2;have hfz29_3:=blk_frozen BK635.out 3;have hfz29_4:=blk_frozen BK635.out 4;have hfz29_5:=blk_frozen BK635.out 5;have hfz29_6:=blk_frozen BK635.out 6;have hfz29_7:=blk_frozen BK635.out 7))
   go_ret
   exact ⟨by first | rfl | (simp [errW_none,errW_some] <;> rfl) | (simp [*,errW_none,errW_some] <;> rfl),by repeat (first | (with_reducible first | exact HB.out | apply below_alloc | apply pw_below_drewN | apply below_drew1 | refine below_set ?_ GE634.out | refine below_set ?_ GE635.out) | exact HB.out)⟩
 ·rw [if_neg c3] at H
  have c3b0 : (a0_0 == a1_0) = false:=beq_eq_false_iff_ne.mpr c3
  have c3b1 : (a0_0 != a1_0) = true:=bne_iff_ne.mpr c3
  obtain rfl:=Option.some.inj H
  go_enter Try.func98,Try.ntmps98
  go_wp2_with (first | ((with_reducible refine gate_dst (N:=2) rfl ?_);refine box_event ?hg (N:=2) ?hd (cs := #[.int .i64 a0_0, .int .i64 a0_1, .int .i64 a0_2, .bool a0_3, .int .u32 a0_4, .bool a0_5, .int .i64 a0_6, .slice A0_7 l0_7.length c0_7]) (t:=56) ?hr ?_;(case hd => rfl);(case hg => rfl);(case hr => first | (go_simp;done) | (go_simp;rfl));intro gb634 hg w30 hbox hb;have n0_:=Aside0.mk (below_step (by repeat (first | (with_reducible first | exact HB.out | apply below_alloc | apply pw_below_drewN | apply below_drew1) | exact HB.out)) hb);have n1_:=Aside0.mk (hbox);have n2_:=Aside0.mk ((by rw [hg];exact (below_size (by repeat (first | (with_reducible first | exact HB.out | apply below_alloc | apply pw_below_drewN | apply below_drew1) | exact HB.out))) : w.heap.size ≤ gb634));have n3_:=Aside0.mk ((by rw [hg];exact (below_size (by repeat (first | (with_reducible first | exact HB.out | apply below_alloc | apply pw_below_drewN | apply below_drew1) | exact HB.out))) : w.heap.size ≤ gb634));clear HB;have HB:=n0_;have BK634:=n1_;have GW634:=n2_;have GE634:=n3_;clear n0_ n1_ n2_ n3_;clear hb hbox hg) | ((with_reducible refine gate_dst (N:=3) rfl ?_);refine box_event ?hg (N:=3) ?hd (cs := #[.int .i64 a1_0, .int .i64 a1_1, .int .i64 a1_2, .bool a1_3, .int .u32 a1_4, .bool a1_5, .int .i64 a1_6, .slice A1_7 l1_7.length c1_7]) (t:=56) ?hr ?_;(case hd => rfl);(case hg => rfl);(case hr => first | (go_simp;done) | (go_simp;rfl));intro gb635 hg w31 hbox hb;have n0_:=Aside0.mk (blk_below (g:=gb634) (o := .cells #[.int .i64 a0_0, .int .i64 a0_1, .int .i64 a0_2, .bool a0_3, .int .u32 a0_4, .bool a0_5, .int .i64 a0_6, .slice A0_7 l0_7.length c0_7] 56 (0,0)) (by (with_reducible repeat (first | refine blk_drewN ?_ _ | refine blk_drew ?_ | refine blk_alloc ?_ _));exact BK634.out) hb);have n1_:=Aside0.mk (below_step (by repeat (first | (with_reducible first | exact HB.out | apply below_alloc | apply pw_below_drewN | apply below_drew1 | refine below_set ?_ GE634.out) | exact HB.out)) hb);have n2_:=Aside0.mk (hbox);have n3_:=Aside0.mk ((by rw [hg];exact (below_size (by repeat (first | (with_reducible first | exact HB.out | apply below_alloc | apply pw_below_drewN | apply below_drew1 | refine below_set ?_ GE634.out) | exact HB.out))) : w.heap.size ≤ gb635));have n4_:=Aside0.mk ((by rw [hg];exact (below_size (by repeat (first | (with_reducible first | exact HB.out | apply below_alloc | apply pw_below_drewN | apply below_drew1 | refine below_set ?_ GE634.out) | exact HB.out))) : w.heap.size ≤ gb635));have n5_:=Aside0.mk ((by rw [hg];exact Nat.ne_of_lt (blk_lt (g:=gb634) (o := .cells #[.int .i64 a0_0, .int .i64 a0_1, .int .i64 a0_2, .bool a0_3, .int .u32 a0_4, .bool a0_5, .int .i64 a0_6, .slice A0_7 l0_7.length c0_7] 56 (0,0)) (by (with_reducible repeat (first | refine blk_drewN ?_ _ | refine blk_drew ?_ | refine blk_alloc ?_ _));exact BK634.out)) : gb634 ≠ gb635));have n6_:=Aside0.mk ((by rw [hg];exact Nat.ne_of_gt (blk_lt (g:=gb634) (o := .cells #[.int .i64 a0_0, .int .i64 a0_1, .int .i64 a0_2, .bool a0_3, .int .u32 a0_4, .bool a0_5, .int .i64 a0_6, .slice A0_7 l0_7.length c0_7] 56 (0,0)) (by (with_reducible repeat (first | refine blk_drewN ?_ _ | refine blk_drew ?_ | refine blk_alloc ?_ _));exact BK634.out)) : gb635 ≠ gb634));clear BK634;clear HB;have BK634:=n0_;have HB:=n1_;have BK635:=n2_;have GW635:=n3_;have GE635:=n4_;have NB634_635:=n5_;have NB635_634:=n6_;clear n0_ n1_ n2_ n3_ n4_ n5_ n6_;clear hb hbox hg;have hnb32:=NB634_635.out;have hnc32:=NB635_634.out;have hcz33_0 : w31.cell? ⟨gb634,0,none⟩ = some (.int .i64 a0_0):=(blk_cell BK634.out 0).trans rfl;have hcz33_1 : w31.cell? ⟨gb634,1,none⟩ = some (.int .i64 a0_1):=(blk_cell BK634.out 1).trans rfl;have hcz33_2 : w31.cell? ⟨gb634,2,none⟩ = some (.int .i64 a0_2):=(blk_cell BK634.out 2).trans rfl;have hcz33_3 : w31.cell? ⟨gb634,3,none⟩ = some (.bool a0_3):=(blk_cell BK634.out 3).trans rfl;have hcz33_4 : w31.cell? ⟨gb634,4,none⟩ = some (.int .u32 a0_4):=(blk_cell BK634.out 4).trans rfl;have hcz33_5 : w31.cell? ⟨gb634,5,none⟩ = some (.bool a0_5):=(blk_cell BK634.out 5).trans rfl;have hcz33_6 : w31.cell? ⟨gb634,6,none⟩ = some (.int .i64 a0_6):=(blk_cell BK634.out 6).trans rfl;have hcz33_7 : w31.cell? ⟨gb634,7,none⟩ = some (.slice A0_7 l0_7.length c0_7):=(blk_cell BK634.out 7).trans rfl;have hfz33_0:=blk_frozen BK634.out 0;have hfz33_1:=blk_frozen BK634.out 1;have hfz33_2:=blk_frozen BK634.out 2;have hfz33_3:=blk_frozen BK634.out 3;have hfz33_4:=blk_frozen BK634.out 4;have hfz33_5:=blk_frozen BK634.out 5;have hfz33_6:=blk_frozen BK634.out 6;have hfz33_7:=blk_frozen BK634.out 7;have hcz34_0 : w31.cell? ⟨gb635,0,none⟩ = some (.int .i64 a1_0):=(blk_cell BK635.out 0).trans rfl;have hcz34_1 : w31.cell? ⟨gb635,1,none⟩ = some (.int .i64 a1_1):=(blk_cell BK635.out 1).trans rfl;have hcz34_2 : w31.cell? ⟨gb635,2,none⟩ = some (.int .i64 a1_2):=(blk_cell BK635.out 2).trans rfl;have hcz34_3 : w31.cell? ⟨gb635,3,none⟩ = some (.bool a1_3):=(blk_cell BK635.out 3).trans rfl;have hcz34_4 : w31.cell? ⟨gb635,4,none⟩ = some (.int .u32 a1_4):=(blk_cell BK635.out 4).trans rfl;have hcz34_5 : w31.cell? ⟨gb635,5,none⟩ = some (.bool a1_5):=(blk_cell BK635.out 5).trans rfl;have hcz34_6 : w31.cell? ⟨gb635,6,none⟩ = some (.int .i64 a1_6):=(blk_cell BK635.out 6).trans rfl;have hcz34_7 : w31.cell? ⟨gb635,7,none⟩ = some (.slice A1_7 l1_7.length c1_7):=(blk_cell BK635.out 7).trans rfl;have hfz34_0:=blk_frozen BK635.out 0;have hfz34_1:=blk_frozen BK635.out 1;have hfz34_2:=blk_frozen BK635.out 2;have hfz34_3:=blk_frozen BK635.out 3;have hfz34_4:=blk_frozen BK635.out 4;have hfz34_5:=blk_frozen BK635.out 5;have hfz34_6:=blk_frozen BK635.out 6;have hfz34_7:=blk_frozen BK635.out 7))
  go_ret
  exact ⟨by first | rfl | (simp [errW_none,errW_some] <;> rfl) | (simp [*,errW_none,errW_some] <;> rfl),by repeat (first | (with_reducible first | exact HB.out | apply below_alloc | apply pw_below_drewN | apply below_drew1 | refine below_set ?_ GE634.out | refine below_set ?_ GE635.out) | exact HB.out)⟩
def laws_eqEventS.l0 : Nat → List (S56) → List (S56) → Int → Option (Bool)
 | 0,_,_,_ => none
 | k + 1,x0,x1,x5 => if x5 < (x0.length : Int) then (if 0 ≤ x5 then (if x5 < (x1.length : Int) then ((laws_eqEvent.f k ((rd_T56 x0 x5).f0) ((rd_T56 x0 x5).f1) ((rd_T56 x0 x5).f2) ((rd_T56 x0 x5).f3.f0) ((rd_T56 x0 x5).f3.f1) ((rd_T56 x0 x5).f3.f2) ((rd_T56 x0 x5).f3.f3) ((rd_T56 x0 x5).f3.f4) ((rd_T56 x1 x5).f0) ((rd_T56 x1 x5).f1) ((rd_T56 x1 x5).f2) ((rd_T56 x1 x5).f3.f0) ((rd_T56 x1 x5).f3.f1) ((rd_T56 x1 x5).f3.f2) ((rd_T56 x1 x5).f3.f3) ((rd_T56 x1 x5).f3.f4)).bind fun t639 => (if t639 = true then (laws_eqEventS.l0 k x0 x1 (wrap64 (x5 + 1))) else (some false))) else (none)) else (none)) else (some true)
def laws_eqEventS.f (k : Nat) (l0 : List (S56)) (l1 : List (S56)) : Option (Bool):=if (l0.length : Int) = (l1.length : Int) then (laws_eqEventS.l0 k l0 l1 0) else (some false)
def laws_eqEventS.T6 : Bool × List (List Nat × List Nat):=(true, [([], []),([], []),([0,1], [0,1]),([2], [2]),([], []),([], []),([4,5], [4,5]),([6], [6]),([3,7], [3,7]),([8], [8])])
def laws_eqEventS.B6 : List Nat := [0,0,3,7,0,0,48,112,255,511]
theorem laws_eqEventS.tab6 : rtab .any (opsOf Try.f46 6) = laws_eqEventS.T6:=by kernel_rfl
theorem laws_eqEventS.bits6 : waitsOk laws_eqEventS.T6.2 laws_eqEventS.B6 = true:=by kernel_rfl
set_option maxHeartbeats 8000000 in
set_option maxRecDepth 100000 in
theorem laws_eqEventS.calls (k : Nat) (A0 : Option Addr) (c0 : Nat) (l0 : List (S56)) (A1 : Option Addr) (c1 : Nat) (l1 : List (S56)) (r : Bool) (w : World) (hr0 : Kd.C k56 w A0 l0.length l0) (hc0 : l0.length ≤ c0) (hr1 : Kd.C k56 w A1 l1.length l1) (hc1 : l1.length ≤ c1) (h : laws_eqEventS.f k l0 l1 = some r) :
  Calls Try.prog 46 #[.slice A0 l0.length c0, .slice A1 l1.length c1] w fun e w' => e = .returned (.bool r) ∧ Below w.heap.size w w':=by
 have hu56:=Try.underlying56
 have HR0:=Aside0.mk hr0
 have HC0:=Aside0.mk hc0
 clear hr0 hc0
 have HR1:=Aside0.mk hr1
 have HC1:=Aside0.mk hc1
 clear hr1 hc1
 have HB:=Aside0.mk (Below.refl w.heap.size w)
 have H : (if (l0.length : Int) = (l1.length : Int) then (laws_eqEventS.l0 k l0 l1 0) else (some false)) = some r:=h
 clear h
 by_cases c3 : (l0.length : Int) = (l1.length : Int)
 ·rw [if_pos c3] at H
  have c3b0 : ((l0.length : Int) == (l1.length : Int)) = true:=beq_iff_eq.mpr c3
  have c3b1 : ((l0.length : Int) != (l1.length : Int)) = false:=bne_eq_false_iff_eq.mpr c3
  have c3b2 : (l0.length == l1.length) = true:=by first | simpa using c3 | (simp at c3 ⊢;omega)
  clear c3
  have H':=Aside0.mk H
  clear H
  go_enter Try.func46,Try.ntmps46
  go_wp2
  go_loopg [5] k (fun kq v5 w' => ∃ (x5_1 : Int),v5 = .int .i64 x5_1 ∧ Aside0 (laws_eqEventS.l0 kq l0 l1 x5_1 = some r) ∧ Aside0 (kq ≤ k) ∧ Aside0 (Below w.heap.size w w'))
  case atStart => exact ⟨(0),(by first | rfl | (simp;done) | (simp [*];done)),H',⟨Nat.le_refl _⟩,⟨by repeat (first | (with_reducible first | exact HB.out | apply below_alloc | apply pw_below_drewN | apply below_drew1) | exact HB.out)⟩⟩
  case round =>
   clear H'
   try clear c1
   try clear p2
   try clear c3
   try clear c3b0
   try clear c3b1
   try clear c3b2
   obtain ⟨x5_1,rfl,HA,HK1,HB⟩:=hrel
   cases gk with
   | zero => exact absurd HA.out (by simp [laws_eqEventS.l0])
   | succ k1 =>
    have H:=HA.out
    clear HA
    simp only [laws_eqEventS.l0] at H
    by_cases c4 : x5_1 < (l0.length : Int)
    ·rw [if_pos c4] at H
     have c4b0 : decide (x5_1 < (l0.length : Int)) = true:=decide_eq_true c4
     clear c4
     by_cases c5 : 0 ≤ x5_1
     ·rw [if_pos c5] at H
      have c5b0 : decide (0 ≤ x5_1) = true:=decide_eq_true c5
      clear c5
      by_cases c6 : x5_1 < (l1.length : Int)
      ·rw [if_pos c6] at H
       have c6b0 : decide (x5_1 < (l1.length : Int)) = true:=decide_eq_true c6
       clear c6
       replace H:=Option.bind_eq_some_iff.mp H
       obtain ⟨t639,A70,H⟩:=H
       replace H : (if t639 = true then (laws_eqEventS.l0 k1 l0 l1 (wrap64 (x5_1 + 1))) else (some false)) = some r:=H
       have A7:=Aside0.mk A70
       clear A70
       by_cases c8 : t639 = true
       ·subst c8
        have H1 : (laws_eqEventS.l0 k1 l0 l1 (wrap64 (x5_1 + 1))) = some r:=by rw [if_pos rfl] at H;exact H
        clear H
        have H:=H1
        clear H1
        have H':=Aside0.mk H
        clear H
        try go_wp2
        have n0_:=Aside0.mk (below_drew1 HB.out)
        clear HB
        have HB:=n0_
        clear n0_
        have p637 : 0 ≤ (x5_1 : Int):=of_decide_eq_true (by first | (with_reducible assumption) | assumption)
        have q637 : x5_1 < (l0.length : Int):=of_decide_eq_true (by first | (with_reducible assumption) | assumption)
        obtain ⟨ad637,A637_7,c637_7,e637,hx637_0,hx637_1,hx637_2,hx637_3,hx637_4,hx637_5,hx637_6,hx637_7,hl637_7,hi637_7⟩:=at_T56 HR0.out x5_1 p637 q637
        have hw637_7:=hx637_7
        have hw637_6:=hx637_6
        have hw637_5:=hx637_5
        have hw637_4:=hx637_4
        have hw637_3:=hx637_3
        have hw637_2:=hx637_2
        have hw637_1:=hx637_1
        have hw637_0:=hx637_0
        cases e637
        replace hx637_0:=(HB.out.cell (World.block_lt_of_cell? w _ hx637_0)).trans hx637_0
        replace hx637_1:=(HB.out.cell (World.block_lt_of_cell? w _ hx637_1)).trans hx637_1
        replace hx637_2:=(HB.out.cell (World.block_lt_of_cell? w _ hx637_2)).trans hx637_2
        replace hx637_3:=(HB.out.cell (World.block_lt_of_cell? w _ hx637_3)).trans hx637_3
        replace hx637_4:=(HB.out.cell (World.block_lt_of_cell? w _ hx637_4)).trans hx637_4
        replace hx637_5:=(HB.out.cell (World.block_lt_of_cell? w _ hx637_5)).trans hx637_5
        replace hx637_6:=(HB.out.cell (World.block_lt_of_cell? w _ hx637_6)).trans hx637_6
        replace hx637_7:=(HB.out.cell (World.block_lt_of_cell? w _ hx637_7)).trans hx637_7
        have HR637_7:=Aside0.mk hi637_7
        have HC637_7:=Aside0.mk hl637_7
        clear hi637_7 hl637_7
        replace p637:=eq_true p637
        replace q637:=eq_true q637
        have p638 : 0 ≤ (x5_1 : Int):=of_decide_eq_true (by first | (with_reducible assumption) | assumption)
        have q638 : x5_1 < (l1.length : Int):=of_decide_eq_true (by first | (with_reducible assumption) | assumption)
        obtain ⟨ad638,A638_7,c638_7,e638,hx638_0,hx638_1,hx638_2,hx638_3,hx638_4,hx638_5,hx638_6,hx638_7,hl638_7,hi638_7⟩:=at_T56 HR1.out x5_1 p638 q638
        have hw638_7:=hx638_7
        have hw638_6:=hx638_6
        have hw638_5:=hx638_5
        have hw638_4:=hx638_4
        have hw638_3:=hx638_3
        have hw638_2:=hx638_2
        have hw638_1:=hx638_1
        have hw638_0:=hx638_0
        cases e638
        replace hx638_0:=(HB.out.cell (World.block_lt_of_cell? w _ hx638_0)).trans hx638_0
        replace hx638_1:=(HB.out.cell (World.block_lt_of_cell? w _ hx638_1)).trans hx638_1
        replace hx638_2:=(HB.out.cell (World.block_lt_of_cell? w _ hx638_2)).trans hx638_2
        replace hx638_3:=(HB.out.cell (World.block_lt_of_cell? w _ hx638_3)).trans hx638_3
        replace hx638_4:=(HB.out.cell (World.block_lt_of_cell? w _ hx638_4)).trans hx638_4
        replace hx638_5:=(HB.out.cell (World.block_lt_of_cell? w _ hx638_5)).trans hx638_5
        replace hx638_6:=(HB.out.cell (World.block_lt_of_cell? w _ hx638_6)).trans hx638_6
        replace hx638_7:=(HB.out.cell (World.block_lt_of_cell? w _ hx638_7)).trans hx638_7
        have HR638_7:=Aside0.mk hi638_7
        have HC638_7:=Aside0.mk hl638_7
        clear hi638_7 hl638_7
        replace p638:=eq_true p638
        replace q638:=eq_true q638
        refine start_ (n:=10) (S:=fun w' => w'.cell? (ad637.add ((x5_1).toNat * 8)) = some (.int .i64 ((rd_T56 l0 x5_1).f0)) ∧ w'.cell? ⟨(ad637.add ((x5_1).toNat * 8)).block,(ad637.add ((x5_1).toNat * 8)).off + 1,none⟩ = some (.int .i64 ((rd_T56 l0 x5_1).f1)) ∧ w'.cell? ⟨(ad637.add ((x5_1).toNat * 8)).block,(ad637.add ((x5_1).toNat * 8)).off + 2,none⟩ = some (.int .i64 ((rd_T56 l0 x5_1).f2)) ∧ w'.cell? ⟨(ad637.add ((x5_1).toNat * 8)).block,(ad637.add ((x5_1).toNat * 8)).off + 3,none⟩ = some (.bool ((rd_T56 l0 x5_1).f3.f0)) ∧ w'.cell? ⟨(ad637.add ((x5_1).toNat * 8)).block,(ad637.add ((x5_1).toNat * 8)).off + 4,none⟩ = some (.int .u32 ((rd_T56 l0 x5_1).f3.f1)) ∧ w'.cell? ⟨(ad637.add ((x5_1).toNat * 8)).block,(ad637.add ((x5_1).toNat * 8)).off + 5,none⟩ = some (.bool ((rd_T56 l0 x5_1).f3.f2)) ∧ w'.cell? ⟨(ad637.add ((x5_1).toNat * 8)).block,(ad637.add ((x5_1).toNat * 8)).off + 6,none⟩ = some (.int .i64 ((rd_T56 l0 x5_1).f3.f3)) ∧ w'.cell? ⟨(ad637.add ((x5_1).toNat * 8)).block,(ad637.add ((x5_1).toNat * 8)).off + 7,none⟩ = some (.slice A637_7 ((rd_T56 l0 x5_1).f3.f4).length c637_7) ∧ w'.cell? (ad638.add ((x5_1).toNat * 8)) = some (.int .i64 ((rd_T56 l1 x5_1).f0)) ∧ w'.cell? ⟨(ad638.add ((x5_1).toNat * 8)).block,(ad638.add ((x5_1).toNat * 8)).off + 1,none⟩ = some (.int .i64 ((rd_T56 l1 x5_1).f1)) ∧ w'.cell? ⟨(ad638.add ((x5_1).toNat * 8)).block,(ad638.add ((x5_1).toNat * 8)).off + 2,none⟩ = some (.int .i64 ((rd_T56 l1 x5_1).f2)) ∧ w'.cell? ⟨(ad638.add ((x5_1).toNat * 8)).block,(ad638.add ((x5_1).toNat * 8)).off + 3,none⟩ = some (.bool ((rd_T56 l1 x5_1).f3.f0)) ∧ w'.cell? ⟨(ad638.add ((x5_1).toNat * 8)).block,(ad638.add ((x5_1).toNat * 8)).off + 4,none⟩ = some (.int .u32 ((rd_T56 l1 x5_1).f3.f1)) ∧ w'.cell? ⟨(ad638.add ((x5_1).toNat * 8)).block,(ad638.add ((x5_1).toNat * 8)).off + 5,none⟩ = some (.bool ((rd_T56 l1 x5_1).f3.f2)) ∧ w'.cell? ⟨(ad638.add ((x5_1).toNat * 8)).block,(ad638.add ((x5_1).toNat * 8)).off + 6,none⟩ = some (.int .i64 ((rd_T56 l1 x5_1).f3.f3)) ∧ w'.cell? ⟨(ad638.add ((x5_1).toNat * 8)).block,(ad638.add ((x5_1).toNat * 8)).off + 7,none⟩ = some (.slice A638_7 ((rd_T56 l1 x5_1).f3.f4).length c638_7)) (ds := []) #[false,false,false,false,false,false,false,false,false,false] (by kernel_rfl) rfl rfl ⟨((HB.out.cell (World.block_lt_of_cell? w _ hw637_0)).trans hw637_0),((HB.out.cell (World.block_lt_of_cell? w _ hw637_1)).trans hw637_1),((HB.out.cell (World.block_lt_of_cell? w _ hw637_2)).trans hw637_2),((HB.out.cell (World.block_lt_of_cell? w _ hw637_3)).trans hw637_3),((HB.out.cell (World.block_lt_of_cell? w _ hw637_4)).trans hw637_4),((HB.out.cell (World.block_lt_of_cell? w _ hw637_5)).trans hw637_5),((HB.out.cell (World.block_lt_of_cell? w _ hw637_6)).trans hw637_6),((HB.out.cell (World.block_lt_of_cell? w _ hw637_7)).trans hw637_7),((HB.out.cell (World.block_lt_of_cell? w _ hw638_0)).trans hw638_0),((HB.out.cell (World.block_lt_of_cell? w _ hw638_1)).trans hw638_1),((HB.out.cell (World.block_lt_of_cell? w _ hw638_2)).trans hw638_2),((HB.out.cell (World.block_lt_of_cell? w _ hw638_3)).trans hw638_3),((HB.out.cell (World.block_lt_of_cell? w _ hw638_4)).trans hw638_4),((HB.out.cell (World.block_lt_of_cell? w _ hw638_5)).trans hw638_5),((HB.out.cell (World.block_lt_of_cell? w _ hw638_6)).trans hw638_6),((HB.out.cell (World.block_lt_of_cell? w _ hw638_7)).trans hw638_7)⟩ (fun hHeld => ?_);refine with_tabW laws_eqEventS.tab6 laws_eqEventS.bits6 (fun HT_ HW_ => ?_)
        generalize wr.drew = w9 at HB HR637_7 HR638_7 hx637_0 hx637_1 hx637_2 hx637_3 hx637_4 hx637_5 hx637_6 hx637_7 hx638_0 hx638_1 hx638_2 hx638_3 hx638_4 hx638_5 hx638_6 hx638_7 hHeld ⊢
        refine pure_ (i:=0) (N:=some 17) (v := ?_) (a' := ?_) #[true,false,false,false,false,false,false,false,false,false] rfl rfl (any_of HT_.out (by kernel_rfl)) (fun _ _ _ h => h) (Or.inl ⟨by rfl, ?_⟩) ?_ ?_
        rotate_left
        ·intro w'
         go_simp
         with_reducible rfl
        rotate_left
        ·simp only [Act.put,List.setIfInBounds_toArray,List.set_cons_zero,List.set_cons_succ,i64_w,i32_w]
         rfl
        refine pure_ (i:=1) (N:=some 18) (v := ?_) (a' := ?_) #[true,true,false,false,false,false,false,false,false,false] rfl rfl (any_of HT_.out (by kernel_rfl)) (fun _ _ _ h => h) (Or.inl ⟨by rfl, ?_⟩) ?_ ?_
        rotate_left
        ·intro w'
         go_simp
         with_reducible rfl
        rotate_left
        ·simp only [Act.put,List.setIfInBounds_toArray,List.set_cons_zero,List.set_cons_succ,i64_w,i32_w]
         rfl
        refine pure_ (i:=2) (N:=some 19) (v := ?_) (a' := ?_) #[true,true,true,false,false,false,false,false,false,false] rfl rfl (any_of HT_.out (by kernel_rfl)) (fun _ _ _ h => h) (Or.inl ⟨by rfl, ?_⟩) ?_ ?_
        rotate_left
        ·intro w'
         go_simp
         with_reducible rfl
        rotate_left
        ·simp only [Act.put,List.setIfInBounds_toArray,List.set_cons_zero,List.set_cons_succ,i64_w,i32_w]
         rfl
        refine pure_ (i:=4) (N:=some 21) (v := ?_) (a' := ?_) #[true,true,true,false,true,false,false,false,false,false] rfl rfl (any_of HT_.out (by kernel_rfl)) (fun _ _ _ h => h) (Or.inl ⟨by rfl, ?_⟩) ?_ ?_
        rotate_left
        ·intro w'
         go_simp
         with_reducible rfl
        rotate_left
        ·simp only [Act.put,List.setIfInBounds_toArray,List.set_cons_zero,List.set_cons_succ,i64_w,i32_w]
         rfl
        refine pure_ (i:=5) (N:=some 22) (v := ?_) (a' := ?_) #[true,true,true,false,true,true,false,false,false,false] rfl rfl (any_of HT_.out (by kernel_rfl)) (fun _ _ _ h => h) (Or.inl ⟨by rfl, ?_⟩) ?_ ?_
        rotate_left
        ·intro w'
         go_simp
         with_reducible rfl
        rotate_left
        ·simp only [Act.put,List.setIfInBounds_toArray,List.set_cons_zero,List.set_cons_succ,i64_w,i32_w]
         rfl
        refine pure_ (i:=6) (N:=some 23) (v := ?_) (a' := ?_) #[true,true,true,false,true,true,true,false,false,false] rfl rfl (any_of HT_.out (by kernel_rfl)) (fun _ _ _ h => h) (Or.inl ⟨by rfl, ?_⟩) ?_ ?_
        rotate_left
        ·intro w'
         go_simp
         with_reducible rfl
        rotate_left
        ·simp only [Act.put,List.setIfInBounds_toArray,List.set_cons_zero,List.set_cons_succ,i64_w,i32_w]
         rfl
        refine take_ (i:=3) (N:=some 20) (v := ?_) (a' := ?_) #[true,true,true,true,true,true,true,false,false,false] rfl rfl (take_ofW HT_.out HW_.out (by kernel_rfl)) (fun _ _ _ h => h) (Or.inl ⟨by rfl, ?_⟩) hHeld ?_ ?_
        rotate_left
        ·rintro w' ⟨s0,s1,s2,s3,s4,s5,s6,s7,s8,s9,s10,s11,s12,s13,s14,s15⟩
         go_simp
         with_reducible rfl
        rotate_left
        ·simp only [Act.put,List.setIfInBounds_toArray,List.set_cons_zero,List.set_cons_succ,i64_w,i32_w]
         rfl
        refine take_ (i:=7) (N:=some 24) (v := ?_) (a' := ?_) #[true,true,true,true,true,true,true,true,false,false] rfl rfl (take_ofW HT_.out HW_.out (by kernel_rfl)) (fun _ _ _ h => h) (Or.inl ⟨by rfl, ?_⟩) hHeld ?_ ?_
        rotate_left
        ·rintro w' ⟨s0,s1,s2,s3,s4,s5,s6,s7,s8,s9,s10,s11,s12,s13,s14,s15⟩
         go_simp
         with_reducible rfl
        rotate_left
        ·simp only [Act.put,List.setIfInBounds_toArray,List.set_cons_zero,List.set_cons_succ,i64_w,i32_w]
         rfl
        refine one_ (i:=8) (N:=some 25) #[true,true,true,true,true,true,true,true,true,false] rfl rfl (one_of HT_.out (by kernel_rfl)) (by decide) (fun K hK => ?_)
        refine goes_ Try.func98 (by kernel_rfl) rfl #[.agg #[.int .i64 ((rd_T56 l0 x5_1).f0), .int .i64 ((rd_T56 l0 x5_1).f1), .int .i64 ((rd_T56 l0 x5_1).f2), .bool ((rd_T56 l0 x5_1).f3.f0), .int .u32 ((rd_T56 l0 x5_1).f3.f1), .bool ((rd_T56 l0 x5_1).f3.f2), .int .i64 ((rd_T56 l0 x5_1).f3.f3), .slice A637_7 ((rd_T56 l0 x5_1).f3.f4).length c637_7], .agg #[.int .i64 ((rd_T56 l1 x5_1).f0), .int .i64 ((rd_T56 l1 x5_1).f1), .int .i64 ((rd_T56 l1 x5_1).f2), .bool ((rd_T56 l1 x5_1).f3.f0), .int .u32 ((rd_T56 l1 x5_1).f3.f1), .bool ((rd_T56 l1 x5_1).f3.f2), .int .i64 ((rd_T56 l1 x5_1).f3.f3), .slice A638_7 ((rd_T56 l1 x5_1).f3.f4).length c638_7]] (by rfl) rfl rfl (by (try simp only [List.map_toArray,List.map_cons,List.map_nil]);first | done | rfl | (simp only [List.length_drop,List.length_take];rfl)) ?_
        with_reducible refine (laws_eqEvent.calls k1 ((rd_T56 l0 x5_1).f0) ((rd_T56 l0 x5_1).f1) ((rd_T56 l0 x5_1).f2) ((rd_T56 l0 x5_1).f3.f0) ((rd_T56 l0 x5_1).f3.f1) ((rd_T56 l0 x5_1).f3.f2) ((rd_T56 l0 x5_1).f3.f3) _ _ ((rd_T56 l0 x5_1).f3.f4) ((rd_T56 l1 x5_1).f0) ((rd_T56 l1 x5_1).f1) ((rd_T56 l1 x5_1).f2) ((rd_T56 l1 x5_1).f3.f0) ((rd_T56 l1 x5_1).f3.f1) ((rd_T56 l1 x5_1).f3.f2) ((rd_T56 l1 x5_1).f3.f3) _ _ ((rd_T56 l1 x5_1).f3.f4) true _ ?side1 ?side2 ?side3 ?side4 A7.out).mono ?_
        (case side1 => repeat (first | exact (Kd.C_below HR637_7.out HB.out) | (with_reducible refine Kd.C_alloc ?_ _) | (with_reducible refine Kd.C_drewN ?_ _) | (with_reducible refine Kd.C_drew ?_)))
        (case side2 => exact HC637_7.out)
        (case side3 => repeat (first | exact (Kd.C_below HR638_7.out HB.out) | (with_reducible refine Kd.C_alloc ?_ _) | (with_reducible refine Kd.C_drewN ?_ _) | (with_reducible refine Kd.C_drew ?_)))
        (case side4 => exact HC638_7.out)
        rintro e w10 ⟨rfl,hb⟩
        refine ⟨_,rfl, ?_⟩
        have n0_:=Aside0.mk (below_step (by repeat (first | (with_reducible first | exact HB.out | apply below_alloc | apply pw_below_drewN | apply below_drew1) | exact HB.out)) hb)
        clear HB
        have HB:=n0_
        clear n0_
        (try clear hb)
        (try clear hb2)
        (try clear hk)
        (try clear hi)
        refine hK.out _ _ ⟨((HB.out.cell (World.block_lt_of_cell? w _ hw637_0)).trans hw637_0),((HB.out.cell (World.block_lt_of_cell? w _ hw637_1)).trans hw637_1),((HB.out.cell (World.block_lt_of_cell? w _ hw637_2)).trans hw637_2),((HB.out.cell (World.block_lt_of_cell? w _ hw637_3)).trans hw637_3),((HB.out.cell (World.block_lt_of_cell? w _ hw637_4)).trans hw637_4),((HB.out.cell (World.block_lt_of_cell? w _ hw637_5)).trans hw637_5),((HB.out.cell (World.block_lt_of_cell? w _ hw637_6)).trans hw637_6),((HB.out.cell (World.block_lt_of_cell? w _ hw637_7)).trans hw637_7),((HB.out.cell (World.block_lt_of_cell? w _ hw638_0)).trans hw638_0),((HB.out.cell (World.block_lt_of_cell? w _ hw638_1)).trans hw638_1),((HB.out.cell (World.block_lt_of_cell? w _ hw638_2)).trans hw638_2),((HB.out.cell (World.block_lt_of_cell? w _ hw638_3)).trans hw638_3),((HB.out.cell (World.block_lt_of_cell? w _ hw638_4)).trans hw638_4),((HB.out.cell (World.block_lt_of_cell? w _ hw638_5)).trans hw638_5),((HB.out.cell (World.block_lt_of_cell? w _ hw638_6)).trans hw638_6),((HB.out.cell (World.block_lt_of_cell? w _ hw638_7)).trans hw638_7)⟩ (fun hHeld => ?_)
        clear hK K
        refine norm_ (a' := ?_) ?_ ?_
        rotate_left
        ·show Act.put _ (some 25) _ = _
         simp only [Act.put,List.setIfInBounds_toArray,List.set_cons_zero,List.set_cons_succ,i64_w,i32_w]
         rfl
        refine pure_ (i:=9) (N:=some 26) (v := ?_) (a' := ?_) #[true,true,true,true,true,true,true,true,true,true] rfl rfl (any_of HT_.out (by kernel_rfl)) (fun _ _ _ h => h) (Or.inl ⟨by rfl, ?_⟩) ?_ ?_
        rotate_left
        ·intro w'
         go_simp
         with_reducible rfl
        rotate_left
        ·simp only [Act.put,List.setIfInBounds_toArray,List.set_cons_zero,List.set_cons_succ,i64_w,i32_w]
         rfl
        refine done_ (done_of HT_.out (by kernel_rfl)) ?_
        try go_wp2
        go_roundg k1
        case measure => have:=HK1.out;omega
        case rel => exact ⟨(wrap64 (x5_1 + 1)),(by first | rfl | (simp;done) | (simp [*];done)),H',⟨by have:=HK1.out;omega⟩,⟨by repeat (first | (with_reducible first | exact HB.out | apply below_alloc | apply pw_below_drewN | apply below_drew1) | exact HB.out)⟩⟩
       ·replace c8:=Bool.eq_false_iff.mpr c8
        subst c8
        have H1 : (some false) = some r:=by rw [if_neg (show ¬ (false = true) by decide)] at H;exact H
        clear H
        have H:=H1
        clear H1
        obtain rfl:=Option.some.inj H
        try go_wp2
        have n0_:=Aside0.mk (below_drew1 HB.out)
        clear HB
        have HB:=n0_
        clear n0_
        have p637 : 0 ≤ (x5_1 : Int):=of_decide_eq_true (by first | (with_reducible assumption) | assumption)
        have q637 : x5_1 < (l0.length : Int):=of_decide_eq_true (by first | (with_reducible assumption) | assumption)
        obtain ⟨ad637,A637_7,c637_7,e637,hx637_0,hx637_1,hx637_2,hx637_3,hx637_4,hx637_5,hx637_6,hx637_7,hl637_7,hi637_7⟩:=at_T56 HR0.out x5_1 p637 q637
        have hw637_7:=hx637_7
        have hw637_6:=hx637_6
        have hw637_5:=hx637_5
        have hw637_4:=hx637_4
        have hw637_3:=hx637_3
        have hw637_2:=hx637_2
        have hw637_1:=hx637_1
        have hw637_0:=hx637_0
        cases e637
        replace hx637_0:=(HB.out.cell (World.block_lt_of_cell? w _ hx637_0)).trans hx637_0
        replace hx637_1:=(HB.out.cell (World.block_lt_of_cell? w _ hx637_1)).trans hx637_1
        replace hx637_2:=(HB.out.cell (World.block_lt_of_cell? w _ hx637_2)).trans hx637_2
        replace hx637_3:=(HB.out.cell (World.block_lt_of_cell? w _ hx637_3)).trans hx637_3
        replace hx637_4:=(HB.out.cell (World.block_lt_of_cell? w _ hx637_4)).trans hx637_4
        replace hx637_5:=(HB.out.cell (World.block_lt_of_cell? w _ hx637_5)).trans hx637_5
        replace hx637_6:=(HB.out.cell (World.block_lt_of_cell? w _ hx637_6)).trans hx637_6
        replace hx637_7:=(HB.out.cell (World.block_lt_of_cell? w _ hx637_7)).trans hx637_7
        have HR637_7:=Aside0.mk hi637_7
        have HC637_7:=Aside0.mk hl637_7
        clear hi637_7 hl637_7
        replace p637:=eq_true p637
        replace q637:=eq_true q637
        have p638 : 0 ≤ (x5_1 : Int):=of_decide_eq_true (by first | (with_reducible assumption) | assumption)
        have q638 : x5_1 < (l1.length : Int):=of_decide_eq_true (by first | (with_reducible assumption) | assumption)
        obtain ⟨ad638,A638_7,c638_7,e638,hx638_0,hx638_1,hx638_2,hx638_3,hx638_4,hx638_5,hx638_6,hx638_7,hl638_7,hi638_7⟩:=at_T56 HR1.out x5_1 p638 q638
        have hw638_7:=hx638_7
        have hw638_6:=hx638_6
        have hw638_5:=hx638_5
        have hw638_4:=hx638_4
        have hw638_3:=hx638_3
        have hw638_2:=hx638_2
        have hw638_1:=hx638_1
        have hw638_0:=hx638_0
        cases e638
        replace hx638_0:=(HB.out.cell (World.block_lt_of_cell? w _ hx638_0)).trans hx638_0
        replace hx638_1:=(HB.out.cell (World.block_lt_of_cell? w _ hx638_1)).trans hx638_1
        replace hx638_2:=(HB.out.cell (World.block_lt_of_cell? w _ hx638_2)).trans hx638_2
        replace hx638_3:=(HB.out.cell (World.block_lt_of_cell? w _ hx638_3)).trans hx638_3
        replace hx638_4:=(HB.out.cell (World.block_lt_of_cell? w _ hx638_4)).trans hx638_4
        replace hx638_5:=(HB.out.cell (World.block_lt_of_cell? w _ hx638_5)).trans hx638_5
        replace hx638_6:=(HB.out.cell (World.block_lt_of_cell? w _ hx638_6)).trans hx638_6
        replace hx638_7:=(HB.out.cell (World.block_lt_of_cell? w _ hx638_7)).trans hx638_7
        have HR638_7:=Aside0.mk hi638_7
        have HC638_7:=Aside0.mk hl638_7
        clear hi638_7 hl638_7
        replace p638:=eq_true p638
        replace q638:=eq_true q638
        refine start_ (n:=10) (S:=fun w' => w'.cell? (ad637.add ((x5_1).toNat * 8)) = some (.int .i64 ((rd_T56 l0 x5_1).f0)) ∧ w'.cell? ⟨(ad637.add ((x5_1).toNat * 8)).block,(ad637.add ((x5_1).toNat * 8)).off + 1,none⟩ = some (.int .i64 ((rd_T56 l0 x5_1).f1)) ∧ w'.cell? ⟨(ad637.add ((x5_1).toNat * 8)).block,(ad637.add ((x5_1).toNat * 8)).off + 2,none⟩ = some (.int .i64 ((rd_T56 l0 x5_1).f2)) ∧ w'.cell? ⟨(ad637.add ((x5_1).toNat * 8)).block,(ad637.add ((x5_1).toNat * 8)).off + 3,none⟩ = some (.bool ((rd_T56 l0 x5_1).f3.f0)) ∧ w'.cell? ⟨(ad637.add ((x5_1).toNat * 8)).block,(ad637.add ((x5_1).toNat * 8)).off + 4,none⟩ = some (.int .u32 ((rd_T56 l0 x5_1).f3.f1)) ∧ w'.cell? ⟨(ad637.add ((x5_1).toNat * 8)).block,(ad637.add ((x5_1).toNat * 8)).off + 5,none⟩ = some (.bool ((rd_T56 l0 x5_1).f3.f2)) ∧ w'.cell? ⟨(ad637.add ((x5_1).toNat * 8)).block,(ad637.add ((x5_1).toNat * 8)).off + 6,none⟩ = some (.int .i64 ((rd_T56 l0 x5_1).f3.f3)) ∧ w'.cell? ⟨(ad637.add ((x5_1).toNat * 8)).block,(ad637.add ((x5_1).toNat * 8)).off + 7,none⟩ = some (.slice A637_7 ((rd_T56 l0 x5_1).f3.f4).length c637_7) ∧ w'.cell? (ad638.add ((x5_1).toNat * 8)) = some (.int .i64 ((rd_T56 l1 x5_1).f0)) ∧ w'.cell? ⟨(ad638.add ((x5_1).toNat * 8)).block,(ad638.add ((x5_1).toNat * 8)).off + 1,none⟩ = some (.int .i64 ((rd_T56 l1 x5_1).f1)) ∧ w'.cell? ⟨(ad638.add ((x5_1).toNat * 8)).block,(ad638.add ((x5_1).toNat * 8)).off + 2,none⟩ = some (.int .i64 ((rd_T56 l1 x5_1).f2)) ∧ w'.cell? ⟨(ad638.add ((x5_1).toNat * 8)).block,(ad638.add ((x5_1).toNat * 8)).off + 3,none⟩ = some (.bool ((rd_T56 l1 x5_1).f3.f0)) ∧ w'.cell? ⟨(ad638.add ((x5_1).toNat * 8)).block,(ad638.add ((x5_1).toNat * 8)).off + 4,none⟩ = some (.int .u32 ((rd_T56 l1 x5_1).f3.f1)) ∧ w'.cell? ⟨(ad638.add ((x5_1).toNat * 8)).block,(ad638.add ((x5_1).toNat * 8)).off + 5,none⟩ = some (.bool ((rd_T56 l1 x5_1).f3.f2)) ∧ w'.cell? ⟨(ad638.add ((x5_1).toNat * 8)).block,(ad638.add ((x5_1).toNat * 8)).off + 6,none⟩ = some (.int .i64 ((rd_T56 l1 x5_1).f3.f3)) ∧ w'.cell? ⟨(ad638.add ((x5_1).toNat * 8)).block,(ad638.add ((x5_1).toNat * 8)).off + 7,none⟩ = some (.slice A638_7 ((rd_T56 l1 x5_1).f3.f4).length c638_7)) (ds := []) #[false,false,false,false,false,false,false,false,false,false] (by kernel_rfl) rfl rfl ⟨((HB.out.cell (World.block_lt_of_cell? w _ hw637_0)).trans hw637_0),((HB.out.cell (World.block_lt_of_cell? w _ hw637_1)).trans hw637_1),((HB.out.cell (World.block_lt_of_cell? w _ hw637_2)).trans hw637_2),((HB.out.cell (World.block_lt_of_cell? w _ hw637_3)).trans hw637_3),((HB.out.cell (World.block_lt_of_cell? w _ hw637_4)).trans hw637_4),((HB.out.cell (World.block_lt_of_cell? w _ hw637_5)).trans hw637_5),((HB.out.cell (World.block_lt_of_cell? w _ hw637_6)).trans hw637_6),((HB.out.cell (World.block_lt_of_cell? w _ hw637_7)).trans hw637_7),((HB.out.cell (World.block_lt_of_cell? w _ hw638_0)).trans hw638_0),((HB.out.cell (World.block_lt_of_cell? w _ hw638_1)).trans hw638_1),((HB.out.cell (World.block_lt_of_cell? w _ hw638_2)).trans hw638_2),((HB.out.cell (World.block_lt_of_cell? w _ hw638_3)).trans hw638_3),((HB.out.cell (World.block_lt_of_cell? w _ hw638_4)).trans hw638_4),((HB.out.cell (World.block_lt_of_cell? w _ hw638_5)).trans hw638_5),((HB.out.cell (World.block_lt_of_cell? w _ hw638_6)).trans hw638_6),((HB.out.cell (World.block_lt_of_cell? w _ hw638_7)).trans hw638_7)⟩ (fun hHeld => ?_);refine with_tabW laws_eqEventS.tab6 laws_eqEventS.bits6 (fun HT_ HW_ => ?_)
        generalize wr.drew = w11 at HB HR637_7 HR638_7 hx637_0 hx637_1 hx637_2 hx637_3 hx637_4 hx637_5 hx637_6 hx637_7 hx638_0 hx638_1 hx638_2 hx638_3 hx638_4 hx638_5 hx638_6 hx638_7 hHeld ⊢
        refine pure_ (i:=0) (N:=some 17) (v := ?_) (a' := ?_) #[true,false,false,false,false,false,false,false,false,false] rfl rfl (any_of HT_.out (by kernel_rfl)) (fun _ _ _ h => h) (Or.inl ⟨by rfl, ?_⟩) ?_ ?_
        rotate_left
        ·intro w'
         go_simp
         with_reducible rfl
        rotate_left
        ·simp only [Act.put,List.setIfInBounds_toArray,List.set_cons_zero,List.set_cons_succ,i64_w,i32_w]
         rfl
        refine pure_ (i:=1) (N:=some 18) (v := ?_) (a' := ?_) #[true,true,false,false,false,false,false,false,false,false] rfl rfl (any_of HT_.out (by kernel_rfl)) (fun _ _ _ h => h) (Or.inl ⟨by rfl, ?_⟩) ?_ ?_
        rotate_left
        ·intro w'
         go_simp
         with_reducible rfl
        rotate_left
        ·simp only [Act.put,List.setIfInBounds_toArray,List.set_cons_zero,List.set_cons_succ,i64_w,i32_w]
         rfl
        refine pure_ (i:=2) (N:=some 19) (v := ?_) (a' := ?_) #[true,true,true,false,false,false,false,false,false,false] rfl rfl (any_of HT_.out (by kernel_rfl)) (fun _ _ _ h => h) (Or.inl ⟨by rfl, ?_⟩) ?_ ?_
        rotate_left
        ·intro w'
         go_simp
         with_reducible rfl
        rotate_left
        ·simp only [Act.put,List.setIfInBounds_toArray,List.set_cons_zero,List.set_cons_succ,i64_w,i32_w]
         rfl
        refine pure_ (i:=4) (N:=some 21) (v := ?_) (a' := ?_) #[true,true,true,false,true,false,false,false,false,false] rfl rfl (any_of HT_.out (by kernel_rfl)) (fun _ _ _ h => h) (Or.inl ⟨by rfl, ?_⟩) ?_ ?_
        rotate_left
        ·intro w'
         go_simp
         with_reducible rfl
        rotate_left
        ·simp only [Act.put,List.setIfInBounds_toArray,List.set_cons_zero,List.set_cons_succ,i64_w,i32_w]
         rfl
        refine pure_ (i:=5) (N:=some 22) (v := ?_) (a' := ?_) #[true,true,true,false,true,true,false,false,false,false] rfl rfl (any_of HT_.out (by kernel_rfl)) (fun _ _ _ h => h) (Or.inl ⟨by rfl, ?_⟩) ?_ ?_
        rotate_left
        ·intro w'
         go_simp
         with_reducible rfl
        rotate_left
        ·simp only [Act.put,List.setIfInBounds_toArray,List.set_cons_zero,List.set_cons_succ,i64_w,i32_w]
         rfl
        refine pure_ (i:=6) (N:=some 23) (v := ?_) (a' := ?_) #[true,true,true,false,true,true,true,false,false,false] rfl rfl (any_of HT_.out (by kernel_rfl)) (fun _ _ _ h => h) (Or.inl ⟨by rfl, ?_⟩) ?_ ?_
        rotate_left
        ·intro w'
         go_simp
         with_reducible rfl
        rotate_left
        ·simp only [Act.put,List.setIfInBounds_toArray,List.set_cons_zero,List.set_cons_succ,i64_w,i32_w]
         rfl
        refine take_ (i:=3) (N:=some 20) (v := ?_) (a' := ?_) #[true,true,true,true,true,true,true,false,false,false] rfl rfl (take_ofW HT_.out HW_.out (by kernel_rfl)) (fun _ _ _ h => h) (Or.inl ⟨by rfl, ?_⟩) hHeld ?_ ?_
        rotate_left
        ·rintro w' ⟨s0,s1,s2,s3,s4,s5,s6,s7,s8,s9,s10,s11,s12,s13,s14,s15⟩
         go_simp
         with_reducible rfl
        rotate_left
        ·simp only [Act.put,List.setIfInBounds_toArray,List.set_cons_zero,List.set_cons_succ,i64_w,i32_w]
         rfl
        refine take_ (i:=7) (N:=some 24) (v := ?_) (a' := ?_) #[true,true,true,true,true,true,true,true,false,false] rfl rfl (take_ofW HT_.out HW_.out (by kernel_rfl)) (fun _ _ _ h => h) (Or.inl ⟨by rfl, ?_⟩) hHeld ?_ ?_
        rotate_left
        ·rintro w' ⟨s0,s1,s2,s3,s4,s5,s6,s7,s8,s9,s10,s11,s12,s13,s14,s15⟩
         go_simp
         with_reducible rfl
        rotate_left
        ·simp only [Act.put,List.setIfInBounds_toArray,List.set_cons_zero,List.set_cons_succ,i64_w,i32_w]
         rfl
        refine one_ (i:=8) (N:=some 25) #[true,true,true,true,true,true,true,true,true,false] rfl rfl (one_of HT_.out (by kernel_rfl)) (by decide) (fun K hK => ?_)
        refine goes_ Try.func98 (by kernel_rfl) rfl #[.agg #[.int .i64 ((rd_T56 l0 x5_1).f0), .int .i64 ((rd_T56 l0 x5_1).f1), .int .i64 ((rd_T56 l0 x5_1).f2), .bool ((rd_T56 l0 x5_1).f3.f0), .int .u32 ((rd_T56 l0 x5_1).f3.f1), .bool ((rd_T56 l0 x5_1).f3.f2), .int .i64 ((rd_T56 l0 x5_1).f3.f3), .slice A637_7 ((rd_T56 l0 x5_1).f3.f4).length c637_7], .agg #[.int .i64 ((rd_T56 l1 x5_1).f0), .int .i64 ((rd_T56 l1 x5_1).f1), .int .i64 ((rd_T56 l1 x5_1).f2), .bool ((rd_T56 l1 x5_1).f3.f0), .int .u32 ((rd_T56 l1 x5_1).f3.f1), .bool ((rd_T56 l1 x5_1).f3.f2), .int .i64 ((rd_T56 l1 x5_1).f3.f3), .slice A638_7 ((rd_T56 l1 x5_1).f3.f4).length c638_7]] (by rfl) rfl rfl (by (try simp only [List.map_toArray,List.map_cons,List.map_nil]);first | done | rfl | (simp only [List.length_drop,List.length_take];rfl)) ?_
        with_reducible refine (laws_eqEvent.calls k1 ((rd_T56 l0 x5_1).f0) ((rd_T56 l0 x5_1).f1) ((rd_T56 l0 x5_1).f2) ((rd_T56 l0 x5_1).f3.f0) ((rd_T56 l0 x5_1).f3.f1) ((rd_T56 l0 x5_1).f3.f2) ((rd_T56 l0 x5_1).f3.f3) _ _ ((rd_T56 l0 x5_1).f3.f4) ((rd_T56 l1 x5_1).f0) ((rd_T56 l1 x5_1).f1) ((rd_T56 l1 x5_1).f2) ((rd_T56 l1 x5_1).f3.f0) ((rd_T56 l1 x5_1).f3.f1) ((rd_T56 l1 x5_1).f3.f2) ((rd_T56 l1 x5_1).f3.f3) _ _ ((rd_T56 l1 x5_1).f3.f4) false _ ?side1 ?side2 ?side3 ?side4 A7.out).mono ?_
        (case side1 => repeat (first | exact (Kd.C_below HR637_7.out HB.out) | (with_reducible refine Kd.C_alloc ?_ _) | (with_reducible refine Kd.C_drewN ?_ _) | (with_reducible refine Kd.C_drew ?_)))
        (case side2 => exact HC637_7.out)
        (case side3 => repeat (first | exact (Kd.C_below HR638_7.out HB.out) | (with_reducible refine Kd.C_alloc ?_ _) | (with_reducible refine Kd.C_drewN ?_ _) | (with_reducible refine Kd.C_drew ?_)))
        (case side4 => exact HC638_7.out)
        rintro e w12 ⟨rfl,hb⟩
        refine ⟨_,rfl, ?_⟩
        have n0_:=Aside0.mk (below_step (by repeat (first | (with_reducible first | exact HB.out | apply below_alloc | apply pw_below_drewN | apply below_drew1) | exact HB.out)) hb)
        clear HB
        have HB:=n0_
        clear n0_
        (try clear hb)
        (try clear hb2)
        (try clear hk)
        (try clear hi)
        refine hK.out _ _ ⟨((HB.out.cell (World.block_lt_of_cell? w _ hw637_0)).trans hw637_0),((HB.out.cell (World.block_lt_of_cell? w _ hw637_1)).trans hw637_1),((HB.out.cell (World.block_lt_of_cell? w _ hw637_2)).trans hw637_2),((HB.out.cell (World.block_lt_of_cell? w _ hw637_3)).trans hw637_3),((HB.out.cell (World.block_lt_of_cell? w _ hw637_4)).trans hw637_4),((HB.out.cell (World.block_lt_of_cell? w _ hw637_5)).trans hw637_5),((HB.out.cell (World.block_lt_of_cell? w _ hw637_6)).trans hw637_6),((HB.out.cell (World.block_lt_of_cell? w _ hw637_7)).trans hw637_7),((HB.out.cell (World.block_lt_of_cell? w _ hw638_0)).trans hw638_0),((HB.out.cell (World.block_lt_of_cell? w _ hw638_1)).trans hw638_1),((HB.out.cell (World.block_lt_of_cell? w _ hw638_2)).trans hw638_2),((HB.out.cell (World.block_lt_of_cell? w _ hw638_3)).trans hw638_3),((HB.out.cell (World.block_lt_of_cell? w _ hw638_4)).trans hw638_4),((HB.out.cell (World.block_lt_of_cell? w _ hw638_5)).trans hw638_5),((HB.out.cell (World.block_lt_of_cell? w _ hw638_6)).trans hw638_6),((HB.out.cell (World.block_lt_of_cell? w _ hw638_7)).trans hw638_7)⟩ (fun hHeld => ?_)
        clear hK K
        refine norm_ (a' := ?_) ?_ ?_
        rotate_left
        ·show Act.put _ (some 25) _ = _
         simp only [Act.put,List.setIfInBounds_toArray,List.set_cons_zero,List.set_cons_succ,i64_w,i32_w]
         rfl
        refine pure_ (i:=9) (N:=some 26) (v := ?_) (a' := ?_) #[true,true,true,true,true,true,true,true,true,true] rfl rfl (any_of HT_.out (by kernel_rfl)) (fun _ _ _ h => h) (Or.inl ⟨by rfl, ?_⟩) ?_ ?_
        rotate_left
        ·intro w'
         go_simp
         with_reducible rfl
        rotate_left
        ·simp only [Act.put,List.setIfInBounds_toArray,List.set_cons_zero,List.set_cons_succ,i64_w,i32_w]
         rfl
        refine done_ (done_of HT_.out (by kernel_rfl)) ?_
        try go_wp2
        go_ret
        exact ⟨by first | rfl | (simp [errW_none,errW_some] <;> rfl) | (simp [*,errW_none,errW_some] <;> rfl),by repeat (first | (with_reducible first | exact HB.out | apply below_alloc | apply pw_below_drewN | apply below_drew1) | exact HB.out)⟩
      ·rw [if_neg c6] at H
       exact absurd H (by simp)
     ·rw [if_neg c5] at H
      exact absurd H (by simp)
    ·rw [if_neg c4] at H
     have c4b0 : decide (x5_1 < (l0.length : Int)) = false:=decide_eq_false c4
     clear c4
     obtain rfl:=Option.some.inj H
     go_wp2
     go_ret
     exact ⟨by first | rfl | (simp [errW_none,errW_some] <;> rfl) | (simp [*,errW_none,errW_some] <;> rfl),by repeat (first | (with_reducible first | exact HB.out | apply below_alloc | apply pw_below_drewN | apply below_drew1) | exact HB.out)⟩
 ·rw [if_neg c3] at H
  have c3b0 : ((l0.length : Int) == (l1.length : Int)) = false:=beq_eq_false_iff_ne.mpr c3
  have c3b1 : ((l0.length : Int) != (l1.length : Int)) = true:=bne_iff_ne.mpr c3
  have c3b2 : (l0.length == l1.length) = false:=by first | simpa using c3 | (simp at c3 ⊢;omega)
  obtain rfl:=Option.some.inj H
  go_enter Try.func46,Try.ntmps46
  go_wp2
  go_ret
  exact ⟨by first | rfl | (simp [errW_none,errW_some] <;> rfl) | (simp [*,errW_none,errW_some] <;> rfl),by repeat (first | (with_reducible first | exact HB.out | apply below_alloc | apply pw_below_drewN | apply below_drew1) | exact HB.out)⟩
end Go.Proofs.Ytcaefabbcjlkdaa.P
namespace Go.Proofs.Ytcaefabbcjlkdaa.P
open Go Go.RowKit Go.Proofs.YtcaefabbcjlkdaaW.PrintWords
set_option linter.unusedVariables false
def SameG {α : Type} (x l : List α) (i : Nat) : Prop:=x.length = l.length ∧ ∀ t,t < i → x[t]? = l[t]?
theorem SameG.zero {α : Type} {x l : List α} (h : x.length = l.length) : SameG x l 0:=⟨h,fun t ht => absurd ht (Nat.not_lt_zero t)⟩
theorem SameG.all {α : Type} {x l : List α} {i : Nat} (h : SameG x l i) (hi : l.length ≤ i) : x = l:=by
 apply List.ext_getElem?
 intro t
 by_cases c : t < l.length
 ·exact h.2 t (by omega)
 ·rw [List.getElem?_eq_none (by have:=h.1;omega),List.getElem?_eq_none (by omega)]
theorem SameG.next {α : Type} {x l : List α} {i : Nat} (h : SameG x l i) {v : α} (hv : l[i]? = some v) : SameG (x.set i v) l (i + 1):=by
 have hi : i < l.length:=(List.getElem?_eq_some_iff.1 hv).1
 refine ⟨by rw [List.length_set];exact h.1,fun t ht => ?_⟩
 rw [List.getElem?_set]
 by_cases e : i = t
 ·subst e
  rw [if_pos rfl,if_pos (by have:=h.1;omega),hv]
 ·rw [if_neg e]
  exact h.2 t (by omega)
theorem getD_some {α : Type} (l : List α) (i : Nat) (z : α) (h : i < l.length) : l[i]? = some (l.getD i z):=by rw [List.getD_eq_getElem?_getD,List.getElem?_eq_getElem h];rfl
def cFilter (x : S91) : S89:=⟨x.f0,x.f1,x.f2⟩
theorem toFilter_ev (x : S91) : Ev (fun k => laws_toFilter.f x.f0 x.f1 x.f2) (x.f0,x.f1,x.f2):=Ev.now _
theorem toFilterS_ev (l : List S91) (h : l.length ≤ 10000000) : Ev (fun k => laws_toFilterS.f k l) (l.map cFilter):=by
 have loop : ∀ (d i : Nat) (y : List S89),i + d = l.length → SameG y (l.map cFilter) i → Ev (fun k => laws_toFilterS.l0 k l y (i : Int)) (l.map cFilter):=by
  intro d
  induction d with
  | zero =>
   intro i y hi hy
   refine Ev.step (f:=fun _ => some (l.map cFilter)) (fun k => ?_) (Ev.now _)
   simp only [laws_toFilterS.l0]
   rw [if_neg (by omega),hy.all (by rw [List.length_map];omega)]
  | succ d ih =>
   intro i y hi hy
   have hl:=hy.1
   rw [List.length_map] at hl
   have hg : l[i]? = some (rd_T91 l (i : Int)):=getD_some l i _ (by omega)
   have hv : (l.map cFilter)[i]? = some (cFilter (rd_T91 l (i : Int))):=by rw [List.getElem?_map,hg];rfl
   have one:=toFilter_ev (rd_T91 l (i : Int))
   refine Ev.step (fun k => by simp only [laws_toFilterS.l0];rw [if_pos (by omega),if_pos (by omega)];try rfl) (Ev.bind one ?_)
   have hw : wrap64 ((i : Int) + 1) = ((i + 1 : Nat) : Int):=by rw [w64 (by omega) (by omega)];rfl
   simp only [hw]
   exact ev_pos (by omega) (ih (i + 1) _ (by omega) (hy.next hv))
 refine Ev.congr (fun k => ?_) (loop l.length 0 (List.replicate l.length z89) (by omega) (SameG.zero (by simp)))
 unfold laws_toFilterS.f
 rw [if_pos (by omega),if_pos (by omega)]
 rfl
theorem eqFilter_ev (x : S89) : Ev (fun k => laws_eqFilter.f x.f0 x.f1 x.f2 x.f0 x.f1 x.f2) true:=by
 refine Ev.congr (fun k => by unfold laws_eqFilter.f;rw [if_neg (by simp),if_pos rfl,if_pos rfl]) (Ev.now _)
theorem eqFilterS_ev (l : List S89) (h : l.length ≤ 10000000) : Ev (fun k => laws_eqFilterS.f k l l) true:=by
 have loop : ∀ (d i : Nat),i + d = l.length → Ev (fun k => laws_eqFilterS.l0 k l l (i : Int)) true:=by
  intro d
  induction d with
  | zero =>
   intro i hi
   refine Ev.step (f:=fun _ => some true) (fun k => ?_) (Ev.now _)
   simp only [laws_eqFilterS.l0]
   rw [if_neg (by omega)]
  | succ d ih =>
   intro i hi
   have one:=eqFilter_ev (rd_T89 l (i : Int))
   refine Ev.step (fun k => by simp only [laws_eqFilterS.l0];rw [if_pos (by omega),if_pos (by omega),if_pos (by omega)];try rfl) (Ev.bind one ?_)
   have hw : wrap64 ((i : Int) + 1) = ((i + 1 : Nat) : Int):=by rw [w64 (by omega) (by omega)];rfl
   simp only [hw]
   exact ev_pos trivial (ih (i + 1) (by omega))
 refine Ev.congr (fun k => ?_) (loop l.length 0 (by omega))
 unfold laws_eqFilterS.f
 rw [if_pos rfl]
 rfl
theorem szFilterS_eq (l : List S91) (m : Int) (h : l.length ≤ maxLen) (h0 : 0 ≤ m) (h1 : m ≤ 1048576) : laws_szFilterS.f l m = some (if m < l.length then -1 else m - l.length):=by
 unfold laws_szFilterS.f
 simp only [maxLen] at h
 have e : wrap64 (m - (l.length : Int)) = m - l.length:=by unfold wrap64;omega
 rw [e]
 by_cases c : m < (l.length : Int)
 ·rw [if_pos (by omega),if_pos c]
 ·rw [if_neg (by omega),if_neg c]
theorem eqFrameS_ev (l : List S45) (h : l.length ≤ 10000000) (hd : ∀ x ∈ l,x.f4.length ≤ 10000000) : Ev (fun k => laws_eqFrameS.f k l l) true:=by
 have loop : ∀ (d i : Nat),i + d = l.length → Ev (fun k => laws_eqFrameS.l0 k l l (i : Int)) true:=by
  intro d
  induction d with
  | zero =>
   intro i hi
   refine Ev.step (f:=fun _ => some true) (fun k => ?_) (Ev.now _)
   simp only [laws_eqFrameS.l0]
   rw [if_neg (by omega)]
  | succ d ih =>
   intro i hi
   have one:=eqFrame_ev (rd_T45 l (i : Int)).f0 (rd_T45 l (i : Int)).f1 (rd_T45 l (i : Int)).f2 (rd_T45 l (i : Int)).f3 (rd_T45 l (i : Int)).f4 (hd _ (List.mem_of_getElem? (getD_some l i z45 (by omega))))
   refine Ev.step (fun k => by simp only [laws_eqFrameS.l0];rw [if_pos (by omega),if_pos (by omega),if_pos (by omega)];try rfl) (Ev.bind one ?_)
   have hw : wrap64 ((i : Int) + 1) = ((i + 1 : Nat) : Int):=by rw [w64 (by omega) (by omega)];rfl
   simp only [hw]
   exact ev_pos trivial (ih (i + 1) (by omega))
 refine Ev.congr (fun k => ?_) (loop l.length 0 (by omega))
 unfold laws_eqFrameS.f
 rw [if_pos rfl]
 rfl
theorem eqBox_ev (x : S87) (h : x.f3.f4.length ≤ 10000000) : Ev (fun k => laws_eqBox.f k x.f0 x.f1 x.f2 x.f3.f0 x.f3.f1 x.f3.f2 x.f3.f3 x.f3.f4 x.f0 x.f1 x.f2 x.f3.f0 x.f3.f1 x.f3.f2 x.f3.f3 x.f3.f4) true:=by
 refine Ev.congr (fun k => by unfold laws_eqBox.f;rw [if_pos rfl,if_pos rfl,if_pos rfl]) (Ev.bind (f:=fun _ t => if t = true then some true else some false) (eqFrame_ev _ _ _ _ _ h) (Ev.now _))
theorem eqBoxS_ev (l : List S87) (h : l.length ≤ 10000000) (hd : ∀ x ∈ l,x.f3.f4.length ≤ 10000000) : Ev (fun k => laws_eqBoxS.f k l l) true:=by
 have loop : ∀ (d i : Nat),i + d = l.length → Ev (fun k => laws_eqBoxS.l0 k l l (i : Int)) true:=by
  intro d
  induction d with
  | zero =>
   intro i hi
   refine Ev.step (f:=fun _ => some true) (fun k => ?_) (Ev.now _)
   simp only [laws_eqBoxS.l0]
   rw [if_neg (by omega)]
  | succ d ih =>
   intro i hi
   have one:=eqBox_ev (rd_T87 l (i : Int)) (hd _ (List.mem_of_getElem? (getD_some l i z87 (by omega))))
   refine Ev.step (fun k => by simp only [laws_eqBoxS.l0];rw [if_pos (by omega),if_pos (by omega),if_pos (by omega)];try rfl) (Ev.bind one ?_)
   have hw : wrap64 ((i : Int) + 1) = ((i + 1 : Nat) : Int):=by rw [w64 (by omega) (by omega)];rfl
   simp only [hw]
   exact ev_pos trivial (ih (i + 1) (by omega))
 refine Ev.congr (fun k => ?_) (loop l.length 0 (by omega))
 unfold laws_eqBoxS.f
 rw [if_pos rfl]
 rfl
theorem eqEvent_ev (x : S56) (h : x.f3.f4.length ≤ 10000000) : Ev (fun k => laws_eqEvent.f k x.f0 x.f1 x.f2 x.f3.f0 x.f3.f1 x.f3.f2 x.f3.f3 x.f3.f4 x.f0 x.f1 x.f2 x.f3.f0 x.f3.f1 x.f3.f2 x.f3.f3 x.f3.f4) true:=by
 refine Ev.congr (fun k => by unfold laws_eqEvent.f;rw [if_pos rfl,if_pos rfl,if_pos rfl]) (Ev.bind (f:=fun _ t => if t = true then some true else some false) (eqFrame_ev _ _ _ _ _ h) (Ev.now _))
theorem eqEventS_ev (l : List S56) (h : l.length ≤ 10000000) (hd : ∀ x ∈ l,x.f3.f4.length ≤ 10000000) : Ev (fun k => laws_eqEventS.f k l l) true:=by
 have loop : ∀ (d i : Nat),i + d = l.length → Ev (fun k => laws_eqEventS.l0 k l l (i : Int)) true:=by
  intro d
  induction d with
  | zero =>
   intro i hi
   refine Ev.step (f:=fun _ => some true) (fun k => ?_) (Ev.now _)
   simp only [laws_eqEventS.l0]
   rw [if_neg (by omega)]
  | succ d ih =>
   intro i hi
   have one:=eqEvent_ev (rd_T56 l (i : Int)) (hd _ (List.mem_of_getElem? (getD_some l i z56 (by omega))))
   refine Ev.step (fun k => by simp only [laws_eqEventS.l0];rw [if_pos (by omega),if_pos (by omega),if_pos (by omega)];try rfl) (Ev.bind one ?_)
   have hw : wrap64 ((i : Int) + 1) = ((i + 1 : Nat) : Int):=by rw [w64 (by omega) (by omega)];rfl
   simp only [hw]
   exact ev_pos trivial (ih (i + 1) (by omega))
 refine Ev.congr (fun k => ?_) (loop l.length 0 (by omega))
 unfold laws_eqEventS.f
 rw [if_pos rfl]
 rfl
end Go.Proofs.Ytcaefabbcjlkdaa.P
