/- Texts of the proof of FnExactNewHost, joined. -/
import Derived.Test.YtcaefabbcjlkdaaSFnExactNewHost22
import Derived.Test.YtcaefabbcjlkdaaSFnExactNewHost30
namespace Go.Proofs.Ytcaefabbcjlkdaa.P
open Go.RowKit Go.Proofs.YtcaefabbcjlkdaaW.PrintWords Go.Proofs.YtcaefabbcjlkdaaW.PrintLast Go.Proofs.YtcaefabbcjlkdaaW.PrintMore
set_option linter.unusedVariables false
set_option linter.unusedSimpArgs false
def laws_eqFilterS.l0 : Nat → List (S89) → List (S89) → Int → Option (Bool)
 | 0,_,_,_ => none
 | k + 1,x0,x1,x5 => if x5 < (x0.length : Int) then (if 0 ≤ x5 then (if x5 < (x1.length : Int) then ((laws_eqFilter.f ((rd_T89 x0 x5).f0) ((rd_T89 x0 x5).f1) ((rd_T89 x0 x5).f2) ((rd_T89 x1 x5).f0) ((rd_T89 x1 x5).f1) ((rd_T89 x1 x5).f2)).bind fun t628 => (if t628 = true then (laws_eqFilterS.l0 k x0 x1 (wrap64 (x5 + 1))) else (some false))) else (none)) else (none)) else (some true)
def laws_eqFilterS.f (k : Nat) (l0 : List (S89)) (l1 : List (S89)) : Option (Bool):=if (l0.length : Int) = (l1.length : Int) then (laws_eqFilterS.l0 k l0 l1 0) else (some false)
def laws_eqFilterS.T6 : Bool × List (List Nat × List Nat):=(true, [([], []),([], []),([0,1], [0,1]),([2], [2]),([], []),([], []),([4,5], [4,5]),([6], [6]),([3,7], [3,7]),([8], [8])])
def laws_eqFilterS.B6 : List Nat := [0,0,3,7,0,0,48,112,255,511]
theorem laws_eqFilterS.tab6 : rtab .any (opsOf Try.f20 6) = laws_eqFilterS.T6:=by kernel_rfl
theorem laws_eqFilterS.bits6 : waitsOk laws_eqFilterS.T6.2 laws_eqFilterS.B6 = true:=by kernel_rfl
set_option maxHeartbeats 8000000 in
set_option maxRecDepth 100000 in
theorem laws_eqFilterS.calls (k : Nat) (A0 : Option Addr) (c0 : Nat) (l0 : List (S89)) (A1 : Option Addr) (c1 : Nat) (l1 : List (S89)) (r : Bool) (w : World) (hr0 : Kd.C k89 w A0 l0.length l0) (hc0 : l0.length ≤ c0) (hr1 : Kd.C k89 w A1 l1.length l1) (hc1 : l1.length ≤ c1) (h : laws_eqFilterS.f k l0 l1 = some r) :
  Calls Try.prog 20 #[.slice A0 l0.length c0, .slice A1 l1.length c1] w fun e w' => e = .returned (.bool r) ∧ Below w.heap.size w w':=by
 have hu89:=Try.underlying89
 have HR0:=Aside0.mk hr0
 have HC0:=Aside0.mk hc0
 clear hr0 hc0
 have HR1:=Aside0.mk hr1
 have HC1:=Aside0.mk hc1
 clear hr1 hc1
 have HB:=Aside0.mk (Below.refl w.heap.size w)
 have H : (if (l0.length : Int) = (l1.length : Int) then (laws_eqFilterS.l0 k l0 l1 0) else (some false)) = some r:=h
 clear h
 by_cases c3 : (l0.length : Int) = (l1.length : Int)
 ·rw [if_pos c3] at H
  have c3b0 : ((l0.length : Int) == (l1.length : Int)) = true:=beq_iff_eq.mpr c3
  have c3b1 : ((l0.length : Int) != (l1.length : Int)) = false:=bne_eq_false_iff_eq.mpr c3
  have c3b2 : (l0.length == l1.length) = true:=by first | simpa using c3 | (simp at c3 ⊢;omega)
  clear c3
  have H':=Aside0.mk H
  clear H
  go_enter Try.func20,Try.ntmps20
  go_wp2
  go_loopg [5] k (fun kq v5 w' => ∃ (x5_1 : Int),v5 = .int .i64 x5_1 ∧ Aside0 (laws_eqFilterS.l0 kq l0 l1 x5_1 = some r) ∧ Aside0 (kq ≤ k) ∧ Aside0 (Below w.heap.size w w'))
  case atStart => exact ⟨(0),(by first | rfl | (simp;done) | (simp [*];done)),H',⟨Nat.le_refl _⟩,⟨by repeat (first | (with_reducible first | exact HB.out | apply below_alloc | apply pw_below_drewN | apply below_drew1) | exact HB.out)⟩⟩
  case round =>
   clear H'
   try clear c1
   try clear c2
   try clear p2
   try clear c3
   try clear c3b0
   try clear c3b1
   try clear c3b2
   obtain ⟨x5_1,rfl,HA,HK1,HB⟩:=hrel
   cases gk with
   | zero => exact absurd HA.out (by simp [laws_eqFilterS.l0])
   | succ k1 =>
    have H:=HA.out
    clear HA
    simp only [laws_eqFilterS.l0] at H
    by_cases c4 : x5_1 < (l0.length : Int)
    ·rw [if_pos c4] at H
     have c4b0 : decide (x5_1 < (l0.length : Int)) = true:=decide_eq_true c4
     clear c4
     by_cases c5 : 0 ≤ x5_1
     ·rw [if_pos c5] at H
      have c5b0 : decide (0 ≤ x5_1) = true:=decide_eq_true c5
      clear c5
      by_cases c6 : x5_1 < (l1.length : Int)
      ·rw [if_pos c6] at H
       have c6b0 : decide (x5_1 < (l1.length : Int)) = true:=decide_eq_true c6
       clear c6
       replace H:=Option.bind_eq_some_iff.mp H
       obtain ⟨t628,A70,H⟩:=H
       replace H : (if t628 = true then (laws_eqFilterS.l0 k1 l0 l1 (wrap64 (x5_1 + 1))) else (some false)) = some r:=H
       have A7:=Aside0.mk A70
       clear A70
       by_cases c8 : t628 = true
       ·subst c8
        have H1 : (laws_eqFilterS.l0 k1 l0 l1 (wrap64 (x5_1 + 1))) = some r:=by rw [if_pos rfl] at H;exact H
        clear H
        have H:=H1
        clear H1
        have H':=Aside0.mk H
        clear H
        try go_wp2
        have n0_:=Aside0.mk (below_drew1 HB.out)
        clear HB
        have HB:=n0_
        clear n0_
        have p626 : 0 ≤ (x5_1 : Int):=of_decide_eq_true (by first | (with_reducible assumption) | assumption)
        have q626 : x5_1 < (l0.length : Int):=of_decide_eq_true (by first | (with_reducible assumption) | assumption)
        obtain ⟨ad626,e626,hx626_0,hx626_1,hx626_2⟩:=at_T89 HR0.out x5_1 p626 q626
        have hw626_2:=hx626_2
        have hw626_1:=hx626_1
        have hw626_0:=hx626_0
        cases e626
        replace hx626_0:=(HB.out.cell (World.block_lt_of_cell? w _ hx626_0)).trans hx626_0
        replace hx626_1:=(HB.out.cell (World.block_lt_of_cell? w _ hx626_1)).trans hx626_1
        replace hx626_2:=(HB.out.cell (World.block_lt_of_cell? w _ hx626_2)).trans hx626_2
        replace p626:=eq_true p626
        replace q626:=eq_true q626
        have p627 : 0 ≤ (x5_1 : Int):=of_decide_eq_true (by first | (with_reducible assumption) | assumption)
        have q627 : x5_1 < (l1.length : Int):=of_decide_eq_true (by first | (with_reducible assumption) | assumption)
        obtain ⟨ad627,e627,hx627_0,hx627_1,hx627_2⟩:=at_T89 HR1.out x5_1 p627 q627
        have hw627_2:=hx627_2
        have hw627_1:=hx627_1
        have hw627_0:=hx627_0
        cases e627
        replace hx627_0:=(HB.out.cell (World.block_lt_of_cell? w _ hx627_0)).trans hx627_0
        replace hx627_1:=(HB.out.cell (World.block_lt_of_cell? w _ hx627_1)).trans hx627_1
        replace hx627_2:=(HB.out.cell (World.block_lt_of_cell? w _ hx627_2)).trans hx627_2
        replace p627:=eq_true p627
        replace q627:=eq_true q627
        refine start_ (n:=10) (S:=fun w' => w'.cell? (ad626.add ((x5_1).toNat * 3)) = some (.bool ((rd_T89 l0 x5_1).f0)) ∧ w'.cell? ⟨(ad626.add ((x5_1).toNat * 3)).block,(ad626.add ((x5_1).toNat * 3)).off + 1,none⟩ = some (.int .u32 ((rd_T89 l0 x5_1).f1)) ∧ w'.cell? ⟨(ad626.add ((x5_1).toNat * 3)).block,(ad626.add ((x5_1).toNat * 3)).off + 2,none⟩ = some (.int .u32 ((rd_T89 l0 x5_1).f2)) ∧ w'.cell? (ad627.add ((x5_1).toNat * 3)) = some (.bool ((rd_T89 l1 x5_1).f0)) ∧ w'.cell? ⟨(ad627.add ((x5_1).toNat * 3)).block,(ad627.add ((x5_1).toNat * 3)).off + 1,none⟩ = some (.int .u32 ((rd_T89 l1 x5_1).f1)) ∧ w'.cell? ⟨(ad627.add ((x5_1).toNat * 3)).block,(ad627.add ((x5_1).toNat * 3)).off + 2,none⟩ = some (.int .u32 ((rd_T89 l1 x5_1).f2))) (ds := []) #[false,false,false,false,false,false,false,false,false,false] (by kernel_rfl) rfl rfl ⟨((HB.out.cell (World.block_lt_of_cell? w _ hw626_0)).trans hw626_0),((HB.out.cell (World.block_lt_of_cell? w _ hw626_1)).trans hw626_1),((HB.out.cell (World.block_lt_of_cell? w _ hw626_2)).trans hw626_2),((HB.out.cell (World.block_lt_of_cell? w _ hw627_0)).trans hw627_0),((HB.out.cell (World.block_lt_of_cell? w _ hw627_1)).trans hw627_1),((HB.out.cell (World.block_lt_of_cell? w _ hw627_2)).trans hw627_2)⟩ (fun hHeld => ?_);refine with_tabW laws_eqFilterS.tab6 laws_eqFilterS.bits6 (fun HT_ HW_ => ?_)
        generalize wr.drew = w9 at HB hx626_0 hx626_1 hx626_2 hx627_0 hx627_1 hx627_2 hHeld ⊢
        refine pure_ (i:=0) (N:=some 17) (v := ?_) (a' := ?_) #[true,false,false,false,false,false,false,false,false,false] rfl rfl (any_of HT_.out (by kernel_rfl)) (fun _ _ _ h => h) (Or.inl ⟨by rfl, ?_⟩) ?_ ?_
        rotate_left
        ·intro w'
         go_simp
         with_reducible rfl
        rotate_left
        ·simp only [Act.put,List.setIfInBounds_toArray,List.set_cons_zero,List.set_cons_succ,i64_w,i32_w]
         rfl
        refine pure_ (i:=1) (N:=some 18) (v := ?_) (a' := ?_) #[true,true,false,false,false,false,false,false,false,false] rfl rfl (any_of HT_.out (by kernel_rfl)) (fun _ _ _ h => h) (Or.inl ⟨by rfl, ?_⟩) ?_ ?_
        rotate_left
        ·intro w'
         go_simp
         with_reducible rfl
        rotate_left
        ·simp only [Act.put,List.setIfInBounds_toArray,List.set_cons_zero,List.set_cons_succ,i64_w,i32_w]
         rfl
        refine pure_ (i:=2) (N:=some 19) (v := ?_) (a' := ?_) #[true,true,true,false,false,false,false,false,false,false] rfl rfl (any_of HT_.out (by kernel_rfl)) (fun _ _ _ h => h) (Or.inl ⟨by rfl, ?_⟩) ?_ ?_
        rotate_left
        ·intro w'
         go_simp
         with_reducible rfl
        rotate_left
        ·simp only [Act.put,List.setIfInBounds_toArray,List.set_cons_zero,List.set_cons_succ,i64_w,i32_w]
         rfl
        refine pure_ (i:=4) (N:=some 21) (v := ?_) (a' := ?_) #[true,true,true,false,true,false,false,false,false,false] rfl rfl (any_of HT_.out (by kernel_rfl)) (fun _ _ _ h => h) (Or.inl ⟨by rfl, ?_⟩) ?_ ?_
        rotate_left
        ·intro w'
         go_simp
         with_reducible rfl
        rotate_left
        ·simp only [Act.put,List.setIfInBounds_toArray,List.set_cons_zero,List.set_cons_succ,i64_w,i32_w]
         rfl
        refine pure_ (i:=5) (N:=some 22) (v := ?_) (a' := ?_) #[true,true,true,false,true,true,false,false,false,false] rfl rfl (any_of HT_.out (by kernel_rfl)) (fun _ _ _ h => h) (Or.inl ⟨by rfl, ?_⟩) ?_ ?_
        rotate_left
        ·intro w'
         go_simp
         with_reducible rfl
        rotate_left
        ·simp only [Act.put,List.setIfInBounds_toArray,List.set_cons_zero,List.set_cons_succ,i64_w,i32_w]
         rfl
        refine pure_ (i:=6) (N:=some 23) (v := ?_) (a' := ?_) #[true,true,true,false,true,true,true,false,false,false] rfl rfl (any_of HT_.out (by kernel_rfl)) (fun _ _ _ h => h) (Or.inl ⟨by rfl, ?_⟩) ?_ ?_
        rotate_left
        ·intro w'
         go_simp
         with_reducible rfl
        rotate_left
        ·simp only [Act.put,List.setIfInBounds_toArray,List.set_cons_zero,List.set_cons_succ,i64_w,i32_w]
         rfl
        refine take_ (i:=3) (N:=some 20) (v := ?_) (a' := ?_) #[true,true,true,true,true,true,true,false,false,false] rfl rfl (take_ofW HT_.out HW_.out (by kernel_rfl)) (fun _ _ _ h => h) (Or.inl ⟨by rfl, ?_⟩) hHeld ?_ ?_
        rotate_left
        ·rintro w' ⟨s0,s1,s2,s3,s4,s5⟩
         go_simp
         with_reducible rfl
        rotate_left
        ·simp only [Act.put,List.setIfInBounds_toArray,List.set_cons_zero,List.set_cons_succ,i64_w,i32_w]
         rfl
        refine take_ (i:=7) (N:=some 24) (v := ?_) (a' := ?_) #[true,true,true,true,true,true,true,true,false,false] rfl rfl (take_ofW HT_.out HW_.out (by kernel_rfl)) (fun _ _ _ h => h) (Or.inl ⟨by rfl, ?_⟩) hHeld ?_ ?_
        rotate_left
        ·rintro w' ⟨s0,s1,s2,s3,s4,s5⟩
         go_simp
         with_reducible rfl
        rotate_left
        ·simp only [Act.put,List.setIfInBounds_toArray,List.set_cons_zero,List.set_cons_succ,i64_w,i32_w]
         rfl
        refine one_ (i:=8) (N:=some 25) #[true,true,true,true,true,true,true,true,true,false] rfl rfl (one_of HT_.out (by kernel_rfl)) (by decide) (fun K hK => ?_)
        refine goes_ Try.func68 (by kernel_rfl) rfl #[.agg #[.bool ((rd_T89 l0 x5_1).f0), .int .u32 ((rd_T89 l0 x5_1).f1), .int .u32 ((rd_T89 l0 x5_1).f2)], .agg #[.bool ((rd_T89 l1 x5_1).f0), .int .u32 ((rd_T89 l1 x5_1).f1), .int .u32 ((rd_T89 l1 x5_1).f2)]] (by rfl) rfl rfl (by (try simp only [List.map_toArray,List.map_cons,List.map_nil]);first | done | rfl | (simp only [List.length_drop,List.length_take];rfl)) ?_
        with_reducible refine (laws_eqFilter.calls ((rd_T89 l0 x5_1).f0) ((rd_T89 l0 x5_1).f1) ((rd_T89 l0 x5_1).f2) ((rd_T89 l1 x5_1).f0) ((rd_T89 l1 x5_1).f1) ((rd_T89 l1 x5_1).f2) true _ A7.out).mono ?_
        rintro e w10 ⟨rfl,hb⟩
        refine ⟨_,rfl, ?_⟩
        have n0_:=Aside0.mk (below_step (by repeat (first | (with_reducible first | exact HB.out | apply below_alloc | apply pw_below_drewN | apply below_drew1) | exact HB.out)) hb)
        clear HB
        have HB:=n0_
        clear n0_
        (try clear hb)
        (try clear hb2)
        (try clear hk)
        (try clear hi)
        refine hK.out _ _ ⟨((HB.out.cell (World.block_lt_of_cell? w _ hw626_0)).trans hw626_0),((HB.out.cell (World.block_lt_of_cell? w _ hw626_1)).trans hw626_1),((HB.out.cell (World.block_lt_of_cell? w _ hw626_2)).trans hw626_2),((HB.out.cell (World.block_lt_of_cell? w _ hw627_0)).trans hw627_0),((HB.out.cell (World.block_lt_of_cell? w _ hw627_1)).trans hw627_1),((HB.out.cell (World.block_lt_of_cell? w _ hw627_2)).trans hw627_2)⟩ (fun hHeld => ?_)
        clear hK K
        refine norm_ (a' := ?_) ?_ ?_
        rotate_left
        ·show Act.put _ (some 25) _ = _
         simp only [Act.put,List.setIfInBounds_toArray,List.set_cons_zero,List.set_cons_succ,i64_w,i32_w]
         rfl
        refine pure_ (i:=9) (N:=some 26) (v := ?_) (a' := ?_) #[true,true,true,true,true,true,true,true,true,true] rfl rfl (any_of HT_.out (by kernel_rfl)) (fun _ _ _ h => h) (Or.inl ⟨by rfl, ?_⟩) ?_ ?_
        rotate_left
        ·intro w'
         go_simp
         with_reducible rfl
        rotate_left
        ·simp only [Act.put,List.setIfInBounds_toArray,List.set_cons_zero,List.set_cons_succ,i64_w,i32_w]
         rfl
        refine done_ (done_of HT_.out (by kernel_rfl)) ?_
        try go_wp2
        go_roundg k1
        case measure => have:=HK1.out;omega
        case rel => exact ⟨(wrap64 (x5_1 + 1)),(by first | rfl | (simp;done) | (simp [*];done)),H',⟨by have:=HK1.out;omega⟩,⟨by repeat (first | (with_reducible first | exact HB.out | apply below_alloc | apply pw_below_drewN | apply below_drew1) | exact HB.out)⟩⟩
       ·replace c8:=Bool.eq_false_iff.mpr c8
        subst c8
        have H1 : (some false) = some r:=by rw [if_neg (show ¬ (false = true) by decide)] at H;exact H
        clear H
        have H:=H1
        clear H1
        obtain rfl:=Option.some.inj H
        try go_wp2
        have n0_:=Aside0.mk (below_drew1 HB.out)
        clear HB
        have HB:=n0_
        clear n0_
        have p626 : 0 ≤ (x5_1 : Int):=of_decide_eq_true (by first | (with_reducible assumption) | assumption)
        have q626 : x5_1 < (l0.length : Int):=of_decide_eq_true (by first | (with_reducible assumption) | assumption)
        obtain ⟨ad626,e626,hx626_0,hx626_1,hx626_2⟩:=at_T89 HR0.out x5_1 p626 q626
        have hw626_2:=hx626_2
        have hw626_1:=hx626_1
        have hw626_0:=hx626_0
        cases e626
        replace hx626_0:=(HB.out.cell (World.block_lt_of_cell? w _ hx626_0)).trans hx626_0
        replace hx626_1:=(HB.out.cell (World.block_lt_of_cell? w _ hx626_1)).trans hx626_1
        replace hx626_2:=(HB.out.cell (World.block_lt_of_cell? w _ hx626_2)).trans hx626_2
        replace p626:=eq_true p626
        replace q626:=eq_true q626
        have p627 : 0 ≤ (x5_1 : Int):=of_decide_eq_true (by first | (with_reducible assumption) | assumption)
        have q627 : x5_1 < (l1.length : Int):=of_decide_eq_true (by first | (with_reducible assumption) | assumption)
        obtain ⟨ad627,e627,hx627_0,hx627_1,hx627_2⟩:=at_T89 HR1.out x5_1 p627 q627
        have hw627_2:=hx627_2
        have hw627_1:=hx627_1
        have hw627_0:=hx627_0
        cases e627
        replace hx627_0:=(HB.out.cell (World.block_lt_of_cell? w _ hx627_0)).trans hx627_0
        replace hx627_1:=(HB.out.cell (World.block_lt_of_cell? w _ hx627_1)).trans hx627_1
        replace hx627_2:=(HB.out.cell (World.block_lt_of_cell? w _ hx627_2)).trans hx627_2
        replace p627:=eq_true p627
        replace q627:=eq_true q627
        refine start_ (n:=10) (S:=fun w' => w'.cell? (ad626.add ((x5_1).toNat * 3)) = some (.bool ((rd_T89 l0 x5_1).f0)) ∧ w'.cell? ⟨(ad626.add ((x5_1).toNat * 3)).block,(ad626.add ((x5_1).toNat * 3)).off + 1,none⟩ = some (.int .u32 ((rd_T89 l0 x5_1).f1)) ∧ w'.cell? ⟨(ad626.add ((x5_1).toNat * 3)).block,(ad626.add ((x5_1).toNat * 3)).off + 2,none⟩ = some (.int .u32 ((rd_T89 l0 x5_1).f2)) ∧ w'.cell? (ad627.add ((x5_1).toNat * 3)) = some (.bool ((rd_T89 l1 x5_1).f0)) ∧ w'.cell? ⟨(ad627.add ((x5_1).toNat * 3)).block,(ad627.add ((x5_1).toNat * 3)).off + 1,none⟩ = some (.int .u32 ((rd_T89 l1 x5_1).f1)) ∧ w'.cell? ⟨(ad627.add ((x5_1).toNat * 3)).block,(ad627.add ((x5_1).toNat * 3)).off + 2,none⟩ = some (.int .u32 ((rd_T89 l1 x5_1).f2))) (ds := []) #[false,false,false,false,false,false,false,false,false,false] (by kernel_rfl) rfl rfl ⟨((HB.out.cell (World.block_lt_of_cell? w _ hw626_0)).trans hw626_0),((HB.out.cell (World.block_lt_of_cell? w _ hw626_1)).trans hw626_1),((HB.out.cell (World.block_lt_of_cell? w _ hw626_2)).trans hw626_2),((HB.out.cell (World.block_lt_of_cell? w _ hw627_0)).trans hw627_0),((HB.out.cell (World.block_lt_of_cell? w _ hw627_1)).trans hw627_1),((HB.out.cell (World.block_lt_of_cell? w _ hw627_2)).trans hw627_2)⟩ (fun hHeld => ?_);refine with_tabW laws_eqFilterS.tab6 laws_eqFilterS.bits6 (fun HT_ HW_ => ?_)
        generalize wr.drew = w11 at HB hx626_0 hx626_1 hx626_2 hx627_0 hx627_1 hx627_2 hHeld ⊢
        refine pure_ (i:=0) (N:=some 17) (v := ?_) (a' := ?_) #[true,false,false,false,false,false,false,false,false,false] rfl rfl (any_of HT_.out (by kernel_rfl)) (fun _ _ _ h => h) (Or.inl ⟨by rfl, ?_⟩) ?_ ?_
        rotate_left
        ·intro w'
         go_simp
         with_reducible rfl
        rotate_left
        ·simp only [Act.put,List.setIfInBounds_toArray,List.set_cons_zero,List.set_cons_succ,i64_w,i32_w]
         rfl
        refine pure_ (i:=1) (N:=some 18) (v := ?_) (a' := ?_) #[true,true,false,false,false,false,false,false,false,false] rfl rfl (any_of HT_.out (by kernel_rfl)) (fun _ _ _ h => h) (Or.inl ⟨by rfl, ?_⟩) ?_ ?_
        rotate_left
        ·intro w'
         go_simp
         with_reducible rfl
        rotate_left
        ·simp only [Act.put,List.setIfInBounds_toArray,List.set_cons_zero,List.set_cons_succ,i64_w,i32_w]
         rfl
        refine pure_ (i:=2) (N:=some 19) (v := ?_) (a' := ?_) #[true,true,true,false,false,false,false,false,false,false] rfl rfl (any_of HT_.out (by kernel_rfl)) (fun _ _ _ h => h) (Or.inl ⟨by rfl, ?_⟩) ?_ ?_
        rotate_left
        ·intro w'
         go_simp
         with_reducible rfl
        rotate_left
        ·simp only [Act.put,List.setIfInBounds_toArray,List.set_cons_zero,List.set_cons_succ,i64_w,i32_w]
         rfl
        refine pure_ (i:=4) (N:=some 21) (v := ?_) (a' := ?_) #[true,true,true,false,true,false,false,false,false,false] rfl rfl (any_of HT_.out (by kernel_rfl)) (fun _ _ _ h => h) (Or.inl ⟨by rfl, ?_⟩) ?_ ?_
        rotate_left
        ·intro w'
         go_simp
         with_reducible rfl
        rotate_left
        ·simp only [Act.put,List.setIfInBounds_toArray,List.set_cons_zero,List.set_cons_succ,i64_w,i32_w]
         rfl
        refine pure_ (i:=5) (N:=some 22) (v := ?_) (a' := ?_) #[true,true,true,false,true,true,false,false,false,false] rfl rfl (any_of HT_.out (by kernel_rfl)) (fun _ _ _ h => h) (Or.inl ⟨by rfl, ?_⟩) ?_ ?_
        rotate_left
        ·intro w'
         go_simp
         with_reducible rfl
        rotate_left
        ·simp only [Act.put,List.setIfInBounds_toArray,List.set_cons_zero,List.set_cons_succ,i64_w,i32_w]
         rfl
        refine pure_ (i:=6) (N:=some 23) (v := ?_) (a' := ?_) #[true,true,true,false,true,true,true,false,false,false] rfl rfl (any_of HT_.out (by kernel_rfl)) (fun _ _ _ h => h) (Or.inl ⟨by rfl, ?_⟩) ?_ ?_
        rotate_left
        ·intro w'
         go_simp
         with_reducible rfl
        rotate_left
        ·simp only [Act.put,List.setIfInBounds_toArray,List.set_cons_zero,List.set_cons_succ,i64_w,i32_w]
         rfl
        refine take_ (i:=3) (N:=some 20) (v := ?_) (a' := ?_) #[true,true,true,true,true,true,true,false,false,false] rfl rfl (take_ofW HT_.out HW_.out (by kernel_rfl)) (fun _ _ _ h => h) (Or.inl ⟨by rfl, ?_⟩) hHeld ?_ ?_
        rotate_left
        ·rintro w' ⟨s0,s1,s2,s3,s4,s5⟩
         go_simp
         with_reducible rfl
        rotate_left
        ·simp only [Act.put,List.setIfInBounds_toArray,List.set_cons_zero,List.set_cons_succ,i64_w,i32_w]
         rfl
        refine take_ (i:=7) (N:=some 24) (v := ?_) (a' := ?_) #[true,true,true,true,true,true,true,true,false,false] rfl rfl (take_ofW HT_.out HW_.out (by kernel_rfl)) (fun _ _ _ h => h) (Or.inl ⟨by rfl, ?_⟩) hHeld ?_ ?_
        rotate_left
        ·rintro w' ⟨s0,s1,s2,s3,s4,s5⟩
         go_simp
         with_reducible rfl
        rotate_left
        ·simp only [Act.put,List.setIfInBounds_toArray,List.set_cons_zero,List.set_cons_succ,i64_w,i32_w]
         rfl
        refine one_ (i:=8) (N:=some 25) #[true,true,true,true,true,true,true,true,true,false] rfl rfl (one_of HT_.out (by kernel_rfl)) (by decide) (fun K hK => ?_)
        refine goes_ Try.func68 (by kernel_rfl) rfl #[.agg #[.bool ((rd_T89 l0 x5_1).f0), .int .u32 ((rd_T89 l0 x5_1).f1), .int .u32 ((rd_T89 l0 x5_1).f2)], .agg #[.bool ((rd_T89 l1 x5_1).f0), .int .u32 ((rd_T89 l1 x5_1).f1), .int .u32 ((rd_T89 l1 x5_1).f2)]] (by rfl) rfl rfl (by (try simp only [List.map_toArray,List.map_cons,List.map_nil]);first | done | rfl | (simp only [List.length_drop,List.length_take];rfl)) ?_
        with_reducible refine (laws_eqFilter.calls ((rd_T89 l0 x5_1).f0) ((rd_T89 l0 x5_1).f1) ((rd_T89 l0 x5_1).f2) ((rd_T89 l1 x5_1).f0) ((rd_T89 l1 x5_1).f1) ((rd_T89 l1 x5_1).f2) false _ A7.out).mono ?_
        rintro e w12 ⟨rfl,hb⟩
        refine ⟨_,rfl, ?_⟩
        have n0_:=Aside0.mk (below_step (by repeat (first | (with_reducible first | exact HB.out | apply below_alloc | apply pw_below_drewN | apply below_drew1) | exact HB.out)) hb)
        clear HB
        have HB:=n0_
        clear n0_
        (try clear hb)
        (try clear hb2)
        (try clear hk)
        (try clear hi)
        refine hK.out _ _ ⟨((HB.out.cell (World.block_lt_of_cell? w _ hw626_0)).trans hw626_0),((HB.out.cell (World.block_lt_of_cell? w _ hw626_1)).trans hw626_1),((HB.out.cell (World.block_lt_of_cell? w _ hw626_2)).trans hw626_2),((HB.out.cell (World.block_lt_of_cell? w _ hw627_0)).trans hw627_0),((HB.out.cell (World.block_lt_of_cell? w _ hw627_1)).trans hw627_1),((HB.out.cell (World.block_lt_of_cell? w _ hw627_2)).trans hw627_2)⟩ (fun hHeld => ?_)
        clear hK K
        refine norm_ (a' := ?_) ?_ ?_
        rotate_left
        ·show Act.put _ (some 25) _ = _
         simp only [Act.put,List.setIfInBounds_toArray,List.set_cons_zero,List.set_cons_succ,i64_w,i32_w]
         rfl
        refine pure_ (i:=9) (N:=some 26) (v := ?_) (a' := ?_) #[true,true,true,true,true,true,true,true,true,true] rfl rfl (any_of HT_.out (by kernel_rfl)) (fun _ _ _ h => h) (Or.inl ⟨by rfl, ?_⟩) ?_ ?_
        rotate_left
        ·intro w'
         go_simp
         with_reducible rfl
        rotate_left
        ·simp only [Act.put,List.setIfInBounds_toArray,List.set_cons_zero,List.set_cons_succ,i64_w,i32_w]
         rfl
        refine done_ (done_of HT_.out (by kernel_rfl)) ?_
        try go_wp2
        go_ret
        exact ⟨by first | rfl | (simp [errW_none,errW_some] <;> rfl) | (simp [*,errW_none,errW_some] <;> rfl),by repeat (first | (with_reducible first | exact HB.out | apply below_alloc | apply pw_below_drewN | apply below_drew1) | exact HB.out)⟩
      ·rw [if_neg c6] at H
       exact absurd H (by simp)
     ·rw [if_neg c5] at H
      exact absurd H (by simp)
    ·rw [if_neg c4] at H
     have c4b0 : decide (x5_1 < (l0.length : Int)) = false:=decide_eq_false c4
     clear c4
     obtain rfl:=Option.some.inj H
     go_wp2
     go_ret
     exact ⟨by first | rfl | (simp [errW_none,errW_some] <;> rfl) | (simp [*,errW_none,errW_some] <;> rfl),by repeat (first | (with_reducible first | exact HB.out | apply below_alloc | apply pw_below_drewN | apply below_drew1) | exact HB.out)⟩
 ·rw [if_neg c3] at H
  have c3b0 : ((l0.length : Int) == (l1.length : Int)) = false:=beq_eq_false_iff_ne.mpr c3
  have c3b1 : ((l0.length : Int) != (l1.length : Int)) = true:=bne_iff_ne.mpr c3
  have c3b2 : (l0.length == l1.length) = false:=by first | simpa using c3 | (simp at c3 ⊢;omega)
  obtain rfl:=Option.some.inj H
  go_enter Try.func20,Try.ntmps20
  go_wp2
  go_ret
  exact ⟨by first | rfl | (simp [errW_none,errW_some] <;> rfl) | (simp [*,errW_none,errW_some] <;> rfl),by repeat (first | (with_reducible first | exact HB.out | apply below_alloc | apply pw_below_drewN | apply below_drew1) | exact HB.out)⟩
def laws_szFrameS.l0 : Nat → List (S77) → Int → Int → Option (Int)
 | 0,_,_,_ => none
 | k + 1,x0,x1,x5 => if x5 < (x0.length : Int) then (if 0 ≤ x5 then ((laws_szFrame.f ((rd_T77 x0 x5).f0) ((rd_T77 x0 x5).f1) ((rd_T77 x0 x5).f2) ((rd_T77 x0 x5).f3) ((rd_T77 x0 x5).f4) x1).bind fun t665 => (if t665 < 0 then (some (-1)) else (laws_szFrameS.l0 k x0 t665 (wrap64 (x5 + 1))))) else (none)) else (some x1)
def laws_toFrameS.l0 : Nat → List (S77) → List (S45) → Int → Option ((List (S45)))
 | 0,_,_,_ => none
 | k + 1,x0,x3,x4 => if x4 < (x0.length : Int) then (if 0 ≤ x4 then ((laws_toFrame.f k ((rd_T77 x0 x4).f0) ((rd_T77 x0 x4).f1) ((rd_T77 x0 x4).f2) ((rd_T77 x0 x4).f3) ((rd_T77 x0 x4).f4)).bind fun bt729 => (if x4 < (x3.length : Int) then (laws_toFrameS.l0 k x0 (x3.set (x4 : Int).toNat (⟨bt729.1,bt729.2.1,bt729.2.2.1,bt729.2.2.2.1,bt729.2.2.2.2⟩ : S45)) (wrap64 (x4 + 1))) else (none))) else (none)) else (some x3)
def laws_eqFrameS.l0 : Nat → List (S45) → List (S45) → Int → Option (Bool)
 | 0,_,_,_ => none
 | k + 1,x0,x1,x5 => if x5 < (x0.length : Int) then (if 0 ≤ x5 then (if x5 < (x1.length : Int) then ((laws_eqFrame.f k ((rd_T45 x0 x5).f0) ((rd_T45 x0 x5).f1) ((rd_T45 x0 x5).f2) ((rd_T45 x0 x5).f3) ((rd_T45 x0 x5).f4) ((rd_T45 x1 x5).f0) ((rd_T45 x1 x5).f1) ((rd_T45 x1 x5).f2) ((rd_T45 x1 x5).f3) ((rd_T45 x1 x5).f4)).bind fun t650 => (if t650 = true then (laws_eqFrameS.l0 k x0 x1 (wrap64 (x5 + 1))) else (some false))) else (none)) else (none)) else (some true)
def laws_eqFrameS.f (k : Nat) (l0 : List (S45)) (l1 : List (S45)) : Option (Bool):=if (l0.length : Int) = (l1.length : Int) then (laws_eqFrameS.l0 k l0 l1 0) else (some false)
def laws_eqFrameS.T6 : Bool × List (List Nat × List Nat):=(true, [([], []),([], []),([0,1], [0,1]),([2], [2]),([], []),([], []),([4,5], [4,5]),([6], [6]),([3,7], [3,7]),([8], [8])])
def laws_eqFrameS.B6 : List Nat := [0,0,3,7,0,0,48,112,255,511]
theorem laws_eqFrameS.tab6 : rtab .any (opsOf Try.f67 6) = laws_eqFrameS.T6:=by kernel_rfl
theorem laws_eqFrameS.bits6 : waitsOk laws_eqFrameS.T6.2 laws_eqFrameS.B6 = true:=by kernel_rfl
set_option maxHeartbeats 8000000 in
set_option maxRecDepth 100000 in
theorem laws_eqFrameS.calls (k : Nat) (A0 : Option Addr) (c0 : Nat) (l0 : List (S45)) (A1 : Option Addr) (c1 : Nat) (l1 : List (S45)) (r : Bool) (w : World) (hr0 : Kd.C k45 w A0 l0.length l0) (hc0 : l0.length ≤ c0) (hr1 : Kd.C k45 w A1 l1.length l1) (hc1 : l1.length ≤ c1) (h : laws_eqFrameS.f k l0 l1 = some r) :
  Calls Try.prog 67 #[.slice A0 l0.length c0, .slice A1 l1.length c1] w fun e w' => e = .returned (.bool r) ∧ Below w.heap.size w w':=by
 have hu45:=Try.underlying45
 have HR0:=Aside0.mk hr0
 have HC0:=Aside0.mk hc0
 clear hr0 hc0
 have HR1:=Aside0.mk hr1
 have HC1:=Aside0.mk hc1
 clear hr1 hc1
 have HB:=Aside0.mk (Below.refl w.heap.size w)
 have H : (if (l0.length : Int) = (l1.length : Int) then (laws_eqFrameS.l0 k l0 l1 0) else (some false)) = some r:=h
 clear h
 by_cases c3 : (l0.length : Int) = (l1.length : Int)
 ·rw [if_pos c3] at H
  have c3b0 : ((l0.length : Int) == (l1.length : Int)) = true:=beq_iff_eq.mpr c3
  have c3b1 : ((l0.length : Int) != (l1.length : Int)) = false:=bne_eq_false_iff_eq.mpr c3
  have c3b2 : (l0.length == l1.length) = true:=by first | simpa using c3 | (simp at c3 ⊢;omega)
  clear c3
  have H':=Aside0.mk H
  clear H
  go_enter Try.func67,Try.ntmps67
  go_wp2
  go_loopg [5] k (fun kq v5 w' => ∃ (x5_1 : Int),v5 = .int .i64 x5_1 ∧ Aside0 (laws_eqFrameS.l0 kq l0 l1 x5_1 = some r) ∧ Aside0 (kq ≤ k) ∧ Aside0 (Below w.heap.size w w'))
  case atStart => exact ⟨(0),(by first | rfl | (simp;done) | (simp [*];done)),H',⟨Nat.le_refl _⟩,⟨by repeat (first | (with_reducible first | exact HB.out | apply below_alloc | apply pw_below_drewN | apply below_drew1) | exact HB.out)⟩⟩
  case round =>
   clear H'
   try clear c1
   try clear p2
   try clear c3
   try clear c3b0
   try clear c3b1
   try clear c3b2
   obtain ⟨x5_1,rfl,HA,HK1,HB⟩:=hrel
   cases gk with
   | zero => exact absurd HA.out (by simp [laws_eqFrameS.l0])
   | succ k1 =>
    have H:=HA.out
    clear HA
    simp only [laws_eqFrameS.l0] at H
    by_cases c4 : x5_1 < (l0.length : Int)
    ·rw [if_pos c4] at H
     have c4b0 : decide (x5_1 < (l0.length : Int)) = true:=decide_eq_true c4
     clear c4
     by_cases c5 : 0 ≤ x5_1
     ·rw [if_pos c5] at H
      have c5b0 : decide (0 ≤ x5_1) = true:=decide_eq_true c5
      clear c5
      by_cases c6 : x5_1 < (l1.length : Int)
      ·rw [if_pos c6] at H
       have c6b0 : decide (x5_1 < (l1.length : Int)) = true:=decide_eq_true c6
       clear c6
       replace H:=Option.bind_eq_some_iff.mp H
       obtain ⟨t650,A70,H⟩:=H
       replace H : (if t650 = true then (laws_eqFrameS.l0 k1 l0 l1 (wrap64 (x5_1 + 1))) else (some false)) = some r:=H
       have A7:=Aside0.mk A70
       clear A70
       by_cases c8 : t650 = true
       ·subst c8
        have H1 : (laws_eqFrameS.l0 k1 l0 l1 (wrap64 (x5_1 + 1))) = some r:=by rw [if_pos rfl] at H;exact H
        clear H
        have H:=H1
        clear H1
        have H':=Aside0.mk H
        clear H
        try go_wp2
        have n0_:=Aside0.mk (below_drew1 HB.out)
        clear HB
        have HB:=n0_
        clear n0_
        have p648 : 0 ≤ (x5_1 : Int):=of_decide_eq_true (by first | (with_reducible assumption) | assumption)
        have q648 : x5_1 < (l0.length : Int):=of_decide_eq_true (by first | (with_reducible assumption) | assumption)
        obtain ⟨ad648,A648_4,c648_4,e648,hx648_0,hx648_1,hx648_2,hx648_3,hx648_4,hl648_4,hi648_4⟩:=at_T45 HR0.out x5_1 p648 q648
        have hw648_4:=hx648_4
        have hw648_3:=hx648_3
        have hw648_2:=hx648_2
        have hw648_1:=hx648_1
        have hw648_0:=hx648_0
        cases e648
        replace hx648_0:=(HB.out.cell (World.block_lt_of_cell? w _ hx648_0)).trans hx648_0
        replace hx648_1:=(HB.out.cell (World.block_lt_of_cell? w _ hx648_1)).trans hx648_1
        replace hx648_2:=(HB.out.cell (World.block_lt_of_cell? w _ hx648_2)).trans hx648_2
        replace hx648_3:=(HB.out.cell (World.block_lt_of_cell? w _ hx648_3)).trans hx648_3
        replace hx648_4:=(HB.out.cell (World.block_lt_of_cell? w _ hx648_4)).trans hx648_4
        have HR648_4:=Aside0.mk hi648_4
        have HC648_4:=Aside0.mk hl648_4
        clear hi648_4 hl648_4
        replace p648:=eq_true p648
        replace q648:=eq_true q648
        have p649 : 0 ≤ (x5_1 : Int):=of_decide_eq_true (by first | (with_reducible assumption) | assumption)
        have q649 : x5_1 < (l1.length : Int):=of_decide_eq_true (by first | (with_reducible assumption) | assumption)
        obtain ⟨ad649,A649_4,c649_4,e649,hx649_0,hx649_1,hx649_2,hx649_3,hx649_4,hl649_4,hi649_4⟩:=at_T45 HR1.out x5_1 p649 q649
        have hw649_4:=hx649_4
        have hw649_3:=hx649_3
        have hw649_2:=hx649_2
        have hw649_1:=hx649_1
        have hw649_0:=hx649_0
        cases e649
        replace hx649_0:=(HB.out.cell (World.block_lt_of_cell? w _ hx649_0)).trans hx649_0
        replace hx649_1:=(HB.out.cell (World.block_lt_of_cell? w _ hx649_1)).trans hx649_1
        replace hx649_2:=(HB.out.cell (World.block_lt_of_cell? w _ hx649_2)).trans hx649_2
        replace hx649_3:=(HB.out.cell (World.block_lt_of_cell? w _ hx649_3)).trans hx649_3
        replace hx649_4:=(HB.out.cell (World.block_lt_of_cell? w _ hx649_4)).trans hx649_4
        have HR649_4:=Aside0.mk hi649_4
        have HC649_4:=Aside0.mk hl649_4
        clear hi649_4 hl649_4
        replace p649:=eq_true p649
        replace q649:=eq_true q649
        refine start_ (n:=10) (S:=fun w' => w'.cell? (ad648.add ((x5_1).toNat * 5)) = some (.bool ((rd_T45 l0 x5_1).f0)) ∧ w'.cell? ⟨(ad648.add ((x5_1).toNat * 5)).block,(ad648.add ((x5_1).toNat * 5)).off + 1,none⟩ = some (.int .u32 ((rd_T45 l0 x5_1).f1)) ∧ w'.cell? ⟨(ad648.add ((x5_1).toNat * 5)).block,(ad648.add ((x5_1).toNat * 5)).off + 2,none⟩ = some (.bool ((rd_T45 l0 x5_1).f2)) ∧ w'.cell? ⟨(ad648.add ((x5_1).toNat * 5)).block,(ad648.add ((x5_1).toNat * 5)).off + 3,none⟩ = some (.int .i64 ((rd_T45 l0 x5_1).f3)) ∧ w'.cell? ⟨(ad648.add ((x5_1).toNat * 5)).block,(ad648.add ((x5_1).toNat * 5)).off + 4,none⟩ = some (.slice A648_4 ((rd_T45 l0 x5_1).f4).length c648_4) ∧ w'.cell? (ad649.add ((x5_1).toNat * 5)) = some (.bool ((rd_T45 l1 x5_1).f0)) ∧ w'.cell? ⟨(ad649.add ((x5_1).toNat * 5)).block,(ad649.add ((x5_1).toNat * 5)).off + 1,none⟩ = some (.int .u32 ((rd_T45 l1 x5_1).f1)) ∧ w'.cell? ⟨(ad649.add ((x5_1).toNat * 5)).block,(ad649.add ((x5_1).toNat * 5)).off + 2,none⟩ = some (.bool ((rd_T45 l1 x5_1).f2)) ∧ w'.cell? ⟨(ad649.add ((x5_1).toNat * 5)).block,(ad649.add ((x5_1).toNat * 5)).off + 3,none⟩ = some (.int .i64 ((rd_T45 l1 x5_1).f3)) ∧ w'.cell? ⟨(ad649.add ((x5_1).toNat * 5)).block,(ad649.add ((x5_1).toNat * 5)).off + 4,none⟩ = some (.slice A649_4 ((rd_T45 l1 x5_1).f4).length c649_4)) (ds := []) #[false,false,false,false,false,false,false,false,false,false] (by kernel_rfl) rfl rfl ⟨((HB.out.cell (World.block_lt_of_cell? w _ hw648_0)).trans hw648_0),((HB.out.cell (World.block_lt_of_cell? w _ hw648_1)).trans hw648_1),((HB.out.cell (World.block_lt_of_cell? w _ hw648_2)).trans hw648_2),((HB.out.cell (World.block_lt_of_cell? w _ hw648_3)).trans hw648_3),((HB.out.cell (World.block_lt_of_cell? w _ hw648_4)).trans hw648_4),((HB.out.cell (World.block_lt_of_cell? w _ hw649_0)).trans hw649_0),((HB.out.cell (World.block_lt_of_cell? w _ hw649_1)).trans hw649_1),((HB.out.cell (World.block_lt_of_cell? w _ hw649_2)).trans hw649_2),((HB.out.cell (World.block_lt_of_cell? w _ hw649_3)).trans hw649_3),((HB.out.cell (World.block_lt_of_cell? w _ hw649_4)).trans hw649_4)⟩ (fun hHeld => ?_);refine with_tabW laws_eqFrameS.tab6 laws_eqFrameS.bits6 (fun HT_ HW_ => ?_)
        generalize wr.drew = w9 at HB HR648_4 HR649_4 hx648_0 hx648_1 hx648_2 hx648_3 hx648_4 hx649_0 hx649_1 hx649_2 hx649_3 hx649_4 hHeld ⊢
        refine pure_ (i:=0) (N:=some 17) (v := ?_) (a' := ?_) #[true,false,false,false,false,false,false,false,false,false] rfl rfl (any_of HT_.out (by kernel_rfl)) (fun _ _ _ h => h) (Or.inl ⟨by rfl, ?_⟩) ?_ ?_
        rotate_left
        ·intro w'
         go_simp
         with_reducible rfl
        rotate_left
        ·simp only [Act.put,List.setIfInBounds_toArray,List.set_cons_zero,List.set_cons_succ,i64_w,i32_w]
         rfl
        refine pure_ (i:=1) (N:=some 18) (v := ?_) (a' := ?_) #[true,true,false,false,false,false,false,false,false,false] rfl rfl (any_of HT_.out (by kernel_rfl)) (fun _ _ _ h => h) (Or.inl ⟨by rfl, ?_⟩) ?_ ?_
        rotate_left
        ·intro w'
         go_simp
         with_reducible rfl
        rotate_left
        ·simp only [Act.put,List.setIfInBounds_toArray,List.set_cons_zero,List.set_cons_succ,i64_w,i32_w]
         rfl
        refine pure_ (i:=2) (N:=some 19) (v := ?_) (a' := ?_) #[true,true,true,false,false,false,false,false,false,false] rfl rfl (any_of HT_.out (by kernel_rfl)) (fun _ _ _ h => h) (Or.inl ⟨by rfl, ?_⟩) ?_ ?_
        rotate_left
        ·intro w'
         go_simp
         with_reducible rfl
        rotate_left
        ·simp only [Act.put,List.setIfInBounds_toArray,List.set_cons_zero,List.set_cons_succ,i64_w,i32_w]
         rfl
        refine pure_ (i:=4) (N:=some 21) (v := ?_) (a' := ?_) #[true,true,true,false,true,false,false,false,false,false] rfl rfl (any_of HT_.out (by kernel_rfl)) (fun _ _ _ h => h) (Or.inl ⟨by rfl, ?_⟩) ?_ ?_
        rotate_left
        ·intro w'
         go_simp
         with_reducible rfl
        rotate_left
        ·simp only [Act.put,List.setIfInBounds_toArray,List.set_cons_zero,List.set_cons_succ,i64_w,i32_w]
         rfl
        refine pure_ (i:=5) (N:=some 22) (v := ?_) (a' := ?_) #[true,true,true,false,true,true,false,false,false,false] rfl rfl (any_of HT_.out (by kernel_rfl)) (fun _ _ _ h => h) (Or.inl ⟨by rfl, ?_⟩) ?_ ?_
        rotate_left
        ·intro w'
         go_simp
         with_reducible rfl
        rotate_left
        ·simp only [Act.put,List.setIfInBounds_toArray,List.set_cons_zero,List.set_cons_succ,i64_w,i32_w]
         rfl
        refine pure_ (i:=6) (N:=some 23) (v := ?_) (a' := ?_) #[true,true,true,false,true,true,true,false,false,false] rfl rfl (any_of HT_.out (by kernel_rfl)) (fun _ _ _ h => h) (Or.inl ⟨by rfl, ?_⟩) ?_ ?_
        rotate_left
        ·intro w'
         go_simp
         with_reducible rfl
        rotate_left
        ·simp only [Act.put,List.setIfInBounds_toArray,List.set_cons_zero,List.set_cons_succ,i64_w,i32_w]
         rfl
        refine take_ (i:=3) (N:=some 20) (v := ?_) (a' := ?_) #[true,true,true,true,true,true,true,false,false,false] rfl rfl (take_ofW HT_.out HW_.out (by kernel_rfl)) (fun _ _ _ h => h) (Or.inl ⟨by rfl, ?_⟩) hHeld ?_ ?_
        rotate_left
        ·rintro w' ⟨s0,s1,s2,s3,s4,s5,s6,s7,s8,s9⟩
         go_simp
         with_reducible rfl
        rotate_left
        ·simp only [Act.put,List.setIfInBounds_toArray,List.set_cons_zero,List.set_cons_succ,i64_w,i32_w]
         rfl
        refine take_ (i:=7) (N:=some 24) (v := ?_) (a' := ?_) #[true,true,true,true,true,true,true,true,false,false] rfl rfl (take_ofW HT_.out HW_.out (by kernel_rfl)) (fun _ _ _ h => h) (Or.inl ⟨by rfl, ?_⟩) hHeld ?_ ?_
        rotate_left
        ·rintro w' ⟨s0,s1,s2,s3,s4,s5,s6,s7,s8,s9⟩
         go_simp
         with_reducible rfl
        rotate_left
        ·simp only [Act.put,List.setIfInBounds_toArray,List.set_cons_zero,List.set_cons_succ,i64_w,i32_w]
         rfl
        refine one_ (i:=8) (N:=some 25) #[true,true,true,true,true,true,true,true,true,false] rfl rfl (one_of HT_.out (by kernel_rfl)) (by decide) (fun K hK => ?_)
        refine goes_ Try.func55 (by kernel_rfl) rfl #[.agg #[.bool ((rd_T45 l0 x5_1).f0), .int .u32 ((rd_T45 l0 x5_1).f1), .bool ((rd_T45 l0 x5_1).f2), .int .i64 ((rd_T45 l0 x5_1).f3), .slice A648_4 ((rd_T45 l0 x5_1).f4).length c648_4], .agg #[.bool ((rd_T45 l1 x5_1).f0), .int .u32 ((rd_T45 l1 x5_1).f1), .bool ((rd_T45 l1 x5_1).f2), .int .i64 ((rd_T45 l1 x5_1).f3), .slice A649_4 ((rd_T45 l1 x5_1).f4).length c649_4]] (by rfl) rfl rfl (by (try simp only [List.map_toArray,List.map_cons,List.map_nil]);first | done | rfl | (simp only [List.length_drop,List.length_take];rfl)) ?_
        with_reducible refine (laws_eqFrame.calls k1 ((rd_T45 l0 x5_1).f0) ((rd_T45 l0 x5_1).f1) ((rd_T45 l0 x5_1).f2) ((rd_T45 l0 x5_1).f3) _ _ ((rd_T45 l0 x5_1).f4) ((rd_T45 l1 x5_1).f0) ((rd_T45 l1 x5_1).f1) ((rd_T45 l1 x5_1).f2) ((rd_T45 l1 x5_1).f3) _ _ ((rd_T45 l1 x5_1).f4) true _ ?side1 ?side2 ?side3 ?side4 A7.out).mono ?_
        (case side1 => repeat (first | exact (Kd.C_below HR648_4.out HB.out) | (with_reducible refine Kd.C_alloc ?_ _) | (with_reducible refine Kd.C_drewN ?_ _) | (with_reducible refine Kd.C_drew ?_)))
        (case side2 => exact HC648_4.out)
        (case side3 => repeat (first | exact (Kd.C_below HR649_4.out HB.out) | (with_reducible refine Kd.C_alloc ?_ _) | (with_reducible refine Kd.C_drewN ?_ _) | (with_reducible refine Kd.C_drew ?_)))
        (case side4 => exact HC649_4.out)
        rintro e w10 ⟨rfl,hb⟩
        refine ⟨_,rfl, ?_⟩
        have n0_:=Aside0.mk (below_step (by repeat (first | (with_reducible first | exact HB.out | apply below_alloc | apply pw_below_drewN | apply below_drew1) | exact HB.out)) hb)
        clear HB
        have HB:=n0_
        clear n0_
        (try clear hb)
        (try clear hb2)
        (try clear hk)
        (try clear hi)
        refine hK.out _ _ ⟨((HB.out.cell (World.block_lt_of_cell? w _ hw648_0)).trans hw648_0),((HB.out.cell (World.block_lt_of_cell? w _ hw648_1)).trans hw648_1),((HB.out.cell (World.block_lt_of_cell? w _ hw648_2)).trans hw648_2),((HB.out.cell (World.block_lt_of_cell? w _ hw648_3)).trans hw648_3),((HB.out.cell (World.block_lt_of_cell? w _ hw648_4)).trans hw648_4),((HB.out.cell (World.block_lt_of_cell? w _ hw649_0)).trans hw649_0),((HB.out.cell (World.block_lt_of_cell? w _ hw649_1)).trans hw649_1),((HB.out.cell (World.block_lt_of_cell? w _ hw649_2)).trans hw649_2),((HB.out.cell (World.block_lt_of_cell? w _ hw649_3)).trans hw649_3),((HB.out.cell (World.block_lt_of_cell? w _ hw649_4)).trans hw649_4)⟩ (fun hHeld => ?_)
        clear hK K
        refine norm_ (a' := ?_) ?_ ?_
        rotate_left
        ·show Act.put _ (some 25) _ = _
         simp only [Act.put,List.setIfInBounds_toArray,List.set_cons_zero,List.set_cons_succ,i64_w,i32_w]
         rfl
        refine pure_ (i:=9) (N:=some 26) (v := ?_) (a' := ?_) #[true,true,true,true,true,true,true,true,true,true] rfl rfl (any_of HT_.out (by kernel_rfl)) (fun _ _ _ h => h) (Or.inl ⟨by rfl, ?_⟩) ?_ ?_
        rotate_left
        ·intro w'
         go_simp
         with_reducible rfl
        rotate_left
        ·simp only [Act.put,List.setIfInBounds_toArray,List.set_cons_zero,List.set_cons_succ,i64_w,i32_w]
         rfl
        refine done_ (done_of HT_.out (by kernel_rfl)) ?_
        try go_wp2
        go_roundg k1
        case measure => have:=HK1.out;omega
        case rel => exact ⟨(wrap64 (x5_1 + 1)),(by first | rfl | (simp;done) | (simp [*];done)),H',⟨by have:=HK1.out;omega⟩,⟨by repeat (first | (with_reducible first | exact HB.out | apply below_alloc | apply pw_below_drewN | apply below_drew1) | exact HB.out)⟩⟩
       ·replace c8:=Bool.eq_false_iff.mpr c8
        subst c8
        have H1 : (some false) = some r:=by rw [if_neg (show ¬ (false = true) by decide)] at H;exact H
        clear H
        have H:=H1
        clear H1
        obtain rfl:=Option.some.inj H
        try go_wp2
        have n0_:=Aside0.mk (below_drew1 HB.out)
        clear HB
        have HB:=n0_
        clear n0_
        have p648 : 0 ≤ (x5_1 : Int):=of_decide_eq_true (by first | (with_reducible assumption) | assumption)
        have q648 : x5_1 < (l0.length : Int):=of_decide_eq_true (by first | (with_reducible assumption) | assumption)
        obtain ⟨ad648,A648_4,c648_4,e648,hx648_0,hx648_1,hx648_2,hx648_3,hx648_4,hl648_4,hi648_4⟩:=at_T45 HR0.out x5_1 p648 q648
        have hw648_4:=hx648_4
        have hw648_3:=hx648_3
        have hw648_2:=hx648_2
        have hw648_1:=hx648_1
        have hw648_0:=hx648_0
        cases e648
        replace hx648_0:=(HB.out.cell (World.block_lt_of_cell? w _ hx648_0)).trans hx648_0
        replace hx648_1:=(HB.out.cell (World.block_lt_of_cell? w _ hx648_1)).trans hx648_1
        replace hx648_2:=(HB.out.cell (World.block_lt_of_cell? w _ hx648_2)).trans hx648_2
        replace hx648_3:=(HB.out.cell (World.block_lt_of_cell? w _ hx648_3)).trans hx648_3
        replace hx648_4:=(HB.out.cell (World.block_lt_of_cell? w _ hx648_4)).trans hx648_4
        have HR648_4:=Aside0.mk hi648_4
        have HC648_4:=Aside0.mk hl648_4
        clear hi648_4 hl648_4
        replace p648:=eq_true p648
        replace q648:=eq_true q648
        have p649 : 0 ≤ (x5_1 : Int):=of_decide_eq_true (by first | (with_reducible assumption) | assumption)
        have q649 : x5_1 < (l1.length : Int):=of_decide_eq_true (by first | (with_reducible assumption) | assumption)
        obtain ⟨ad649,A649_4,c649_4,e649,hx649_0,hx649_1,hx649_2,hx649_3,hx649_4,hl649_4,hi649_4⟩:=at_T45 HR1.out x5_1 p649 q649
        have hw649_4:=hx649_4
        have hw649_3:=hx649_3
        have hw649_2:=hx649_2
        have hw649_1:=hx649_1
        have hw649_0:=hx649_0
        cases e649
        replace hx649_0:=(HB.out.cell (World.block_lt_of_cell? w _ hx649_0)).trans hx649_0
        replace hx649_1:=(HB.out.cell (World.block_lt_of_cell? w _ hx649_1)).trans hx649_1
        replace hx649_2:=(HB.out.cell (World.block_lt_of_cell? w _ hx649_2)).trans hx649_2
        replace hx649_3:=(HB.out.cell (World.block_lt_of_cell? w _ hx649_3)).trans hx649_3
        replace hx649_4:=(HB.out.cell (World.block_lt_of_cell? w _ hx649_4)).trans hx649_4
        have HR649_4:=Aside0.mk hi649_4
        have HC649_4:=Aside0.mk hl649_4
        clear hi649_4 hl649_4
        replace p649:=eq_true p649
        replace q649:=eq_true q649
        refine start_ (n:=10) (S:=fun w' => w'.cell? (ad648.add ((x5_1).toNat * 5)) = some (.bool ((rd_T45 l0 x5_1).f0)) ∧ w'.cell? ⟨(ad648.add ((x5_1).toNat * 5)).block,(ad648.add ((x5_1).toNat * 5)).off + 1,none⟩ = some (.int .u32 ((rd_T45 l0 x5_1).f1)) ∧ w'.cell? ⟨(ad648.add ((x5_1).toNat * 5)).block,(ad648.add ((x5_1).toNat * 5)).off + 2,none⟩ = some (.bool ((rd_T45 l0 x5_1).f2)) ∧ w'.cell? ⟨(ad648.add ((x5_1).toNat * 5)).block,(ad648.add ((x5_1).toNat * 5)).off + 3,none⟩ = some (.int .i64 ((rd_T45 l0 x5_1).f3)) ∧ w'.cell? ⟨(ad648.add ((x5_1).toNat * 5)).block,(ad648.add ((x5_1).toNat * 5)).off + 4,none⟩ = some (.slice A648_4 ((rd_T45 l0 x5_1).f4).length c648_4) ∧ w'.cell? (ad649.add ((x5_1).toNat * 5)) = some (.bool ((rd_T45 l1 x5_1).f0)) ∧ w'.cell? ⟨(ad649.add ((x5_1).toNat * 5)).block,(ad649.add ((x5_1).toNat * 5)).off + 1,none⟩ = some (.int .u32 ((rd_T45 l1 x5_1).f1)) ∧ w'.cell? ⟨(ad649.add ((x5_1).toNat * 5)).block,(ad649.add ((x5_1).toNat * 5)).off + 2,none⟩ = some (.bool ((rd_T45 l1 x5_1).f2)) ∧ w'.cell? ⟨(ad649.add ((x5_1).toNat * 5)).block,(ad649.add ((x5_1).toNat * 5)).off + 3,none⟩ = some (.int .i64 ((rd_T45 l1 x5_1).f3)) ∧ w'.cell? ⟨(ad649.add ((x5_1).toNat * 5)).block,(ad649.add ((x5_1).toNat * 5)).off + 4,none⟩ = some (.slice A649_4 ((rd_T45 l1 x5_1).f4).length c649_4)) (ds := []) #[false,false,false,false,false,false,false,false,false,false] (by kernel_rfl) rfl rfl ⟨((HB.out.cell (World.block_lt_of_cell? w _ hw648_0)).trans hw648_0),((HB.out.cell (World.block_lt_of_cell? w _ hw648_1)).trans hw648_1),((HB.out.cell (World.block_lt_of_cell? w _ hw648_2)).trans hw648_2),((HB.out.cell (World.block_lt_of_cell? w _ hw648_3)).trans hw648_3),((HB.out.cell (World.block_lt_of_cell? w _ hw648_4)).trans hw648_4),((HB.out.cell (World.block_lt_of_cell? w _ hw649_0)).trans hw649_0),((HB.out.cell (World.block_lt_of_cell? w _ hw649_1)).trans hw649_1),((HB.out.cell (World.block_lt_of_cell? w _ hw649_2)).trans hw649_2),((HB.out.cell (World.block_lt_of_cell? w _ hw649_3)).trans hw649_3),((HB.out.cell (World.block_lt_of_cell? w _ hw649_4)).trans hw649_4)⟩ (fun hHeld => ?_);refine with_tabW laws_eqFrameS.tab6 laws_eqFrameS.bits6 (fun HT_ HW_ => ?_)
        generalize wr.drew = w11 at HB HR648_4 HR649_4 hx648_0 hx648_1 hx648_2 hx648_3 hx648_4 hx649_0 hx649_1 hx649_2 hx649_3 hx649_4 hHeld ⊢
        refine pure_ (i:=0) (N:=some 17) (v := ?_) (a' := ?_) #[true,false,false,false,false,false,false,false,false,false] rfl rfl (any_of HT_.out (by kernel_rfl)) (fun _ _ _ h => h) (Or.inl ⟨by rfl, ?_⟩) ?_ ?_
        rotate_left
        ·intro w'
         go_simp
         with_reducible rfl
        rotate_left
        ·simp only [Act.put,List.setIfInBounds_toArray,List.set_cons_zero,List.set_cons_succ,i64_w,i32_w]
         rfl
        refine pure_ (i:=1) (N:=some 18) (v := ?_) (a' := ?_) #[true,true,false,false,false,false,false,false,false,false] rfl rfl (any_of HT_.out (by kernel_rfl)) (fun _ _ _ h => h) (Or.inl ⟨by rfl, ?_⟩) ?_ ?_
        rotate_left
        ·intro w'
         go_simp
         with_reducible rfl
        rotate_left
        ·simp only [Act.put,List.setIfInBounds_toArray,List.set_cons_zero,List.set_cons_succ,i64_w,i32_w]
         rfl
        refine pure_ (i:=2) (N:=some 19) (v := ?_) (a' := ?_) #[true,true,true,false,false,false,false,false,false,false] rfl rfl (any_of HT_.out (by kernel_rfl)) (fun _ _ _ h => h) (Or.inl ⟨by rfl, ?_⟩) ?_ ?_
        rotate_left
        ·intro w'
         go_simp
         with_reducible rfl
        rotate_left
        ·simp only [Act.put,List.setIfInBounds_toArray,List.set_cons_zero,List.set_cons_succ,i64_w,i32_w]
         rfl
        refine pure_ (i:=4) (N:=some 21) (v := ?_) (a' := ?_) #[true,true,true,false,true,false,false,false,false,false] rfl rfl (any_of HT_.out (by kernel_rfl)) (fun _ _ _ h => h) (Or.inl ⟨by rfl, ?_⟩) ?_ ?_
        rotate_left
        ·intro w'
         go_simp
         with_reducible rfl
        rotate_left
        ·simp only [Act.put,List.setIfInBounds_toArray,List.set_cons_zero,List.set_cons_succ,i64_w,i32_w]
         rfl
        refine pure_ (i:=5) (N:=some 22) (v := ?_) (a' := ?_) #[true,true,true,false,true,true,false,false,false,false] rfl rfl (any_of HT_.out (by kernel_rfl)) (fun _ _ _ h => h) (Or.inl ⟨by rfl, ?_⟩) ?_ ?_
        rotate_left
        ·intro w'
         go_simp
         with_reducible rfl
        rotate_left
        ·simp only [Act.put,List.setIfInBounds_toArray,List.set_cons_zero,List.set_cons_succ,i64_w,i32_w]
         rfl
        refine pure_ (i:=6) (N:=some 23) (v := ?_) (a' := ?_) #[true,true,true,false,true,true,true,false,false,false] rfl rfl (any_of HT_.out (by kernel_rfl)) (fun _ _ _ h => h) (Or.inl ⟨by rfl, ?_⟩) ?_ ?_
        rotate_left
        ·intro w'
         go_simp
         with_reducible rfl
        rotate_left
        ·simp only [Act.put,List.setIfInBounds_toArray,List.set_cons_zero,List.set_cons_succ,i64_w,i32_w]
         rfl
        refine take_ (i:=3) (N:=some 20) (v := ?_) (a' := ?_) #[true,true,true,true,true,true,true,false,false,false] rfl rfl (take_ofW HT_.out HW_.out (by kernel_rfl)) (fun _ _ _ h => h) (Or.inl ⟨by rfl, ?_⟩) hHeld ?_ ?_
        rotate_left
        ·rintro w' ⟨s0,s1,s2,s3,s4,s5,s6,s7,s8,s9⟩
         go_simp
         with_reducible rfl
        rotate_left
        ·simp only [Act.put,List.setIfInBounds_toArray,List.set_cons_zero,List.set_cons_succ,i64_w,i32_w]
         rfl
        refine take_ (i:=7) (N:=some 24) (v := ?_) (a' := ?_) #[true,true,true,true,true,true,true,true,false,false] rfl rfl (take_ofW HT_.out HW_.out (by kernel_rfl)) (fun _ _ _ h => h) (Or.inl ⟨by rfl, ?_⟩) hHeld ?_ ?_
        rotate_left
        ·rintro w' ⟨s0,s1,s2,s3,s4,s5,s6,s7,s8,s9⟩
         go_simp
         with_reducible rfl
        rotate_left
        ·simp only [Act.put,List.setIfInBounds_toArray,List.set_cons_zero,List.set_cons_succ,i64_w,i32_w]
         rfl
        refine one_ (i:=8) (N:=some 25) #[true,true,true,true,true,true,true,true,true,false] rfl rfl (one_of HT_.out (by kernel_rfl)) (by decide) (fun K hK => ?_)
        refine goes_ Try.func55 (by kernel_rfl) rfl #[.agg #[.bool ((rd_T45 l0 x5_1).f0), .int .u32 ((rd_T45 l0 x5_1).f1), .bool ((rd_T45 l0 x5_1).f2), .int .i64 ((rd_T45 l0 x5_1).f3), .slice A648_4 ((rd_T45 l0 x5_1).f4).length c648_4], .agg #[.bool ((rd_T45 l1 x5_1).f0), .int .u32 ((rd_T45 l1 x5_1).f1), .bool ((rd_T45 l1 x5_1).f2), .int .i64 ((rd_T45 l1 x5_1).f3), .slice A649_4 ((rd_T45 l1 x5_1).f4).length c649_4]] (by rfl) rfl rfl (by (try simp only [List.map_toArray,List.map_cons,List.map_nil]);first | done | rfl | (simp only [List.length_drop,List.length_take];rfl)) ?_
        with_reducible refine (laws_eqFrame.calls k1 ((rd_T45 l0 x5_1).f0) ((rd_T45 l0 x5_1).f1) ((rd_T45 l0 x5_1).f2) ((rd_T45 l0 x5_1).f3) _ _ ((rd_T45 l0 x5_1).f4) ((rd_T45 l1 x5_1).f0) ((rd_T45 l1 x5_1).f1) ((rd_T45 l1 x5_1).f2) ((rd_T45 l1 x5_1).f3) _ _ ((rd_T45 l1 x5_1).f4) false _ ?side1 ?side2 ?side3 ?side4 A7.out).mono ?_
        (case side1 => repeat (first | exact (Kd.C_below HR648_4.out HB.out) | (with_reducible refine Kd.C_alloc ?_ _) | (with_reducible refine Kd.C_drewN ?_ _) | (with_reducible refine Kd.C_drew ?_)))
        (case side2 => exact HC648_4.out)
        (case side3 => repeat (first | exact (Kd.C_below HR649_4.out HB.out) | (with_reducible refine Kd.C_alloc ?_ _) | (with_reducible refine Kd.C_drewN ?_ _) | (with_reducible refine Kd.C_drew ?_)))
        (case side4 => exact HC649_4.out)
        rintro e w12 ⟨rfl,hb⟩
        refine ⟨_,rfl, ?_⟩
        have n0_:=Aside0.mk (below_step (by repeat (first | (with_reducible first | exact HB.out | apply below_alloc | apply pw_below_drewN | apply below_drew1) | exact HB.out)) hb)
        clear HB
        have HB:=n0_
        clear n0_
        (try clear hb)
        (try clear hb2)
        (try clear hk)
        (try clear hi)
        refine hK.out _ _ ⟨((HB.out.cell (World.block_lt_of_cell? w _ hw648_0)).trans hw648_0),((HB.out.cell (World.block_lt_of_cell? w _ hw648_1)).trans hw648_1),((HB.out.cell (World.block_lt_of_cell? w _ hw648_2)).trans hw648_2),((HB.out.cell (World.block_lt_of_cell? w _ hw648_3)).trans hw648_3),((HB.out.cell (World.block_lt_of_cell? w _ hw648_4)).trans hw648_4),((HB.out.cell (World.block_lt_of_cell? w _ hw649_0)).trans hw649_0),((HB.out.cell (World.block_lt_of_cell? w _ hw649_1)).trans hw649_1),((HB.out.cell (World.block_lt_of_cell? w _ hw649_2)).trans hw649_2),((HB.out.cell (World.block_lt_of_cell? w _ hw649_3)).trans hw649_3),((HB.out.cell (World.block_lt_of_cell? w _ hw649_4)).trans hw649_4)⟩ (fun hHeld => ?_)
        clear hK K
        refine norm_ (a' := ?_) ?_ ?_
        rotate_left
        ·show Act.put _ (some 25) _ = _
         simp only [Act.put,List.setIfInBounds_toArray,List.set_cons_zero,List.set_cons_succ,i64_w,i32_w]
         rfl
        refine pure_ (i:=9) (N:=some 26) (v := ?_) (a' := ?_) #[true,true,true,true,true,true,true,true,true,true] rfl rfl (any_of HT_.out (by kernel_rfl)) (fun _ _ _ h => h) (Or.inl ⟨by rfl, ?_⟩) ?_ ?_
        rotate_left
        ·intro w'
         go_simp
         with_reducible rfl
        rotate_left
        ·simp only [Act.put,List.setIfInBounds_toArray,List.set_cons_zero,List.set_cons_succ,i64_w,i32_w]
         rfl
        refine done_ (done_of HT_.out (by kernel_rfl)) ?_
        try go_wp2
        go_ret
        exact ⟨by first | rfl | (simp [errW_none,errW_some] <;> rfl) | (simp [*,errW_none,errW_some] <;> rfl),by repeat (first | (with_reducible first | exact HB.out | apply below_alloc | apply pw_below_drewN | apply below_drew1) | exact HB.out)⟩
      ·rw [if_neg c6] at H
       exact absurd H (by simp)
     ·rw [if_neg c5] at H
      exact absurd H (by simp)
    ·rw [if_neg c4] at H
     have c4b0 : decide (x5_1 < (l0.length : Int)) = false:=decide_eq_false c4
     clear c4
     obtain rfl:=Option.some.inj H
     go_wp2
     go_ret
     exact ⟨by first | rfl | (simp [errW_none,errW_some] <;> rfl) | (simp [*,errW_none,errW_some] <;> rfl),by repeat (first | (with_reducible first | exact HB.out | apply below_alloc | apply pw_below_drewN | apply below_drew1) | exact HB.out)⟩
 ·rw [if_neg c3] at H
  have c3b0 : ((l0.length : Int) == (l1.length : Int)) = false:=beq_eq_false_iff_ne.mpr c3
  have c3b1 : ((l0.length : Int) != (l1.length : Int)) = true:=bne_iff_ne.mpr c3
  have c3b2 : (l0.length == l1.length) = false:=by first | simpa using c3 | (simp at c3 ⊢;omega)
  obtain rfl:=Option.some.inj H
  go_enter Try.func67,Try.ntmps67
  go_wp2
  go_ret
  exact ⟨by first | rfl | (simp [errW_none,errW_some] <;> rfl) | (simp [*,errW_none,errW_some] <;> rfl),by repeat (first | (with_reducible first | exact HB.out | apply below_alloc | apply pw_below_drewN | apply below_drew1) | exact HB.out)⟩
def laws_szBox.f (a0_0 : Int) (a0_1 : Int) (a0_2 : Int) (a0_3 : Bool) (a0_4 : Int) (a0_5 : Bool) (a0_6 : Int) (l0_7 : List Int) (a1 : Int) : Option (Int):=(laws_szFrame.f a0_3 a0_4 a0_5 a0_6 l0_7 a1).bind fun t661 => (if t661 < 0 then (some (-1)) else (some t661))
def laws_szBoxS.l0 : Nat → List (S141) → Int → Int → Option (Int)
 | 0,_,_,_ => none
 | k + 1,x0,x1,x5 => if x5 < (x0.length : Int) then (if 0 ≤ x5 then ((laws_szBox.f ((rd_T141 x0 x5).f0) ((rd_T141 x0 x5).f1) ((rd_T141 x0 x5).f2) ((rd_T141 x0 x5).f3.f0) ((rd_T141 x0 x5).f3.f1) ((rd_T141 x0 x5).f3.f2) ((rd_T141 x0 x5).f3.f3) ((rd_T141 x0 x5).f3.f4) x1).bind fun t663 => (if t663 < 0 then (some (-1)) else (laws_szBoxS.l0 k x0 t663 (wrap64 (x5 + 1))))) else (none)) else (some x1)
def laws_toBox.f (k : Nat) (a0_0 : Int) (a0_1 : Int) (a0_2 : Int) (a0_3 : Bool) (a0_4 : Int) (a0_5 : Bool) (a0_6 : Int) (l0_7 : List Int) : Option (Int × Int × Int × Bool × Int × Bool × Int × List Int):=(laws_toFrame.f k a0_3 a0_4 a0_5 a0_6 l0_7).bind fun bt703 => (some (a0_0,a0_1,a0_2,bt703.1,bt703.2.1,bt703.2.2.1,bt703.2.2.2.1,bt703.2.2.2.2))
def laws_toBoxS.l0 : Nat → List (S141) → List (S87) → Int → Option ((List (S87)))
 | 0,_,_,_ => none
 | k + 1,x0,x3,x4 => if x4 < (x0.length : Int) then (if 0 ≤ x4 then ((laws_toBox.f k ((rd_T141 x0 x4).f0) ((rd_T141 x0 x4).f1) ((rd_T141 x0 x4).f2) ((rd_T141 x0 x4).f3.f0) ((rd_T141 x0 x4).f3.f1) ((rd_T141 x0 x4).f3.f2) ((rd_T141 x0 x4).f3.f3) ((rd_T141 x0 x4).f3.f4)).bind fun bt714 => (if x4 < (x3.length : Int) then (laws_toBoxS.l0 k x0 (x3.set (x4 : Int).toNat (⟨bt714.1,bt714.2.1,bt714.2.2.1,(⟨bt714.2.2.2.1,bt714.2.2.2.2.1,bt714.2.2.2.2.2.1,bt714.2.2.2.2.2.2.1,bt714.2.2.2.2.2.2.2⟩ : S45)⟩ : S87)) (wrap64 (x4 + 1))) else (none))) else (none)) else (some x3)
def laws_eqBox.f (k : Nat) (a0_0 : Int) (a0_1 : Int) (a0_2 : Int) (a0_3 : Bool) (a0_4 : Int) (a0_5 : Bool) (a0_6 : Int) (l0_7 : List Int) (a1_0 : Int) (a1_1 : Int) (a1_2 : Int) (a1_3 : Bool) (a1_4 : Int) (a1_5 : Bool) (a1_6 : Int) (l1_7 : List Int) : Option (Bool):=if a0_0 = a1_0 then (if a0_1 = a1_1 then (if a0_2 = a1_2 then ((laws_eqFrame.f k a0_3 a0_4 a0_5 a0_6 l0_7 a1_3 a1_4 a1_5 a1_6 l1_7).bind fun t644 => (if t644 = true then (some true) else (some false))) else (some false)) else (some false)) else (some false)
set_option maxHeartbeats 8000000 in
set_option maxRecDepth 100000 in
theorem laws_eqBox.calls (k : Nat) (a0_0 : Int) (a0_1 : Int) (a0_2 : Int) (a0_3 : Bool) (a0_4 : Int) (a0_5 : Bool) (a0_6 : Int) (A0_7 : Option Addr) (c0_7 : Nat) (l0_7 : List Int) (a1_0 : Int) (a1_1 : Int) (a1_2 : Int) (a1_3 : Bool) (a1_4 : Int) (a1_5 : Bool) (a1_6 : Int) (A1_7 : Option Addr) (c1_7 : Nat) (l1_7 : List Int) (r : Bool) (w : World) (hr0_7 : Kd.C (Kd.int .u8) w A0_7 l0_7.length l0_7) (hc0_7 : l0_7.length ≤ c0_7) (hr1_7 : Kd.C (Kd.int .u8) w A1_7 l1_7.length l1_7) (hc1_7 : l1_7.length ≤ c1_7) (h : laws_eqBox.f k a0_0 a0_1 a0_2 a0_3 a0_4 a0_5 a0_6 l0_7 a1_0 a1_1 a1_2 a1_3 a1_4 a1_5 a1_6 l1_7 = some r) :
  Calls Try.prog 112 #[.agg #[.int .i64 a0_0, .int .i64 a0_1, .int .i64 a0_2, .bool a0_3, .int .u32 a0_4, .bool a0_5, .int .i64 a0_6, .slice A0_7 l0_7.length c0_7], .agg #[.int .i64 a1_0, .int .i64 a1_1, .int .i64 a1_2, .bool a1_3, .int .u32 a1_4, .bool a1_5, .int .i64 a1_6, .slice A1_7 l1_7.length c1_7]] w fun e w' => e = .returned (.bool r) ∧ Below w.heap.size w w':=by
 have hu87:=Try.underlying87
 have hu45:=Try.underlying45
 have HR0_7:=Aside0.mk hr0_7
 have HC0_7:=Aside0.mk hc0_7
 clear hr0_7 hc0_7
 have HR1_7:=Aside0.mk hr1_7
 have HC1_7:=Aside0.mk hc1_7
 clear hr1_7 hc1_7
 have HB:=Aside0.mk (Below.refl w.heap.size w)
 have H : (if a0_0 = a1_0 then (if a0_1 = a1_1 then (if a0_2 = a1_2 then ((laws_eqFrame.f k a0_3 a0_4 a0_5 a0_6 l0_7 a1_3 a1_4 a1_5 a1_6 l1_7).bind fun t644 => (if t644 = true then (some true) else (some false))) else (some false)) else (some false)) else (some false)) = some r:=h
 clear h
 by_cases c3 : a0_0 = a1_0
 ·rw [if_pos c3] at H
  have c3b0 : (a0_0 == a1_0) = true:=beq_iff_eq.mpr c3
  have c3b1 : (a0_0 != a1_0) = false:=bne_eq_false_iff_eq.mpr c3
  clear c3
  by_cases c4 : a0_1 = a1_1
  ·rw [if_pos c4] at H
   have c4b0 : (a0_1 == a1_1) = true:=beq_iff_eq.mpr c4
   have c4b1 : (a0_1 != a1_1) = false:=bne_eq_false_iff_eq.mpr c4
   clear c4
   by_cases c5 : a0_2 = a1_2
   ·rw [if_pos c5] at H
    have c5b0 : (a0_2 == a1_2) = true:=beq_iff_eq.mpr c5
    have c5b1 : (a0_2 != a1_2) = false:=bne_eq_false_iff_eq.mpr c5
    clear c5
    replace H:=Option.bind_eq_some_iff.mp H
    obtain ⟨t644,A60,H⟩:=H
    replace H : (if t644 = true then (some true) else (some false)) = some r:=H
    have A6:=Aside0.mk A60
    clear A60
    by_cases c7 : t644 = true
    ·subst c7
     have H1 : (some true) = some r:=by rw [if_pos rfl] at H;exact H
     clear H
     have H:=H1
     clear H1
     obtain rfl:=Option.some.inj H
     go_enter Try.func112,Try.ntmps112
     go_wp2_with (first | ((with_reducible refine gate_dst (N:=2) rfl ?_);refine box_event ?hg (N:=2) ?hd (cs := #[.int .i64 a0_0, .int .i64 a0_1, .int .i64 a0_2, .bool a0_3, .int .u32 a0_4, .bool a0_5, .int .i64 a0_6, .slice A0_7 l0_7.length c0_7]) (t:=87) ?hr ?_;(case hd => rfl);(case hg => rfl);(case hr => first | (go_simp;done) | (go_simp;rfl));intro gb642 hg w8 hbox hb;have n0_:=Aside0.mk (below_step (by repeat (first | (with_reducible first | exact HB.out | apply below_alloc | apply pw_below_drewN | apply below_drew1) | exact HB.out)) hb);have n1_:=Aside0.mk (hbox);have n2_:=Aside0.mk ((by rw [hg];exact (below_size (by repeat (first | (with_reducible first | exact HB.out | apply below_alloc | apply pw_below_drewN | apply below_drew1) | exact HB.out))) : w.heap.size ≤ gb642));have n3_:=Aside0.mk ((by rw [hg];exact (below_size (by repeat (first | (with_reducible first | exact HB.out | apply below_alloc | apply pw_below_drewN | apply below_drew1) | exact HB.out))) : w.heap.size ≤ gb642));clear HB;have HB:=n0_;have BK642:=n1_;have GW642:=n2_;have GE642:=n3_;clear n0_ n1_ n2_ n3_;clear hb hbox hg) | ((with_reducible refine gate_dst (N:=3) rfl ?_);refine box_event ?hg (N:=3) ?hd (cs := #[.int .i64 a1_0, .int .i64 a1_1, .int .i64 a1_2, .bool a1_3, .int .u32 a1_4, .bool a1_5, .int .i64 a1_6, .slice A1_7 l1_7.length c1_7]) (t:=87) ?hr ?_;(case hd => rfl);(case hg => rfl);(case hr => first | (go_simp;done) | (go_simp;rfl));intro gb643 hg w9 hbox hb;have n0_:=Aside0.mk (blk_below (g:=gb642) (o := .cells #[.int .i64 a0_0, .int .i64 a0_1, .int .i64 a0_2, .bool a0_3, .int .u32 a0_4, .bool a0_5, .int .i64 a0_6, .slice A0_7 l0_7.length c0_7] 87 (0,0)) (by (with_reducible repeat (first | refine blk_drewN ?_ _ | refine blk_drew ?_ | refine blk_alloc ?_ _));exact BK642.out) hb);have n1_:=Aside0.mk (below_step (by repeat (first | (with_reducible first | exact HB.out | apply below_alloc | apply pw_below_drewN | apply below_drew1 | refine below_set ?_ GE642.out) | exact HB.out)) hb);have n2_:=Aside0.mk (hbox);have n3_:=Aside0.mk ((by rw [hg];exact (below_size (by repeat (first | (with_reducible first | exact HB.out | apply below_alloc | apply pw_below_drewN | apply below_drew1 | refine below_set ?_ GE642.out) | exact HB.out))) : w.heap.size ≤ gb643));have n4_:=Aside0.mk ((by rw [hg];exact (below_size (by repeat (first | (with_reducible first | exact HB.out | apply below_alloc | apply pw_below_drewN | apply below_drew1 | refine below_set ?_ GE642.out) | exact HB.out))) : w.heap.size ≤ gb643));have n5_:=Aside0.mk ((by rw [hg];exact Nat.ne_of_lt (blk_lt (g:=gb642) (o := .cells #[.int .i64 a0_0, .int .i64 a0_1, .int .i64 a0_2, .bool a0_3, .int .u32 a0_4, .bool a0_5, .int .i64 a0_6, .slice A0_7 l0_7.length c0_7] 87 (0,0)) (by (with_reducible repeat (first | refine blk_drewN ?_ _ | refine blk_drew ?_ | refine blk_alloc ?_ _));exact BK642.out)) : gb642 ≠ gb643));have n6_:=Aside0.mk ((by rw [hg];exact Nat.ne_of_gt (blk_lt (g:=gb642) (o := .cells #[.int .i64 a0_0, .int .i64 a0_1, .int .i64 a0_2, .bool a0_3, .int .u32 a0_4, .bool a0_5, .int .i64 a0_6, .slice A0_7 l0_7.length c0_7] 87 (0,0)) (by (with_reducible repeat (first | refine blk_drewN ?_ _ | refine blk_drew ?_ | refine blk_alloc ?_ _));exact BK642.out)) : gb643 ≠ gb642));clear BK642;clear HB;have BK642:=n0_;have HB:=n1_;have BK643:=n2_;have GW643:=n3_;have GE643:=n4_;have NB642_643:=n5_;have NB643_642:=n6_;clear n0_ n1_ n2_ n3_ n4_ n5_ n6_;clear hb hbox hg;have hnb10:=NB642_643.out;have hnc10:=NB643_642.out;have hcz11_0 : w9.cell? ⟨gb642,0,none⟩ = some (.int .i64 a0_0):=(blk_cell BK642.out 0).trans rfl;have hcz11_1 : w9.cell? ⟨gb642,1,none⟩ = some (.int .i64 a0_1):=(blk_cell BK642.out 1).trans rfl;have hcz11_2 : w9.cell? ⟨gb642,2,none⟩ = some (.int .i64 a0_2):=(blk_cell BK642.out 2).trans rfl;have hcz11_3 : w9.cell? ⟨gb642,3,none⟩ = some (.bool a0_3):=(blk_cell BK642.out 3).trans rfl;have hcz11_4 : w9.cell? ⟨gb642,4,none⟩ = some (.int .u32 a0_4):=(blk_cell BK642.out 4).trans rfl;have hcz11_5 : w9.cell? ⟨gb642,5,none⟩ = some (.bool a0_5):=(blk_cell BK642.out 5).trans rfl;have hcz11_6 : w9.cell? ⟨gb642,6,none⟩ = some (.int .i64 a0_6):=(blk_cell BK642.out 6).trans rfl;have hcz11_7 : w9.cell? ⟨gb642,7,none⟩ = some (.slice A0_7 l0_7.length c0_7):=(blk_cell BK642.out 7).trans rfl;have hfz11_0:=blk_frozen BK642.out 0;have hfz11_1:=blk_frozen BK642.out 1;have hfz11_2:=blk_frozen BK642.out 2;have hfz11_3:=blk_frozen BK642.out 3;have hfz11_4:=blk_frozen BK642.out 4;have hfz11_5:=blk_frozen BK642.out 5;have hfz11_6:=blk_frozen BK642.out 6;have hfz11_7:=blk_frozen BK642.out 7;have hcz12_0 : w9.cell? ⟨gb643,0,none⟩ = some (.int .i64 a1_0):=(blk_cell BK643.out 0).trans rfl;have hcz12_1 : w9.cell? ⟨gb643,1,none⟩ = some (.int .i64 a1_1):=(blk_cell BK643.out 1).trans rfl;have hcz12_2 : w9.cell? ⟨gb643,2,none⟩ = some (.int .i64 a1_2):=(blk_cell BK643.out 2).trans rfl;have hcz12_3 : w9.cell? ⟨gb643,3,none⟩ = some (.bool a1_3):=(blk_cell BK643.out 3).trans rfl;have hcz12_4 : w9.cell? ⟨gb643,4,none⟩ = some (.int .u32 a1_4):=(blk_cell BK643.out 4).trans rfl;have hcz12_5 : w9.cell? ⟨gb643,5,none⟩ = some (.bool a1_5):=(blk_cell BK643.out 5).trans rfl;have hcz12_6 : w9.cell? ⟨gb643,6,none⟩ = some (.int .i64 a1_6):=(blk_cell BK643.out 6).trans rfl;have hcz12_7 : w9.cell? ⟨gb643,7,none⟩ = some (.slice A1_7 l1_7.length c1_7):=(blk_cell BK643.out 7).trans rfl;have hfz12_0:=blk_frozen BK643.out 0;have hfz12_1:=blk_frozen BK643.out 1;have hfz12_2:=blk_frozen BK643.out 2;have hfz12_3:=blk_frozen BK643.out 3;have hfz12_4:=blk_frozen BK643.out 4;have hfz12_5:=blk_frozen BK643.out 5;have hfz12_6:=blk_frozen BK643.out 6;have hfz12_7:=blk_frozen BK643.out 7) | ((with_reducible refine gate_callee (f:=55) rfl ?_);refine goesL_ (some 24) rfl rfl Try.func55 (by kernel_rfl) rfl #[.agg #[.bool a0_3, .int .u32 a0_4, .bool a0_5, .int .i64 a0_6, .slice A0_7 l0_7.length c0_7], .agg #[.bool a1_3, .int .u32 a1_4, .bool a1_5, .int .i64 a1_6, .slice A1_7 l1_7.length c1_7]] rfl (by (try simp only [List.map_toArray,List.map_cons,List.map_nil]);first | done | rfl | (simp only [List.length_drop,List.length_take];rfl)) ?_;(with_reducible refine (laws_eqFrame.calls k a0_3 a0_4 a0_5 a0_6 _ _ l0_7 a1_3 a1_4 a1_5 a1_6 _ _ l1_7 true _ ?side1 ?side2 ?side3 ?side4 A6.out).mono ?_);(case side1 => repeat (first | exact (Kd.C_below HR0_7.out HB.out) | (with_reducible refine Kd.C_alloc ?_ _) | (with_reducible refine Kd.C_drewN ?_ _) | (with_reducible refine Kd.C_drew ?_)));(case side2 => exact HC0_7.out);(case side3 => repeat (first | exact (Kd.C_below HR1_7.out HB.out) | (with_reducible refine Kd.C_alloc ?_ _) | (with_reducible refine Kd.C_drewN ?_ _) | (with_reducible refine Kd.C_drew ?_)));(case side4 => exact HC1_7.out);rintro e w13 ⟨rfl,hb⟩;refine ⟨_,rfl, ?_⟩;have n0_:=Aside0.mk (blk_below (g:=gb642) (o := .cells #[.int .i64 a0_0, .int .i64 a0_1, .int .i64 a0_2, .bool a0_3, .int .u32 a0_4, .bool a0_5, .int .i64 a0_6, .slice A0_7 l0_7.length c0_7] 87 (0,0)) (by (with_reducible repeat (first | refine blk_drewN ?_ _ | refine blk_drew ?_ | refine blk_alloc ?_ _));exact BK642.out) hb);have n1_:=Aside0.mk (blk_below (g:=gb643) (o := .cells #[.int .i64 a1_0, .int .i64 a1_1, .int .i64 a1_2, .bool a1_3, .int .u32 a1_4, .bool a1_5, .int .i64 a1_6, .slice A1_7 l1_7.length c1_7] 87 (0,0)) (by (with_reducible repeat (first | refine blk_drewN ?_ _ | refine blk_drew ?_ | refine blk_alloc ?_ _));exact BK643.out) hb);have n2_:=Aside0.mk (below_step (by repeat (first | (with_reducible first | exact HB.out | apply below_alloc | apply pw_below_drewN | apply below_drew1 | refine below_set ?_ GE642.out | refine below_set ?_ GE643.out) | exact HB.out)) hb);clear BK642;clear BK643;clear HB;have BK642:=n0_;have BK643:=n1_;have HB:=n2_;clear n0_ n1_ n2_;(try clear hb);(try clear hb2);(try clear hk);(try clear hi)))
     go_ret
     exact ⟨by first | rfl | (simp [errW_none,errW_some] <;> rfl) | (simp [*,errW_none,errW_some] <;> rfl),by repeat (first | (with_reducible first | exact HB.out | apply below_alloc | apply pw_below_drewN | apply below_drew1 | refine below_set ?_ GE642.out | refine below_set ?_ GE643.out) | exact HB.out)⟩
    ·replace c7:=Bool.eq_false_iff.mpr c7
     subst c7
     have H1 : (some false) = some r:=by rw [if_neg (show ¬ (false = true) by decide)] at H;exact H
     clear H
     have H:=H1
     clear H1
     obtain rfl:=Option.some.inj H
     go_enter Try.func112,Try.ntmps112
     go_wp2_with (first | ((with_reducible refine gate_dst (N:=2) rfl ?_);refine box_event ?hg (N:=2) ?hd (cs := #[.int .i64 a0_0, .int .i64 a0_1, .int .i64 a0_2, .bool a0_3, .int .u32 a0_4, .bool a0_5, .int .i64 a0_6, .slice A0_7 l0_7.length c0_7]) (t:=87) ?hr ?_;(case hd => rfl);(case hg => rfl);(case hr => first | (go_simp;done) | (go_simp;rfl));intro gb642 hg w14 hbox hb;have n0_:=Aside0.mk (below_step (by repeat (first | (with_reducible first | exact HB.out | apply below_alloc | apply pw_below_drewN | apply below_drew1) | exact HB.out)) hb);have n1_:=Aside0.mk (hbox);have n2_:=Aside0.mk ((by rw [hg];exact (below_size (by repeat (first | (with_reducible first | exact HB.out | apply below_alloc | apply pw_below_drewN | apply below_drew1) | exact HB.out))) : w.heap.size ≤ gb642));have n3_:=Aside0.mk ((by rw [hg];exact (below_size (by repeat (first | (with_reducible first | exact HB.out | apply below_alloc | apply pw_below_drewN | apply below_drew1) | exact HB.out))) : w.heap.size ≤ gb642));clear HB;have HB:=n0_;have BK642:=n1_;have GW642:=n2_;have GE642:=n3_;clear n0_ n1_ n2_ n3_;clear hb hbox hg) | ((with_reducible refine gate_dst (N:=3) rfl ?_);refine box_event ?hg (N:=3) ?hd (cs := #[.int .i64 a1_0, .int .i64 a1_1, .int .i64 a1_2, .bool a1_3, .int .u32 a1_4, .bool a1_5, .int .i64 a1_6, .slice A1_7 l1_7.length c1_7]) (t:=87) ?hr ?_;(case hd => rfl);(case hg => rfl);(case hr => first | (go_simp;done) | (go_simp;rfl));intro gb643 hg w15 hbox hb;have n0_:=Aside0.mk (blk_below (g:=gb642) (o := .cells #[.int .i64 a0_0, .int .i64 a0_1, .int .i64 a0_2, .bool a0_3, .int .u32 a0_4, .bool a0_5, .int .i64 a0_6, .slice A0_7 l0_7.length c0_7] 87 (0,0)) (by (with_reducible repeat (first | refine blk_drewN ?_ _ | refine blk_drew ?_ | refine blk_alloc ?_ _));exact BK642.out) hb);have n1_:=Aside0.mk (below_step (by repeat (first | (with_reducible first | exact HB.out | apply below_alloc | apply pw_below_drewN | apply below_drew1 | refine below_set ?_ GE642.out) | exact HB.out)) hb);have n2_:=Aside0.mk (hbox);have n3_:=Aside0.mk ((by rw [hg];exact (below_size (by repeat (first | (with_reducible first | exact HB.out | apply below_alloc | apply pw_below_drewN | apply below_drew1 | refine below_set ?_ GE642.out) | exact HB.out))) : w.heap.size ≤ gb643));have n4_:=Aside0.mk ((by rw [hg];exact (below_size (by repeat (first | (with_reducible first | exact HB.out | apply below_alloc | apply pw_below_drewN | apply below_drew1 | refine below_set ?_ GE642.out) | exact HB.out))) : w.heap.size ≤ gb643));have n5_:=Aside0.mk ((by rw [hg];exact Nat.ne_of_lt (blk_lt (g:=gb642) (o := .cells #[.int .i64 a0_0, .int .i64 a0_1, .int .i64 a0_2, .bool a0_3, .int .u32 a0_4, .bool a0_5, .int .i64 a0_6, .slice A0_7 l0_7.length c0_7] 87 (0,0)) (by (with_reducible repeat (first | refine blk_drewN ?_ _ | refine blk_drew ?_ | refine blk_alloc ?_ _));exact BK642.out)) : gb642 ≠ gb643));have n6_:=Aside0.mk ((by rw [hg];exact Nat.ne_of_gt (blk_lt (g:=gb642) (o := .cells #[.int .i64 a0_0, .int .i64 a0_1, .int .i64 a0_2, .bool a0_3, .int .u32 a0_4, .bool a0_5, .int .i64 a0_6, .slice A0_7 l0_7.length c0_7] 87 (0,0)) (by (with_reducible repeat (first | refine blk_drewN ?_ _ | refine blk_drew ?_ | refine blk_alloc ?_ _));exact BK642.out)) : gb643 ≠ gb642));clear BK642;clear HB;have BK642:=n0_;have HB:=n1_;have BK643:=n2_;have GW643:=n3_;have GE643:=n4_;have NB642_643:=n5_;have NB643_642:=n6_;clear n0_ n1_ n2_ n3_ n4_ n5_ n6_;clear hb hbox hg;have hnb16:=NB642_643.out;have hnc16:=NB643_642.out;have hcz17_0 : w15.cell? ⟨gb642,0,none⟩ = some (.int .i64 a0_0):=(blk_cell BK642.out 0).trans rfl;have hcz17_1 : w15.cell? ⟨gb642,1,none⟩ = some (.int .i64 a0_1):=(blk_cell BK642.out 1).trans rfl;have hcz17_2 : w15.cell? ⟨gb642,2,none⟩ = some (.int .i64 a0_2):=(blk_cell BK642.out 2).trans rfl;have hcz17_3 : w15.cell? ⟨gb642,3,none⟩ = some (.bool a0_3):=(blk_cell BK642.out 3).trans rfl;have hcz17_4 : w15.cell? ⟨gb642,4,none⟩ = some (.int .u32 a0_4):=(blk_cell BK642.out 4).trans rfl;have hcz17_5 : w15.cell? ⟨gb642,5,none⟩ = some (.bool a0_5):=(blk_cell BK642.out 5).trans rfl;have hcz17_6 : w15.cell? ⟨gb642,6,none⟩ = some (.int .i64 a0_6):=(blk_cell BK642.out 6).trans rfl;have hcz17_7 : w15.cell? ⟨gb642,7,none⟩ = some (.slice A0_7 l0_7.length c0_7):=(blk_cell BK642.out 7).trans rfl;have hfz17_0:=blk_frozen BK642.out 0;have hfz17_1:=blk_frozen BK642.out 1;have hfz17_2:=blk_frozen BK642.out 2;have hfz17_3:=blk_frozen BK642.out 3;have hfz17_4:=blk_frozen BK642.out 4;have hfz17_5:=blk_frozen BK642.out 5;have hfz17_6:=blk_frozen BK642.out 6;have hfz17_7:=blk_frozen BK642.out 7;have hcz18_0 : w15.cell? ⟨gb643,0,none⟩ = some (.int .i64 a1_0):=(blk_cell BK643.out 0).trans rfl;have hcz18_1 : w15.cell? ⟨gb643,1,none⟩ = some (.int .i64 a1_1):=(blk_cell BK643.out 1).trans rfl;have hcz18_2 : w15.cell? ⟨gb643,2,none⟩ = some (.int .i64 a1_2):=(blk_cell BK643.out 2).trans rfl;have hcz18_3 : w15.cell? ⟨gb643,3,none⟩ = some (.bool a1_3):=(blk_cell BK643.out 3).trans rfl;have hcz18_4 : w15.cell? ⟨gb643,4,none⟩ = some (.int .u32 a1_4):=(blk_cell BK643.out 4).trans rfl;have hcz18_5 : w15.cell? ⟨gb643,5,none⟩ = some (.bool a1_5):=(blk_cell BK643.out 5).trans rfl;have hcz18_6 : w15.cell? ⟨gb643,6,none⟩ = some (.int .i64 a1_6):=(blk_cell BK643.out 6).trans rfl;have hcz18_7 : w15.cell? ⟨gb643,7,none⟩ = some (.slice A1_7 l1_7.length c1_7):=(blk_cell BK643.out 7).trans rfl;have hfz18_0:=blk_frozen BK643.out 0;have hfz18_1:=blk_frozen BK643.out 1;have hfz18_2:=blk_frozen BK643.out 2;have hfz18_3:=blk_frozen BK643.out 3;have hfz18_4:=blk_frozen BK643.out 4;have hfz18_5:=blk_frozen BK643.out 5;have hfz18_6:=blk_frozen BK643.out 6;have hfz18_7:=blk_frozen BK643.out 7) | ((with_reducible refine gate_callee (f:=55) rfl ?_);refine goesL_ (some 24) rfl rfl Try.func55 (by kernel_rfl) rfl #[.agg #[.bool a0_3, .int .u32 a0_4, .bool a0_5, .int .i64 a0_6, .slice A0_7 l0_7.length c0_7], .agg #[.bool a1_3, .int .u32 a1_4, .bool a1_5, .int .i64 a1_6, .slice A1_7 l1_7.length c1_7]] rfl (by (try simp only [List.map_toArray,List.map_cons,List.map_nil]);first | done | rfl | (simp only [List.length_drop,List.length_take];rfl)) ?_;(with_reducible refine (laws_eqFrame.calls k a0_3 a0_4 a0_5 a0_6 _ _ l0_7 a1_3 a1_4 a1_5 a1_6 _ _ l1_7 false _ ?side1 ?side2 ?side3 ?side4 A6.out).mono ?_);(case side1 => repeat (first | exact (Kd.C_below HR0_7.out HB.out) | (with_reducible refine Kd.C_alloc ?_ _) | (with_reducible refine Kd.C_drewN ?_ _) | (with_reducible refine Kd.C_drew ?_)));(case side2 => exact HC0_7.out);(case side3 => repeat (first | exact (Kd.C_below HR1_7.out HB.out) | (with_reducible refine Kd.C_alloc ?_ _) | (with_reducible refine Kd.C_drewN ?_ _) | (with_reducible refine Kd.C_drew ?_)));(case side4 => exact HC1_7.out);rintro e w19 ⟨rfl,hb⟩;refine ⟨_,rfl, ?_⟩;have n0_:=Aside0.mk (blk_below (g:=gb642) (o := .cells #[.int .i64 a0_0, .int .i64 a0_1, .int .i64 a0_2, .bool a0_3, .int .u32 a0_4, .bool a0_5, .int .i64 a0_6, .slice A0_7 l0_7.length c0_7] 87 (0,0)) (by (with_reducible repeat (first | refine blk_drewN ?_ _ | refine blk_drew ?_ | refine blk_alloc ?_ _));exact BK642.out) hb);have n1_:=Aside0.mk (blk_below (g:=gb643) (o := .cells #[.int .i64 a1_0, .int .i64 a1_1, .int .i64 a1_2, .bool a1_3, .int .u32 a1_4, .bool a1_5, .int .i64 a1_6, .slice A1_7 l1_7.length c1_7] 87 (0,0)) (by (with_reducible repeat (first | refine blk_drewN ?_ _ | refine blk_drew ?_ | refine blk_alloc ?_ _));exact BK643.out) hb);have n2_:=Aside0.mk (below_step (by repeat (first | (with_reducible first | exact HB.out | apply below_alloc | apply pw_below_drewN | apply below_drew1 | refine below_set ?_ GE642.out | refine below_set ?_ GE643.out) | exact HB.out)) hb);clear BK642;clear BK643;clear HB;have BK642:=n0_;have BK643:=n1_;have HB:=n2_;clear n0_ n1_ n2_;(try clear hb);(try clear hb2);(try clear hk);(try clear hi)))
     go_ret
     exact ⟨by first | rfl | (simp [errW_none,errW_some] <;> rfl) | (simp [*,errW_none,errW_some] <;> rfl),by repeat (first | (with_reducible first | exact HB.out | apply below_alloc | apply pw_below_drewN | apply below_drew1 | refine below_set ?_ GE642.out | refine below_set ?_ GE643.out) | exact HB.out)⟩
   ·rw [if_neg c5] at H
    have c5b0 : (a0_2 == a1_2) = false:=beq_eq_false_iff_ne.mpr c5
    have c5b1 : (a0_2 != a1_2) = true:=bne_iff_ne.mpr c5
    obtain rfl:=Option.some.inj H
    go_enter Try.func112,Try.ntmps112
    go_wp2_with (first | ((with_reducible refine gate_dst (N:=2) rfl ?_);refine box_event ?hg (N:=2) ?hd (cs := #[.int .i64 a0_0, .int .i64 a0_1, .int .i64 a0_2, .bool a0_3, .int .u32 a0_4, .bool a0_5, .int .i64 a0_6, .slice A0_7 l0_7.length c0_7]) (t:=87) ?hr ?_;(case hd => rfl);(case hg => rfl);(case hr => first | (go_simp;done) | (go_simp;rfl));intro gb642 hg w20 hbox hb;have n0_:=Aside0.mk (below_step (by repeat (first | (with_reducible first | exact HB.out | apply below_alloc | apply pw_below_drewN | apply below_drew1) | exact HB.out)) hb);have n1_:=Aside0.mk (hbox);have n2_:=Aside0.mk ((by rw [hg];exact (below_size (by repeat (first | (with_reducible first | exact HB.out | apply below_alloc | apply pw_below_drewN | apply below_drew1) | exact HB.out))) : w.heap.size ≤ gb642));have n3_:=Aside0.mk ((by rw [hg];exact (below_size (by repeat (first | (with_reducible first | exact HB.out | apply below_alloc | apply pw_below_drewN | apply below_drew1) | exact HB.out))) : w.heap.size ≤ gb642));clear HB;have HB:=n0_;have BK642:=n1_;have GW642:=n2_;have GE642:=n3_;clear n0_ n1_ n2_ n3_;clear hb hbox hg) | ((with_reducible refine gate_dst (N:=3) rfl ?_);refine box_event ?hg (N:=3) ?hd (cs := #[.int .i64 a1_0, .int .i64 a1_1, .int .i64 a1_2, .bool a1_3, .int .u32 a1_4, .bool a1_5, .int .i64 a1_6, .slice A1_7 l1_7.length c1_7]) (t:=87) ?hr ?_;(case hd => rfl);(case hg => rfl);(case hr => first | (go_simp;done) | (go_simp;rfl));intro gb643 hg w21 hbox hb;have n0_:=Aside0.mk (blk_below (g:=gb642) (o := .cells #[.int .i64 a0_0, .int .i64 a0_1, .int .i64 a0_2, .bool a0_3, .int .u32 a0_4, .bool a0_5, .int .i64 a0_6, .slice A0_7 l0_7.length c0_7] 87 (0,0)) (by (with_reducible repeat (first | refine blk_drewN ?_ _ | refine blk_drew ?_ | refine blk_alloc ?_ _));exact BK642.out) hb);have n1_:=Aside0.mk (below_step (by repeat (first | (with_reducible first | exact HB.out | apply below_alloc | apply pw_below_drewN | apply below_drew1 | refine below_set ?_ GE642.out) | exact HB.out)) hb);have n2_:=Aside0.mk (hbox);have n3_:=Aside0.mk ((by rw [hg];exact (below_size (by repeat (first | (with_reducible first | exact HB.out | apply below_alloc | apply pw_below_drewN | apply below_drew1 | refine below_set ?_ GE642.out) | exact HB.out))) : w.heap.size ≤ gb643));have n4_:=Aside0.mk ((by rw [hg];exact (below_size (by repeat (first | (with_reducible first | exact HB.out | apply below_alloc | apply pw_below_drewN | apply below_drew1 | refine below_set ?_ GE642.out) | exact HB.out))) : w.heap.size ≤ gb643));have n5_:=Aside0.mk ((by rw [hg];exact Nat.ne_of_lt (blk_lt (g:=gb642) (o := .cells #[.int .i64 a0_0, .int .i64 a0_1, .int .i64 a0_2, .bool a0_3, .int .u32 a0_4, .bool a0_5, .int .i64 a0_6, .slice A0_7 l0_7.length c0_7] 87 (0,0)) (by (with_reducible repeat (first | refine blk_drewN ?_ _ | refine blk_drew ?_ | refine blk_alloc ?_ _));exact BK642.out)) : gb642 ≠ gb643));have n6_:=Aside0.mk ((by rw [hg];exact Nat.ne_of_gt (blk_lt (g:=gb642) (o := .cells #[.int .i64 a0_0, .int .i64 a0_1, .int .i64 a0_2, .bool a0_3, .int .u32 a0_4, .bool a0_5, .int .i64 a0_6, .slice A0_7 l0_7.length c0_7] 87 (0,0)) (by (with_reducible repeat (first | refine blk_drewN ?_ _ | refine blk_drew ?_ | refine blk_alloc ?_ _));exact BK642.out)) : gb643 ≠ gb642));clear BK642;clear HB;have BK642:=n0_;have HB:=n1_;have BK643:=n2_;have GW643:=n3_;have GE643:=n4_;have NB642_643:=n5_;have NB643_642:=n6_;clear n0_ n1_ n2_ n3_ n4_ n5_ n6_;clear hb hbox hg;have hnb22:=NB642_643.out;have hnc22:=NB643_642.out;have hcz23_0 : w21.cell? ⟨gb642,0,none⟩ = some (.int .i64 a0_0):=(blk_cell BK642.out 0).trans rfl;have hcz23_1 : w21.cell? ⟨gb642,1,none⟩ = some (.int .i64 a0_1):=(blk_cell BK642.out 1).trans rfl;have hcz23_2 : w21.cell? ⟨gb642,2,none⟩ = some (.int .i64 a0_2):=(blk_cell BK642.out 2).trans rfl;have hcz23_3 : w21.cell? ⟨gb642,3,none⟩ = some (.bool a0_3):=(blk_cell BK642.out 3).trans rfl;have hcz23_4 : w21.cell? ⟨gb642,4,none⟩ = some (.int .u32 a0_4):=(blk_cell BK642.out 4).trans rfl;have hcz23_5 : w21.cell? ⟨gb642,5,none⟩ = some (.bool a0_5):=(blk_cell BK642.out 5).trans rfl;have hcz23_6 : w21.cell? ⟨gb642,6,none⟩ = some (.int .i64 a0_6):=(blk_cell BK642.out 6).trans rfl;have hcz23_7 : w21.cell? ⟨gb642,7,none⟩ = some (.slice A0_7 l0_7.length c0_7):=(blk_cell BK642.out 7).trans rfl;have hfz23_0:=blk_frozen BK642.out 0;have hfz23_1:=blk_frozen BK642.out 1;have hfz23_2:=blk_frozen BK642.out 2;have hfz23_3:=blk_frozen BK642.out 3;have hfz23_4:=blk_frozen BK642.out 4;have hfz23_5:=blk_frozen BK642.out 5;have hfz23_6:=blk_frozen BK642.out 6;have hfz23_7:=blk_frozen BK642.out 7;have hcz24_0 : w21.cell? ⟨gb643,0,none⟩ = some (.int .i64 a1_0):=(blk_cell BK643.out 0).trans rfl;have hcz24_1 : w21.cell? ⟨gb643,1,none⟩ = some (.int .i64 a1_1):=(blk_cell BK643.out 1).trans rfl;have hcz24_2 : w21.cell? ⟨gb643,2,none⟩ = some (.int .i64 a1_2):=(blk_cell BK643.out 2).trans rfl;have hcz24_3 : w21.cell? ⟨gb643,3,none⟩ = some (.bool a1_3):=(blk_cell BK643.out 3).trans rfl;have hcz24_4 : w21.cell? ⟨gb643,4,none⟩ = some (.int .u32 a1_4):=(blk_cell BK643.out 4).trans rfl;have hcz24_5 : w21.cell? ⟨gb643,5,none⟩ = some (.bool a1_5):=(blk_cell BK643.out 5).trans rfl;have hcz24_6 : w21.cell? ⟨gb643,6,none⟩ = some (.int .i64 a1_6):=(blk_cell BK643.out 6).trans rfl;have hcz24_7 : w21.cell? ⟨gb643,7,none⟩ = some (.slice A1_7 l1_7.length c1_7):=(blk_cell BK643.out 7).trans rfl;have hfz24_0:=blk_frozen BK643.out 0;have hfz24_1:=blk_frozen BK643.out 1;have hfz24_2:=blk_frozen BK643.out 2;have hfz24_3:=blk_frozen BK643.out 3;have hfz24_4:=blk_frozen BK643.out 4;have hfz24_5:=blk_frozen BK643.out 5;have hfz24_6:=blk_frozen BK643.out 6;have hfz24_7:=blk_frozen BK643.out 7))
    go_ret
    exact ⟨by first | rfl | (simp [errW_none,errW_some] <;> rfl) | (simp [*,errW_none,errW_some] <;> rfl),by repeat (first | (with_reducible first | exact HB.out | apply below_alloc | apply pw_below_drewN | apply below_drew1 | refine below_set ?_ GE642.out | refine below_set ?_ GE643.out) | exact HB.out)⟩
  ·rw [if_neg c4] at H
   have c4b0 : (a0_1 == a1_1) = false:=beq_eq_false_iff_ne.mpr c4
   have c4b1 : (a0_1 != a1_1) = true:=bne_iff_ne.mpr c4
   obtain rfl:=Option.some.inj H
   go_enter Try.func112,Try.ntmps112
   go_wp2_with (first | ((with_reducible refine gate_dst (N:=2) rfl ?_);refine box_event ?hg (N:=2) ?hd (cs := #[.int .i64 a0_0, .int .i64 a0_1, .int .i64 a0_2, .bool a0_3, .int .u32 a0_4, .bool a0_5, .int .i64 a0_6, .slice A0_7 l0_7.length c0_7]) (t:=87) ?hr ?_;(case hd => rfl);(case hg => rfl);(case hr => first | (go_simp;done) | (go_simp;rfl));intro gb642 hg w25 hbox hb;have n0_:=Aside0.mk (below_step (by repeat (first | (with_reducible first | exact HB.out | apply below_alloc | apply pw_below_drewN | apply below_drew1) | exact HB.out)) hb);have n1_:=Aside0.mk (hbox);have n2_:=Aside0.mk ((by rw [hg];exact (below_size (by repeat (first | (with_reducible first | exact HB.out | apply below_alloc | apply pw_below_drewN | apply below_drew1) | exact HB.out))) : w.heap.size ≤ gb642));have n3_:=Aside0.mk ((by rw [hg];exact (below_size (by repeat (first | (with_reducible first | exact HB.out | apply below_alloc | apply pw_below_drewN | apply below_drew1) | exact HB.out))) : w.heap.size ≤ gb642));clear HB;have HB:=n0_;have BK642:=n1_;have GW642:=n2_;have GE642:=n3_;clear n0_ n1_ n2_ n3_;clear hb hbox hg) | ((with_reducible refine gate_dst (N:=3) rfl ?_);refine box_event ?hg (N:=3) ?hd (cs := #[.int .i64 a1_0, .int .i64 a1_1, .int .i64 a1_2, .bool a1_3, .int .u32 a1_4, .bool a1_5, .int .i64 a1_6, .slice A1_7 l1_7.length c1_7]) (t:=87) ?hr ?_;(case hd => rfl);(case hg => rfl);(case hr => first | (go_simp;done) | (go_simp;rfl));intro gb643 hg w26 hbox hb;have n0_:=Aside0.mk (blk_below (g:=gb642) (o := .cells #[.int .i64 a0_0, .int .i64 a0_1, .int .i64 a0_2, .bool a0_3, .int .u32 a0_4, .bool a0_5, .int .i64 a0_6, .slice A0_7 l0_7.length c0_7] 87 (0,0)) (by (with_reducible repeat (first | refine blk_drewN ?_ _ | refine blk_drew ?_ | refine blk_alloc ?_ _));exact BK642.out) hb);have n1_:=Aside0.mk (below_step (by repeat (first | (with_reducible first | exact HB.out | apply below_alloc | apply pw_below_drewN | apply below_drew1 | refine below_set ?_ GE642.out) | exact HB.out)) hb);have n2_:=Aside0.mk (hbox);have n3_:=Aside0.mk ((by rw [hg];exact (below_size (by repeat (first | (with_reducible first | exact HB.out | apply below_alloc | apply pw_below_drewN | apply below_drew1 | refine below_set ?_ GE642.out) | exact HB.out))) : w.heap.size ≤ gb643));have n4_:=Aside0.mk ((by rw [hg];exact (below_size (by repeat (first | (with_reducible first | exact HB.out | apply below_alloc | apply pw_below_drewN | apply below_drew1 | refine below_set ?_ GE642.out) | exact HB.out))) : w.heap.size ≤ gb643));have n5_:=Aside0.mk ((by rw [hg];exact Nat.ne_of_lt (blk_lt (g:=gb642) (o := .cells #[.int .i64 a0_0, .int .i64 a0_1, .int .i64 a0_2, .bool a0_3, .int .u32 a0_4, .bool a0_5, .int .i64 a0_6, .slice A0_7 l0_7.length c0_7] 87 (0,0)) (by (with_reducible repeat (first | refine blk_drewN ?_ _ | refine blk_drew ?_ | refine blk_alloc ?_ _));exact BK642.out)) : gb642 ≠ gb643));have n6_:=Aside0.mk ((by rw [hg];exact Nat.ne_of_gt (blk_lt (g:=gb642) (o := .cells #[.int .i64 a0_0, .int .i64 a0_1, .int .i64 a0_2, .bool a0_3, .int .u32 a0_4, .bool a0_5, .int .i64 a0_6, .slice A0_7 l0_7.length c0_7] 87 (0,0)) (by (with_reducible repeat (first | refine blk_drewN ?_ _ | refine blk_drew ?_ | refine blk_alloc ?_ _));exact BK642.out)) : gb643 ≠ gb642));clear BK642;clear HB;have BK642:=n0_;have HB:=n1_;have BK643:=n2_;have GW643:=n3_;have GE643:=n4_;have NB642_643:=n5_;have NB643_642:=n6_;clear n0_ n1_ n2_ n3_ n4_ n5_ n6_;clear hb hbox hg;have hnb27:=NB642_643.out;have hnc27:=NB643_642.out;have hcz28_0 : w26.cell? ⟨gb642,0,none⟩ = some (.int .i64 a0_0):=(blk_cell BK642.out 0).trans rfl;have hcz28_1 : w26.cell? ⟨gb642,1,none⟩ = some (.int .i64 a0_1):=(blk_cell BK642.out 1).trans rfl;have hcz28_2 : w26.cell? ⟨gb642,2,none⟩ = some (.int .i64 a0_2):=(blk_cell BK642.out 2).trans rfl;have hcz28_3 : w26.cell? ⟨gb642,3,none⟩ = some (.bool a0_3):=(blk_cell BK642.out 3).trans rfl;have hcz28_4 : w26.cell? ⟨gb642,4,none⟩ = some (.int .u32 a0_4):=(blk_cell BK642.out 4).trans rfl;have hcz28_5 : w26.cell? ⟨gb642,5,none⟩ = some (.bool a0_5):=(blk_cell BK642.out 5).trans rfl;have hcz28_6 : w26.cell? ⟨gb642,6,none⟩ = some (.int .i64 a0_6):=(blk_cell BK642.out 6).trans rfl;have hcz28_7 : w26.cell? ⟨gb642,7,none⟩ = some (.slice A0_7 l0_7.length c0_7):=(blk_cell BK642.out 7).trans rfl;have hfz28_0:=blk_frozen BK642.out 0;have hfz28_1:=blk_frozen BK642.out 1;have hfz28_2:=blk_frozen BK642.out 2;have hfz28_3:=blk_frozen BK642.out 3;have hfz28_4:=blk_frozen BK642.out 4;have hfz28_5:=blk_frozen BK642.out 5;have hfz28_6:=blk_frozen BK642.out 6;have hfz28_7:=blk_frozen BK642.out 7;have hcz29_0 : w26.cell? ⟨gb643,0,none⟩ = some (.int .i64 a1_0):=(blk_cell BK643.out 0).trans rfl;have hcz29_1 : w26.cell? ⟨gb643,1,none⟩ = some (.int .i64 a1_1):=(blk_cell BK643.out 1).trans rfl;have hcz29_2 : w26.cell? ⟨gb643,2,none⟩ = some (.int .i64 a1_2):=(blk_cell BK643.out 2).trans rfl;have hcz29_3 : w26.cell? ⟨gb643,3,none⟩ = some (.bool a1_3):=(blk_cell BK643.out 3).trans rfl;have hcz29_4 : w26.cell? ⟨gb643,4,none⟩ = some (.int .u32 a1_4):=(blk_cell BK643.out 4).trans rfl;have hcz29_5 : w26.cell? ⟨gb643,5,none⟩ = some (.bool a1_5):=(blk_cell BK643.out 5).trans rfl;have hcz29_6 : w26.cell? ⟨gb643,6,none⟩ = some (.int .i64 a1_6):=(blk_cell BK643.out 6).trans rfl;have hcz29_7 : w26.cell? ⟨gb643,7,none⟩ = some (.slice A1_7 l1_7.length c1_7):=(blk_cell BK643.out 7).trans rfl;have hfz29_0:=blk_frozen BK643.out 0;have hfz29_1:=blk_frozen BK643.out 1;have hfz29_2:=blk_frozen BK643.out 2;have hfz29_3:=blk_frozen BK643.out 3;have hfz29_4:=blk_frozen BK643.out 4;have hfz29_5:=blk_frozen BK643.out 5;have hfz29_6:=blk_frozen BK643.out 6;have hfz29_7:=blk_frozen BK643.out 7))
   go_ret
   exact ⟨by first | rfl | (simp [errW_none,errW_some] <;> rfl) | (simp [*,errW_none,errW_some] <;> rfl),by repeat (first | (with_reducible first | exact HB.out | apply below_alloc | apply pw_below_drewN | apply below_drew1 | refine below_set ?_ GE642.out | refine below_set ?_ GE643.out) | exact HB.out)⟩
 ·rw [if_neg c3] at H
  have c3b0 : (a0_0 == a1_0) = false:=beq_eq_false_iff_ne.mpr c3
  have c3b1 : (a0_0 != a1_0) = true:=bne_iff_ne.mpr c3
  obtain rfl:=Option.some.inj H
  go_enter Try.func112,Try.ntmps112
  go_wp2_with (first | ((with_reducible refine gate_dst (N:=2) rfl ?_);refine box_event ?hg (N:=2) ?hd (cs := #[.int .i64 a0_0, .int .i64 a0_1, .int .i64 a0_2, .bool a0_3, .int .u32 a0_4, .bool a0_5, .int .i64 a0_6, .slice A0_7 l0_7.length c0_7]) (t:=87) ?hr ?_;(case hd => rfl);(case hg => rfl);(case hr => first | (go_simp;done) | (go_simp;rfl));intro gb642 hg w30 hbox hb;have n0_:=Aside0.mk (below_step (by repeat (first | (with_reducible first | exact HB.out | apply below_alloc | apply pw_below_drewN | apply below_drew1) | exact HB.out)) hb);have n1_:=Aside0.mk (hbox);have n2_:=Aside0.mk ((by rw [hg];exact (below_size (by repeat (first | (with_reducible first | exact HB.out | apply below_alloc | apply pw_below_drewN | apply below_drew1) | exact HB.out))) : w.heap.size ≤ gb642));have n3_:=Aside0.mk ((by rw [hg];exact (below_size (by repeat (first | (with_reducible first | exact HB.out | apply below_alloc | apply pw_below_drewN | apply below_drew1) | exact HB.out))) : w.heap.size ≤ gb642));clear HB;have HB:=n0_;have BK642:=n1_;have GW642:=n2_;have GE642:=n3_;clear n0_ n1_ n2_ n3_;clear hb hbox hg) | ((with_reducible refine gate_dst (N:=3) rfl ?_);refine box_event ?hg (N:=3) ?hd (cs := #[.int .i64 a1_0, .int .i64 a1_1, .int .i64 a1_2, .bool a1_3, .int .u32 a1_4, .bool a1_5, .int .i64 a1_6, .slice A1_7 l1_7.length c1_7]) (t:=87) ?hr ?_;(case hd => rfl);(case hg => rfl);(case hr => first | (go_simp;done) | (go_simp;rfl));intro gb643 hg w31 hbox hb;have n0_:=Aside0.mk (blk_below (g:=gb642) (o := .cells #[.int .i64 a0_0, .int .i64 a0_1, .int .i64 a0_2, .bool a0_3, .int .u32 a0_4, .bool a0_5, .int .i64 a0_6, .slice A0_7 l0_7.length c0_7] 87 (0,0)) (by (with_reducible repeat (first | refine blk_drewN ?_ _ | refine blk_drew ?_ | refine blk_alloc ?_ _));exact BK642.out) hb);have n1_:=Aside0.mk (below_step (by repeat (first | (with_reducible first | exact HB.out | apply below_alloc | apply pw_below_drewN | apply below_drew1 | refine below_set ?_ GE642.out) | exact HB.out)) hb);have n2_:=Aside0.mk (hbox);have n3_:=Aside0.mk ((by rw [hg];exact (below_size (by repeat (first | (with_reducible first | exact HB.out | apply below_alloc | apply pw_below_drewN | apply below_drew1 | refine below_set ?_ GE642.out) | exact HB.out))) : w.heap.size ≤ gb643));have n4_:=Aside0.mk ((by rw [hg];exact (below_size (by repeat (first | (with_reducible first | exact HB.out | apply below_alloc | apply pw_below_drewN | apply below_drew1 | refine below_set ?_ GE642.out) | exact HB.out))) : w.heap.size ≤ gb643));have n5_:=Aside0.mk ((by rw [hg];exact Nat.ne_of_lt (blk_lt (g:=gb642) (o := .cells #[.int .i64 a0_0, .int .i64 a0_1, .int .i64 a0_2, .bool a0_3, .int .u32 a0_4, .bool a0_5, .int .i64 a0_6, .slice A0_7 l0_7.length c0_7] 87 (0,0)) (by (with_reducible repeat (first | refine blk_drewN ?_ _ | refine blk_drew ?_ | refine blk_alloc ?_ _));exact BK642.out)) : gb642 ≠ gb643));have n6_:=Aside0.mk ((by rw [hg];exact Nat.ne_of_gt (blk_lt (g:=gb642) (o := .cells #[.int .i64 a0_0, .int .i64 a0_1, .int .i64 a0_2, .bool a0_3, .int .u32 a0_4, .bool a0_5, .int .i64 a0_6, .slice A0_7 l0_7.length c0_7] 87 (0,0)) (by (with_reducible repeat (first | refine blk_drewN ?_ _ | refine blk_drew ?_ | refine blk_alloc ?_ _));exact BK642.out)) : gb643 ≠ gb642));clear BK642;clear HB;have BK642:=n0_;have HB:=n1_;have BK643:=n2_;have GW643:=n3_;have GE643:=n4_;have NB642_643:=n5_;have NB643_642:=n6_;clear n0_ n1_ n2_ n3_ n4_ n5_ n6_;clear hb hbox hg;have hnb32:=NB642_643.out;have hnc32:=NB643_642.out;have hcz33_0 : w31.cell? ⟨gb642,0,none⟩ = some (.int .i64 a0_0):=(blk_cell BK642.out 0).trans rfl;have hcz33_1 : w31.cell? ⟨gb642,1,none⟩ = some (.int .i64 a0_1):=(blk_cell BK642.out 1).trans rfl;have hcz33_2 : w31.cell? ⟨gb642,2,none⟩ = some (.int .i64 a0_2):=(blk_cell BK642.out 2).trans rfl;have hcz33_3 : w31.cell? ⟨gb642,3,none⟩ = some (.bool a0_3):=(blk_cell BK642.out 3).trans rfl;have hcz33_4 : w31.cell? ⟨gb642,4,none⟩ = some (.int .u32 a0_4):=(blk_cell BK642.out 4).trans rfl;have hcz33_5 : w31.cell? ⟨gb642,5,none⟩ = some (.bool a0_5):=(blk_cell BK642.out 5).trans rfl;have hcz33_6 : w31.cell? ⟨gb642,6,none⟩ = some (.int .i64 a0_6):=(blk_cell BK642.out 6).trans rfl;have hcz33_7 : w31.cell? ⟨gb642,7,none⟩ = some (.slice A0_7 l0_7.length c0_7):=(blk_cell BK642.out 7).trans rfl;have hfz33_0:=blk_frozen BK642.out 0;have hfz33_1:=blk_frozen BK642.out 1;have hfz33_2:=blk_frozen BK642.out 2;have hfz33_3:=blk_frozen BK642.out 3;have hfz33_4:=blk_frozen BK642.out 4;have hfz33_5:=blk_frozen BK642.out 5;have hfz33_6:=blk_frozen BK642.out 6;have hfz33_7:=blk_frozen BK642.out 7;have hcz34_0 : w31.cell? ⟨gb643,0,none⟩ = some (.int .i64 a1_0):=(blk_cell BK643.out 0).trans rfl;have hcz34_1 : w31.cell? ⟨gb643,1,none⟩ = some (.int .i64 a1_1):=(blk_cell BK643.out 1).trans rfl;have hcz34_2 : w31.cell? ⟨gb643,2,none⟩ = some (.int .i64 a1_2):=(blk_cell BK643.out 2).trans rfl;have hcz34_3 : w31.cell? ⟨gb643,3,none⟩ = some (.bool a1_3):=(blk_cell BK643.out 3).trans rfl;have hcz34_4 : w31.cell? ⟨gb643,4,none⟩ = some (.int .u32 a1_4):=(blk_cell BK643.out 4).trans rfl;have hcz34_5 : w31.cell? ⟨gb643,5,none⟩ = some (.bool a1_5):=(blk_cell BK643.out 5).trans rfl;have hcz34_6 : w31.cell? ⟨gb643,6,none⟩ = some (.int .i64 a1_6):=(blk_cell BK643.out 6).trans rfl;have hcz34_7 : w31.cell? ⟨gb643,7,none⟩ = some (.slice A1_7 l1_7.length c1_7):=(blk_cell BK643.out 7).trans rfl;have hfz34_0:=blk_frozen BK643.out 0;have hfz34_1:=blk_frozen BK643.out 1;have hfz34_2:=blk_frozen BK643.out 2;have hfz34_3:=blk_frozen BK643.out 3;have hfz34_4:=blk_frozen BK643.out 4;have hfz34_5:=blk_frozen BK643.out 5;have hfz34_6:=blk_frozen BK643.out 6;have hfz34_7:=blk_frozen BK643.out 7))
  go_ret
  exact ⟨by first | rfl | (simp [errW_none,errW_some] <;> rfl) | (simp [*,errW_none,errW_some] <;> rfl),by repeat (first | (with_reducible first | exact HB.out | apply below_alloc | apply pw_below_drewN | apply below_drew1 | refine below_set ?_ GE642.out | refine below_set ?_ GE643.out) | exact HB.out)⟩
end Go.Proofs.Ytcaefabbcjlkdaa.P
