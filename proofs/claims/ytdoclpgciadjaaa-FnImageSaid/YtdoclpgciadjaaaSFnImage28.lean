/- Texts of the proof of FnImage, joined. -/
import Derived.Test.YtdoclpgciadjaaaSFnImage21
import Derived.Test.YtdoclpgciadjaaaSFnImage25
import Derived.Test.YtdoclpgciadjaaaSFnImage27
import Derived.Test.YtdoclpgciadjaaaSFnImage23
import Derived.Test.YtdoclpgciadjaaaSFnImage24
namespace Go.Proofs.Ytdoclpgciadjaaa.P
open Go.RowKit Go.Proofs.YtdoclpgciadjaaaW.PrintWords Go.Proofs.YtdoclpgciadjaaaW.PrintLast Go.Proofs.YtdoclpgciadjaaaW.PrintMore
set_option linter.unusedVariables false
set_option linter.unusedSimpArgs false
def spec_Stuff.l0 : Nat → ByteArray → List Int → Int → Option (ByteArray)
 | 0,_,_,_ => none
 | k + 1,x0,x3,x4 => if x4 < (x0.size : Int) then (if 0 ≤ x4 then (if x3.length < 140737488355328 then ((some (x3 ++ [bt x0 x4] : List Int)).bind fun y248 => ((spec_l1due.f y248 (y248.length : Int)).bind fun t251 => (if t251 = true then ((spec_l1other.f (bt x0 x4)).bind fun t252 => (if y248.length < 140737488355328 then (spec_Stuff.l0 k x0 (y248 ++ [t252]) (wrap64 (x4 + 1))) else (none))) else (spec_Stuff.l0 k x0 y248 (wrap64 (x4 + 1)))))) else (none)) else (none)) else (some (strOfNums x3))
def spec_Stuff.f (k : Nat) (a0 : ByteArray) : Option (ByteArray):=(spec_l1okBits.f k a0 2000).bind fun t244 => (if t244 = true then (spec_Stuff.l0 k a0 (([] : List Int)) 0) else (some (⟨#[]⟩ : ByteArray)))
set_option maxHeartbeats 8000000 in
set_option maxRecDepth 100000 in
theorem spec_Stuff.calls (k : Nat) (a0 : ByteArray) (r : ByteArray) (w : World) (h : spec_Stuff.f k a0 = some r) :
  Calls Try.prog 106 #[.string a0] w fun e w' => e = .returned (.string r) ∧ Below w.heap.size w w':=by
 have HB:=Aside0.mk (Below.refl w.heap.size w)
 have H : ((spec_l1okBits.f k a0 2000).bind fun t244 => (if t244 = true then (spec_Stuff.l0 k a0 (([] : List Int)) 0) else (some (⟨#[]⟩ : ByteArray)))) = some r:=h
 clear h
 replace H:=Option.bind_eq_some_iff.mp H
 obtain ⟨t244,A20,H⟩:=H
 replace H : (if t244 = true then (spec_Stuff.l0 k a0 (([] : List Int)) 0) else (some (⟨#[]⟩ : ByteArray))) = some r:=H
 have A2:=Aside0.mk A20
 clear A20
 by_cases c3 : t244 = true
 ·subst c3
  have H1 : (spec_Stuff.l0 k a0 (([] : List Int)) 0) = some r:=by rw [if_pos rfl] at H;exact H
  clear H
  have H:=H1
  clear H1
  obtain ⟨y245,hy245⟩ : ∃ y_ : List Int,y_ = (([] : List Int)):=⟨_,rfl⟩
  replace H : (spec_Stuff.l0 k a0 y245 0) = some r:=by first | (rw [hy245];with_reducible exact H) | (have H2_:=(Option.bind_some _ _).symm.trans H;rw [hy245];with_reducible exact H2_) | (have H2_:=(Option.bind_some _ _).symm.trans H;with_reducible exact H2_) | with_reducible exact H | (rw [hy245];exact H) | exact H
  have Ny245:=Aside0.mk hy245
  clear hy245
  have H':=Aside0.mk H
  clear H
  go_enter Try.func106,Try.ntmps106
  go_wp2_with (first | ((with_reducible refine gate_callee (f:=128) rfl ?_);refine goesL_ (some 6) rfl rfl Try.func128 (by kernel_rfl) rfl #[.string a0, .int .i64 2000] rfl (by (try simp only [List.map_toArray,List.map_cons,List.map_nil]);first | done | rfl | (simp only [List.length_drop,List.length_take];rfl)) ?_;(with_reducible refine (spec_l1okBits.calls k a0 2000 true _ A2.out).mono ?_);rintro e w' ⟨rfl,⟨nd,rfl⟩⟩;refine ⟨_,rfl, ?_⟩) | ((with_reducible refine gate_dst (N:=8) rfl ?_);refine Kd.R_lit (Kd.int .u8) _ 5 ?hg (N:=8) ?hd (xs:=([] : List Int)) (inner := []) (ok:=fun _ => True) (okp:=fun _ => True) ?hr ?hp (fun _ hk => hk) trivial (Below.refl _ _) (Nat.le_refl _) (by simp) ?_;(case hd => rfl);(case hg => rfl);(case hr => first | (go_simp;done) | (go_simp;rfl));(case hp => exact (Reps.none _ _));intro v246 w4 ho5 hb hg_ hnew_;clear hg_ hnew_;(first | rw [← Ny245.out] at ho5 | (simp only [Int.reduceToNat] at ho5;rw [← Ny245.out] at ho5));have n0_:=Aside0.mk (Kd.R_lower ho5 (below_size (by repeat (first | (with_reducible first | exact HB.out | apply below_alloc | apply pw_below_drewN | apply below_drew1) | exact HB.out))));have n1_:=Aside0.mk (below_step (by repeat (first | (with_reducible first | exact HB.out | apply below_alloc | apply pw_below_drewN | apply below_drew1) | exact HB.out)) hb);clear HB;have HO247:=n0_;have HB:=n1_;clear n0_ n1_;clear hb ho5))
  go_loopg [3,4] k (fun kq v3 v4 w' => ∃ (x3_1 : List Int) (x4_1 : Int),v4 = .int .i64 x4_1 ∧ Aside0 (spec_Stuff.l0 kq a0 x3_1 x4_1 = some r) ∧ Aside0 (kq ≤ k) ∧ Aside0 (Kd.R (Kd.int .u8) 5 w' w.heap.size (fun _ => True) v3 x3_1) ∧ Aside0 (Below w.heap.size w w'))
  case atStart => exact ⟨(y245),(0),(by first | rfl | (simp;done) | (simp [*];done)),H',⟨Nat.le_refl _⟩,⟨by (with_reducible repeat (first | apply Kd.R_alloc | apply Kd.R_drewN | apply Kd.R_drew));exact HO247.out⟩,⟨by repeat (first | (with_reducible first | exact HB.out | apply below_alloc | apply pw_below_drewN | apply below_drew1) | exact HB.out)⟩⟩
  case round =>
   clear H'
   try clear c1
   try clear p2
   try clear c3
   obtain ⟨x3_1,x4_1,rfl,HA,HK1,HO_3,HB⟩:=hrel
   cases gk with
   | zero => exact absurd HA.out (by simp [spec_Stuff.l0])
   | succ k1 =>
    have H:=HA.out
    clear HA
    simp only [spec_Stuff.l0] at H
    by_cases c6 : x4_1 < (a0.size : Int)
    ·rw [if_pos c6] at H
     have c6b0 : decide (x4_1 < (a0.size : Int)) = true:=decide_eq_true c6
     clear c6
     by_cases c7 : 0 ≤ x4_1
     ·rw [if_pos c7] at H
      have c7b0 : decide (0 ≤ x4_1) = true:=decide_eq_true c7
      clear c7
      by_cases c9 : x3_1.length < 140737488355328
      ·rw [if_pos c9] at H
       have LMc9:=Aside0.mk c9
       clear c9
       obtain ⟨y248,hy248⟩ : ∃ y_ : List Int,y_ = (x3_1 ++ [bt a0 x4_1]):=⟨_,rfl⟩
       replace H : ((spec_l1due.f y248 (y248.length : Int)).bind fun t251 => (if t251 = true then ((spec_l1other.f (bt a0 x4_1)).bind fun t252 => (if y248.length < 140737488355328 then (spec_Stuff.l0 k1 a0 (y248 ++ [t252]) (wrap64 (x4_1 + 1))) else (none))) else (spec_Stuff.l0 k1 a0 y248 (wrap64 (x4_1 + 1))))) = some r:=by first | (rw [hy248];with_reducible exact H) | (have H2_:=(Option.bind_some _ _).symm.trans H;rw [hy248];with_reducible exact H2_) | (have H2_:=(Option.bind_some _ _).symm.trans H;with_reducible exact H2_) | with_reducible exact H | (rw [hy248];exact H) | exact H
       have Ny248:=Aside0.mk hy248
       clear hy248
       replace H:=Option.bind_eq_some_iff.mp H
       obtain ⟨t251,A100,H⟩:=H
       replace H : (if t251 = true then ((spec_l1other.f (bt a0 x4_1)).bind fun t252 => (if y248.length < 140737488355328 then (spec_Stuff.l0 k1 a0 (y248 ++ [t252]) (wrap64 (x4_1 + 1))) else (none))) else (spec_Stuff.l0 k1 a0 y248 (wrap64 (x4_1 + 1)))) = some r:=H
       have A10:=Aside0.mk A100
       clear A100
       by_cases c11 : t251 = true
       ·subst c11
        have H1 : ((spec_l1other.f (bt a0 x4_1)).bind fun t252 => (if y248.length < 140737488355328 then (spec_Stuff.l0 k1 a0 (y248 ++ [t252]) (wrap64 (x4_1 + 1))) else (none))) = some r:=by rw [if_pos rfl] at H;exact H
        clear H
        have H:=H1
        clear H1
        replace H:=Option.bind_eq_some_iff.mp H
        obtain ⟨t252,A130,H⟩:=H
        replace H : (if y248.length < 140737488355328 then (spec_Stuff.l0 k1 a0 (y248 ++ [t252]) (wrap64 (x4_1 + 1))) else (none)) = some r:=H
        have A13:=Aside0.mk A130
        clear A130
        by_cases c14 : y248.length < 140737488355328
        ·rw [if_pos c14] at H
         have LMc14:=Aside0.mk c14
         clear c14
         obtain ⟨y253,hy253⟩ : ∃ y_ : List Int,y_ = (y248 ++ [t252]):=⟨_,rfl⟩
         replace H : (spec_Stuff.l0 k1 a0 y253 (wrap64 (x4_1 + 1))) = some r:=by first | (rw [hy253];with_reducible exact H) | (have H2_:=(Option.bind_some _ _).symm.trans H;rw [hy253];with_reducible exact H2_) | (have H2_:=(Option.bind_some _ _).symm.trans H;with_reducible exact H2_) | with_reducible exact H | (rw [hy253];exact H) | exact H
         have Ny253:=Aside0.mk hy253
         clear hy253
         have H':=Aside0.mk H
         clear H
         have p8 : 0 ≤ (x4_1 : Int):=of_decide_eq_true (by first | (with_reducible assumption) | assumption)
         have q8 : x4_1 < (a0.size : Int):=of_decide_eq_true (by first | (with_reducible assumption) | assumption)
         have hx8:=bt_at a0 x4_1
         replace p8:=eq_true p8
         replace q8:=eq_true q8
         go_wp2_with (first | ((with_reducible refine gate_builtin (b := .append) (xs := #[.tmp 15, .tmp 19]) rfl ?_);at_builtin;refine Kd.R_append (Kd.int .u8) (w0:=w) w.heap.size rfl (.tmp 15) (.tmp 19) 22 5 (.int .u8 0) 1 rfl Try.underlying22 info5 rfl (by decide) (by omega) u3 x3_1 (bt a0 x4_1) [.int .u8 (bt a0 x4_1)] (fun _ => True) (fun _ => False) rfl rfl ?aP (fun _ hk => hk.elim) ?aF ?aO ?aB ?aS ?aL ?_;(case aP => exact rfl);(case aB => exact (by repeat (first | (with_reducible first | exact HB.out | apply below_alloc | apply pw_below_drewN | apply below_drew1) | exact HB.out)));(case aF => exact (fun _ _ => trivial));(case aO => exact (by (with_reducible repeat (first | apply Kd.R_alloc | apply Kd.R_drewN | apply Kd.R_drew));exact HO_3.out));(case aS => exact (below_size (by repeat (first | (with_reducible first | exact HB.out | apply below_alloc | apply pw_below_drewN | apply below_drew1) | exact HB.out))));(case aL => have:=LMc9.out;omega);intro v249 w15 ho hb hg hat;rw [← Ny248.out] at ho;have n0_:=Aside0.mk (hb);have n1_:=Aside0.mk (ho);clear HB;clear HO_3;have HB:=n0_;have HO250:=n1_;clear n0_ n1_;clear ho hb hg hat;obtain ⟨Ao16,co16,eo16⟩:=Kd.R_slice HO250.out;subst eo16) | ((with_reducible refine gate_callee (f:=139) rfl ?_);refine goesL_ (some 24) rfl rfl Try.func139 (by kernel_rfl) rfl #[.slice Ao16 y248.length co16, .int .i64 (y248.length : Int)] rfl (by (try simp only [List.map_toArray,List.map_cons,List.map_nil]);first | done | rfl | (simp only [List.length_drop,List.length_take];rfl)) ?_;(with_reducible refine (spec_l1due.calls _ _ y248 (y248.length : Int) true _ ?side1 ?side2 A10.out).mono ?_);(case side1 => repeat (first | exact (Kd.R_reads' HO250.out).2.2 | (with_reducible refine Kd.C_alloc ?_ _) | (with_reducible refine Kd.C_drewN ?_ _) | (with_reducible refine Kd.C_drew ?_)));(case side2 => exact (Kd.R_reads' HO250.out).2.1);rintro e w' ⟨rfl,⟨nd,rfl⟩⟩;refine ⟨_,rfl, ?_⟩;have p12 : 0 ≤ (x4_1 : Int):=of_decide_eq_true (by first | (with_reducible assumption) | assumption);have q12 : x4_1 < (a0.size : Int):=of_decide_eq_true (by first | (with_reducible assumption) | assumption);have hx12:=bt_at a0 x4_1;replace p12:=eq_true p12;replace q12:=eq_true q12) | ((with_reducible refine gate_callee (f:=148) rfl ?_);refine goesL_ (some 29) rfl rfl Try.func148 (by kernel_rfl) rfl #[.int .u8 (bt a0 x4_1)] rfl (by (try simp only [List.map_toArray,List.map_cons,List.map_nil]);first | done | rfl | (simp only [List.length_drop,List.length_take];rfl)) ?_;(with_reducible refine (spec_l1other.calls (bt a0 x4_1) t252 _ A13.out).mono ?_);rintro e w' ⟨rfl,⟨nd,rfl⟩⟩;refine ⟨_,rfl, ?_⟩) | ((with_reducible refine gate_builtin (b := .append) (xs := #[.tmp 25, .tmp 30]) rfl ?_);at_builtin;refine Kd.R_append (Kd.int .u8) (w0:=w) w.heap.size rfl (.tmp 25) (.tmp 30) 22 5 (.int .u8 0) 1 rfl Try.underlying22 info5 rfl (by decide) (by omega) (.slice Ao16 y248.length co16) y248 t252 [.int .u8 t252] (fun _ => True) (fun _ => False) rfl rfl ?aP (fun _ hk => hk.elim) ?aF ?aO ?aB ?aS ?aL ?_;(case aP => exact rfl);(case aB => exact (by repeat (first | (with_reducible first | exact HB.out | apply below_alloc | apply pw_below_drewN | apply below_drew1) | exact HB.out)));(case aF => exact (fun _ _ => trivial));(case aO => exact (by (with_reducible repeat (first | apply Kd.R_alloc | apply Kd.R_drewN | apply Kd.R_drew));exact HO250.out));(case aS => exact (below_size (by repeat (first | (with_reducible first | exact HB.out | apply below_alloc | apply pw_below_drewN | apply below_drew1) | exact HB.out))));(case aL => have:=LMc14.out;omega);intro v254 w17 ho hb hg hat;rw [← Ny253.out] at ho;have n0_:=Aside0.mk (hb);have n1_:=Aside0.mk (ho);clear HB;clear HO250;have HB:=n0_;have HO255:=n1_;clear n0_ n1_;clear ho hb hg hat))
         go_roundg k1
         case measure => have:=HK1.out;omega
         case rel => exact ⟨(y253),(wrap64 (x4_1 + 1)),(by first | rfl | (simp;done) | (simp [*];done)),H',⟨by have:=HK1.out;omega⟩,⟨by (with_reducible repeat (first | apply Kd.R_alloc | apply Kd.R_drewN | apply Kd.R_drew));exact HO255.out⟩,⟨by repeat (first | (with_reducible first | exact HB.out | apply below_alloc | apply pw_below_drewN | apply below_drew1) | exact HB.out)⟩⟩
        ·rw [if_neg c14] at H
         exact absurd H (by simp)
       ·replace c11:=Bool.eq_false_iff.mpr c11
        subst c11
        have H1 : (spec_Stuff.l0 k1 a0 y248 (wrap64 (x4_1 + 1))) = some r:=by rw [if_neg (show ¬ (false = true) by decide)] at H;exact H
        clear H
        have H:=H1
        clear H1
        have H':=Aside0.mk H
        clear H
        have p8 : 0 ≤ (x4_1 : Int):=of_decide_eq_true (by first | (with_reducible assumption) | assumption)
        have q8 : x4_1 < (a0.size : Int):=of_decide_eq_true (by first | (with_reducible assumption) | assumption)
        have hx8:=bt_at a0 x4_1
        replace p8:=eq_true p8
        replace q8:=eq_true q8
        go_wp2_with (first | ((with_reducible refine gate_builtin (b := .append) (xs := #[.tmp 15, .tmp 19]) rfl ?_);at_builtin;refine Kd.R_append (Kd.int .u8) (w0:=w) w.heap.size rfl (.tmp 15) (.tmp 19) 22 5 (.int .u8 0) 1 rfl Try.underlying22 info5 rfl (by decide) (by omega) u3 x3_1 (bt a0 x4_1) [.int .u8 (bt a0 x4_1)] (fun _ => True) (fun _ => False) rfl rfl ?aP (fun _ hk => hk.elim) ?aF ?aO ?aB ?aS ?aL ?_;(case aP => exact rfl);(case aB => exact (by repeat (first | (with_reducible first | exact HB.out | apply below_alloc | apply pw_below_drewN | apply below_drew1) | exact HB.out)));(case aF => exact (fun _ _ => trivial));(case aO => exact (by (with_reducible repeat (first | apply Kd.R_alloc | apply Kd.R_drewN | apply Kd.R_drew));exact HO_3.out));(case aS => exact (below_size (by repeat (first | (with_reducible first | exact HB.out | apply below_alloc | apply pw_below_drewN | apply below_drew1) | exact HB.out))));(case aL => have:=LMc9.out;omega);intro v249 w18 ho hb hg hat;rw [← Ny248.out] at ho;have n0_:=Aside0.mk (hb);have n1_:=Aside0.mk (ho);clear HB;clear HO_3;have HB:=n0_;have HO250:=n1_;clear n0_ n1_;clear ho hb hg hat;obtain ⟨Ao19,co19,eo19⟩:=Kd.R_slice HO250.out;subst eo19) | ((with_reducible refine gate_callee (f:=139) rfl ?_);refine goesL_ (some 24) rfl rfl Try.func139 (by kernel_rfl) rfl #[.slice Ao19 y248.length co19, .int .i64 (y248.length : Int)] rfl (by (try simp only [List.map_toArray,List.map_cons,List.map_nil]);first | done | rfl | (simp only [List.length_drop,List.length_take];rfl)) ?_;(with_reducible refine (spec_l1due.calls _ _ y248 (y248.length : Int) false _ ?side1 ?side2 A10.out).mono ?_);(case side1 => repeat (first | exact (Kd.R_reads' HO250.out).2.2 | (with_reducible refine Kd.C_alloc ?_ _) | (with_reducible refine Kd.C_drewN ?_ _) | (with_reducible refine Kd.C_drew ?_)));(case side2 => exact (Kd.R_reads' HO250.out).2.1);rintro e w' ⟨rfl,⟨nd,rfl⟩⟩;refine ⟨_,rfl, ?_⟩))
        go_roundg k1
        case measure => have:=HK1.out;omega
        case rel => exact ⟨(y248),(wrap64 (x4_1 + 1)),(by first | rfl | (simp;done) | (simp [*];done)),H',⟨by have:=HK1.out;omega⟩,⟨by (with_reducible repeat (first | apply Kd.R_alloc | apply Kd.R_drewN | apply Kd.R_drew));exact HO250.out⟩,⟨by repeat (first | (with_reducible first | exact HB.out | apply below_alloc | apply pw_below_drewN | apply below_drew1) | exact HB.out)⟩⟩
      ·rw [if_neg c9] at H
       exact absurd H (by simp)
     ·rw [if_neg c7] at H
      exact absurd H (by simp)
    ·rw [if_neg c6] at H
     have c6b0 : decide (x4_1 < (a0.size : Int)) = false:=decide_eq_false c6
     clear c6
     obtain rfl:=Option.some.inj H
     have hcv20:=own_string (P:=Try.prog) Try.underlying22 Try.underlying5 Try.underlying9 (Kd.own_of_R HO_3.out)
     go_wp2
     go_ret
     exact ⟨by first | rfl | (simp [errW_none,errW_some] <;> rfl) | (simp [*,errW_none,errW_some] <;> rfl),by repeat (first | (with_reducible first | exact HB.out | apply below_alloc | apply pw_below_drewN | apply below_drew1) | exact HB.out)⟩
 ·replace c3:=Bool.eq_false_iff.mpr c3
  subst c3
  have H1 : (some (⟨#[]⟩ : ByteArray)) = some r:=by rw [if_neg (show ¬ (false = true) by decide)] at H;exact H
  clear H
  have H:=H1
  clear H1
  obtain rfl:=Option.some.inj H
  go_enter Try.func106,Try.ntmps106
  go_wp2_with (first | ((with_reducible refine gate_callee (f:=128) rfl ?_);refine goesL_ (some 6) rfl rfl Try.func128 (by kernel_rfl) rfl #[.string a0, .int .i64 2000] rfl (by (try simp only [List.map_toArray,List.map_cons,List.map_nil]);first | done | rfl | (simp only [List.length_drop,List.length_take];rfl)) ?_;(with_reducible refine (spec_l1okBits.calls k a0 2000 false _ A2.out).mono ?_);rintro e w' ⟨rfl,⟨nd,rfl⟩⟩;refine ⟨_,rfl, ?_⟩))
  go_ret
  exact ⟨by first | rfl | (simp [errW_none,errW_some] <;> rfl) | (simp [*,errW_none,errW_some] <;> rfl),by repeat (first | (with_reducible first | exact HB.out | apply below_alloc | apply pw_below_drewN | apply below_drew1) | exact HB.out)⟩
end Go.Proofs.Ytdoclpgciadjaaa.P

namespace Go.Proofs.Ytdoclpgciadjaaa.P
open Go.RowKit Go.Proofs.YtdoclpgciadjaaaW.PrintWords Go.Proofs.YtdoclpgciadjaaaW.PrintLast Go.Proofs.YtdoclpgciadjaaaW.PrintMore
set_option linter.unusedVariables false
set_option linter.unusedSimpArgs false
def spec_Encode.f (k : Nat) (a0_0 : Bool) (a0_1 : Int) (a0_2 : Bool) (a0_3 : Int) (l0_4 : List Int) : Option (ByteArray):=(spec_ValidFrame.f k a0_0 a0_1 a0_2 a0_3 l0_4).bind fun t271 => (if t271 = true then ((spec_Body.f a0_0 a0_1 a0_2 a0_3 l0_4).bind fun t272 => ((spec_Crc15.f k t272).bind fun t273 => ((spec_l1num.f k t273 15).bind fun t274 => (if t272.size + t274.size ≤ 9223372036854775807 then ((spec_Stuff.f k (t272 ++ t274)).bind fun t275 => (if t275.size + 1 ≤ 9223372036854775807 then (if (t275 ++ (⟨#[49]⟩ : ByteArray)).size + 1 ≤ 9223372036854775807 then (if ((t275 ++ (⟨#[49]⟩ : ByteArray)) ++ (⟨#[49]⟩ : ByteArray)).size + 1 ≤ 9223372036854775807 then (if (((t275 ++ (⟨#[49]⟩ : ByteArray)) ++ (⟨#[49]⟩ : ByteArray)) ++ (⟨#[49]⟩ : ByteArray)).size + 7 ≤ 9223372036854775807 then (some ((((t275 ++ (⟨#[49]⟩ : ByteArray)) ++ (⟨#[49]⟩ : ByteArray)) ++ (⟨#[49]⟩ : ByteArray)) ++ (⟨#[49,49,49,49,49,49,49]⟩ : ByteArray))) else (none)) else (none)) else (none)) else (none))) else (none))))) else (some (⟨#[]⟩ : ByteArray)))
set_option maxHeartbeats 8000000 in
set_option maxRecDepth 100000 in
theorem spec_Encode.calls (k : Nat) (a0_0 : Bool) (a0_1 : Int) (a0_2 : Bool) (a0_3 : Int) (A0_4 : Option Addr) (c0_4 : Nat) (l0_4 : List Int) (r : ByteArray) (w : World) (hr0_4 : Kd.C (Kd.int .u8) w A0_4 l0_4.length l0_4) (hc0_4 : l0_4.length ≤ c0_4) (h : spec_Encode.f k a0_0 a0_1 a0_2 a0_3 l0_4 = some r) :
  Calls Try.prog 48 #[.agg #[.bool a0_0, .int .u32 a0_1, .bool a0_2, .int .i64 a0_3, .slice A0_4 l0_4.length c0_4]] w fun e w' => e = .returned (.string r) ∧ Below w.heap.size w w':=by
 have hu25:=Try.underlying25
 have HR0_4:=Aside0.mk hr0_4
 have HC0_4:=Aside0.mk hc0_4
 clear hr0_4 hc0_4
 have HB:=Aside0.mk (Below.refl w.heap.size w)
 have H : ((spec_ValidFrame.f k a0_0 a0_1 a0_2 a0_3 l0_4).bind fun t271 => (if t271 = true then ((spec_Body.f a0_0 a0_1 a0_2 a0_3 l0_4).bind fun t272 => ((spec_Crc15.f k t272).bind fun t273 => ((spec_l1num.f k t273 15).bind fun t274 => (if t272.size + t274.size ≤ 9223372036854775807 then ((spec_Stuff.f k (t272 ++ t274)).bind fun t275 => (if t275.size + 1 ≤ 9223372036854775807 then (if (t275 ++ (⟨#[49]⟩ : ByteArray)).size + 1 ≤ 9223372036854775807 then (if ((t275 ++ (⟨#[49]⟩ : ByteArray)) ++ (⟨#[49]⟩ : ByteArray)).size + 1 ≤ 9223372036854775807 then (if (((t275 ++ (⟨#[49]⟩ : ByteArray)) ++ (⟨#[49]⟩ : ByteArray)) ++ (⟨#[49]⟩ : ByteArray)).size + 7 ≤ 9223372036854775807 then (some ((((t275 ++ (⟨#[49]⟩ : ByteArray)) ++ (⟨#[49]⟩ : ByteArray)) ++ (⟨#[49]⟩ : ByteArray)) ++ (⟨#[49,49,49,49,49,49,49]⟩ : ByteArray))) else (none)) else (none)) else (none)) else (none))) else (none))))) else (some (⟨#[]⟩ : ByteArray)))) = some r:=h
 clear h
 replace H:=Option.bind_eq_some_iff.mp H
 obtain ⟨t271,A20,H⟩:=H
 replace H : (if t271 = true then ((spec_Body.f a0_0 a0_1 a0_2 a0_3 l0_4).bind fun t272 => ((spec_Crc15.f k t272).bind fun t273 => ((spec_l1num.f k t273 15).bind fun t274 => (if t272.size + t274.size ≤ 9223372036854775807 then ((spec_Stuff.f k (t272 ++ t274)).bind fun t275 => (if t275.size + 1 ≤ 9223372036854775807 then (if (t275 ++ (⟨#[49]⟩ : ByteArray)).size + 1 ≤ 9223372036854775807 then (if ((t275 ++ (⟨#[49]⟩ : ByteArray)) ++ (⟨#[49]⟩ : ByteArray)).size + 1 ≤ 9223372036854775807 then (if (((t275 ++ (⟨#[49]⟩ : ByteArray)) ++ (⟨#[49]⟩ : ByteArray)) ++ (⟨#[49]⟩ : ByteArray)).size + 7 ≤ 9223372036854775807 then (some ((((t275 ++ (⟨#[49]⟩ : ByteArray)) ++ (⟨#[49]⟩ : ByteArray)) ++ (⟨#[49]⟩ : ByteArray)) ++ (⟨#[49,49,49,49,49,49,49]⟩ : ByteArray))) else (none)) else (none)) else (none)) else (none))) else (none))))) else (some (⟨#[]⟩ : ByteArray))) = some r:=H
 have A2:=Aside0.mk A20
 clear A20
 by_cases c3 : t271 = true
 ·subst c3
  have H1 : ((spec_Body.f a0_0 a0_1 a0_2 a0_3 l0_4).bind fun t272 => ((spec_Crc15.f k t272).bind fun t273 => ((spec_l1num.f k t273 15).bind fun t274 => (if t272.size + t274.size ≤ 9223372036854775807 then ((spec_Stuff.f k (t272 ++ t274)).bind fun t275 => (if t275.size + 1 ≤ 9223372036854775807 then (if (t275 ++ (⟨#[49]⟩ : ByteArray)).size + 1 ≤ 9223372036854775807 then (if ((t275 ++ (⟨#[49]⟩ : ByteArray)) ++ (⟨#[49]⟩ : ByteArray)).size + 1 ≤ 9223372036854775807 then (if (((t275 ++ (⟨#[49]⟩ : ByteArray)) ++ (⟨#[49]⟩ : ByteArray)) ++ (⟨#[49]⟩ : ByteArray)).size + 7 ≤ 9223372036854775807 then (some ((((t275 ++ (⟨#[49]⟩ : ByteArray)) ++ (⟨#[49]⟩ : ByteArray)) ++ (⟨#[49]⟩ : ByteArray)) ++ (⟨#[49,49,49,49,49,49,49]⟩ : ByteArray))) else (none)) else (none)) else (none)) else (none))) else (none))))) = some r:=by rw [if_pos rfl] at H;exact H
  clear H
  have H:=H1
  clear H1
  replace H:=Option.bind_eq_some_iff.mp H
  obtain ⟨t272,A40,H⟩:=H
  replace H : ((spec_Crc15.f k t272).bind fun t273 => ((spec_l1num.f k t273 15).bind fun t274 => (if t272.size + t274.size ≤ 9223372036854775807 then ((spec_Stuff.f k (t272 ++ t274)).bind fun t275 => (if t275.size + 1 ≤ 9223372036854775807 then (if (t275 ++ (⟨#[49]⟩ : ByteArray)).size + 1 ≤ 9223372036854775807 then (if ((t275 ++ (⟨#[49]⟩ : ByteArray)) ++ (⟨#[49]⟩ : ByteArray)).size + 1 ≤ 9223372036854775807 then (if (((t275 ++ (⟨#[49]⟩ : ByteArray)) ++ (⟨#[49]⟩ : ByteArray)) ++ (⟨#[49]⟩ : ByteArray)).size + 7 ≤ 9223372036854775807 then (some ((((t275 ++ (⟨#[49]⟩ : ByteArray)) ++ (⟨#[49]⟩ : ByteArray)) ++ (⟨#[49]⟩ : ByteArray)) ++ (⟨#[49,49,49,49,49,49,49]⟩ : ByteArray))) else (none)) else (none)) else (none)) else (none))) else (none)))) = some r:=H
  have A4:=Aside0.mk A40
  clear A40
  replace H:=Option.bind_eq_some_iff.mp H
  obtain ⟨t273,A50,H⟩:=H
  replace H : ((spec_l1num.f k t273 15).bind fun t274 => (if t272.size + t274.size ≤ 9223372036854775807 then ((spec_Stuff.f k (t272 ++ t274)).bind fun t275 => (if t275.size + 1 ≤ 9223372036854775807 then (if (t275 ++ (⟨#[49]⟩ : ByteArray)).size + 1 ≤ 9223372036854775807 then (if ((t275 ++ (⟨#[49]⟩ : ByteArray)) ++ (⟨#[49]⟩ : ByteArray)).size + 1 ≤ 9223372036854775807 then (if (((t275 ++ (⟨#[49]⟩ : ByteArray)) ++ (⟨#[49]⟩ : ByteArray)) ++ (⟨#[49]⟩ : ByteArray)).size + 7 ≤ 9223372036854775807 then (some ((((t275 ++ (⟨#[49]⟩ : ByteArray)) ++ (⟨#[49]⟩ : ByteArray)) ++ (⟨#[49]⟩ : ByteArray)) ++ (⟨#[49,49,49,49,49,49,49]⟩ : ByteArray))) else (none)) else (none)) else (none)) else (none))) else (none))) = some r:=H
  have A5:=Aside0.mk A50
  clear A50
  replace H:=Option.bind_eq_some_iff.mp H
  obtain ⟨t274,A60,H⟩:=H
  replace H : (if t272.size + t274.size ≤ 9223372036854775807 then ((spec_Stuff.f k (t272 ++ t274)).bind fun t275 => (if t275.size + 1 ≤ 9223372036854775807 then (if (t275 ++ (⟨#[49]⟩ : ByteArray)).size + 1 ≤ 9223372036854775807 then (if ((t275 ++ (⟨#[49]⟩ : ByteArray)) ++ (⟨#[49]⟩ : ByteArray)).size + 1 ≤ 9223372036854775807 then (if (((t275 ++ (⟨#[49]⟩ : ByteArray)) ++ (⟨#[49]⟩ : ByteArray)) ++ (⟨#[49]⟩ : ByteArray)).size + 7 ≤ 9223372036854775807 then (some ((((t275 ++ (⟨#[49]⟩ : ByteArray)) ++ (⟨#[49]⟩ : ByteArray)) ++ (⟨#[49]⟩ : ByteArray)) ++ (⟨#[49,49,49,49,49,49,49]⟩ : ByteArray))) else (none)) else (none)) else (none)) else (none))) else (none)) = some r:=H
  have A6:=Aside0.mk A60
  clear A60
  by_cases c7 : t272.size + t274.size ≤ 9223372036854775807
  ·rw [if_pos c7] at H
   have c7b0:=eq_true c7
   have c7b1 : decide (t272.size + t274.size ≤ 9223372036854775807) = true:=decide_eq_true c7
   try have c7b2 : (9223372036854775807 < t272.size + t274.size) = False:=eq_false (Nat.not_lt.2 c7)
   replace H:=Option.bind_eq_some_iff.mp H
   obtain ⟨t275,A80,H⟩:=H
   replace H : (if t275.size + 1 ≤ 9223372036854775807 then (if (t275 ++ (⟨#[49]⟩ : ByteArray)).size + 1 ≤ 9223372036854775807 then (if ((t275 ++ (⟨#[49]⟩ : ByteArray)) ++ (⟨#[49]⟩ : ByteArray)).size + 1 ≤ 9223372036854775807 then (if (((t275 ++ (⟨#[49]⟩ : ByteArray)) ++ (⟨#[49]⟩ : ByteArray)) ++ (⟨#[49]⟩ : ByteArray)).size + 7 ≤ 9223372036854775807 then (some ((((t275 ++ (⟨#[49]⟩ : ByteArray)) ++ (⟨#[49]⟩ : ByteArray)) ++ (⟨#[49]⟩ : ByteArray)) ++ (⟨#[49,49,49,49,49,49,49]⟩ : ByteArray))) else (none)) else (none)) else (none)) else (none)) = some r:=H
   have A8:=Aside0.mk A80
   clear A80
   by_cases c9 : t275.size + 1 ≤ 9223372036854775807
   ·rw [if_pos c9] at H
    have c9b0:=eq_true c9
    have c9b1 : decide (t275.size + 1 ≤ 9223372036854775807) = true:=decide_eq_true c9
    try have c9b2 : (9223372036854775807 < t275.size + 1) = False:=eq_false (Nat.not_lt.2 c9)
    by_cases c10 : (t275 ++ (⟨#[49]⟩ : ByteArray)).size + 1 ≤ 9223372036854775807
    ·rw [if_pos c10] at H
     have c10b0:=eq_true c10
     have c10b1 : decide ((t275 ++ (⟨#[49]⟩ : ByteArray)).size + 1 ≤ 9223372036854775807) = true:=decide_eq_true c10
     try have c10b2 : (9223372036854775807 < (t275 ++ (⟨#[49]⟩ : ByteArray)).size + 1) = False:=eq_false (Nat.not_lt.2 c10)
     by_cases c11 : ((t275 ++ (⟨#[49]⟩ : ByteArray)) ++ (⟨#[49]⟩ : ByteArray)).size + 1 ≤ 9223372036854775807
     ·rw [if_pos c11] at H
      have c11b0:=eq_true c11
      have c11b1 : decide (((t275 ++ (⟨#[49]⟩ : ByteArray)) ++ (⟨#[49]⟩ : ByteArray)).size + 1 ≤ 9223372036854775807) = true:=decide_eq_true c11
      try have c11b2 : (9223372036854775807 < ((t275 ++ (⟨#[49]⟩ : ByteArray)) ++ (⟨#[49]⟩ : ByteArray)).size + 1) = False:=eq_false (Nat.not_lt.2 c11)
      by_cases c12 : (((t275 ++ (⟨#[49]⟩ : ByteArray)) ++ (⟨#[49]⟩ : ByteArray)) ++ (⟨#[49]⟩ : ByteArray)).size + 7 ≤ 9223372036854775807
      ·rw [if_pos c12] at H
       have c12b0:=eq_true c12
       have c12b1 : decide ((((t275 ++ (⟨#[49]⟩ : ByteArray)) ++ (⟨#[49]⟩ : ByteArray)) ++ (⟨#[49]⟩ : ByteArray)).size + 7 ≤ 9223372036854775807) = true:=decide_eq_true c12
       try have c12b2 : (9223372036854775807 < (((t275 ++ (⟨#[49]⟩ : ByteArray)) ++ (⟨#[49]⟩ : ByteArray)) ++ (⟨#[49]⟩ : ByteArray)).size + 7) = False:=eq_false (Nat.not_lt.2 c12)
       have z12 : t275.size + 10 ≤ 9223372036854775807:=by
        have h:=c12
        rw [ByteArray.size_append,ByteArray.size_append,ByteArray.size_append] at h
        change t275.size + 1 + 1 + 1 + 7 ≤ 9223372036854775807 at h
        omega
       obtain rfl:=Option.some.inj H
       go_enter Try.func48,Try.ntmps48
       go_wp2_with (first | ((with_reducible refine gate_dst (N:=1) rfl ?_);refine box_event ?hg (N:=1) ?hd (cs := #[.bool a0_0, .int .u32 a0_1, .bool a0_2, .int .i64 a0_3, .slice A0_4 l0_4.length c0_4]) (t:=25) ?hr ?_;(case hd => rfl);(case hg => rfl);(case hr => first | (go_simp;done) | (go_simp;rfl));intro gb270 hg w13 hbox hb;have n0_:=Aside0.mk (below_step (by repeat (first | (with_reducible first | exact HB.out | apply below_alloc | apply pw_below_drewN | apply below_drew1) | exact HB.out)) hb);have n1_:=Aside0.mk (hbox);have n2_:=Aside0.mk ((by rw [hg];exact (below_size (by repeat (first | (with_reducible first | exact HB.out | apply below_alloc | apply pw_below_drewN | apply below_drew1) | exact HB.out))) : w.heap.size ≤ gb270));have n3_:=Aside0.mk ((by rw [hg];exact (below_size (by repeat (first | (with_reducible first | exact HB.out | apply below_alloc | apply pw_below_drewN | apply below_drew1) | exact HB.out))) : w.heap.size ≤ gb270));clear HB;have HB:=n0_;have BK270:=n1_;have GW270:=n2_;have GE270:=n3_;clear n0_ n1_ n2_ n3_;clear hb hbox hg;have hcz14_0 : w13.cell? ⟨gb270,0,none⟩ = some (.bool a0_0):=(blk_cell BK270.out 0).trans rfl;have hcz14_1 : w13.cell? ⟨gb270,1,none⟩ = some (.int .u32 a0_1):=(blk_cell BK270.out 1).trans rfl;have hcz14_2 : w13.cell? ⟨gb270,2,none⟩ = some (.bool a0_2):=(blk_cell BK270.out 2).trans rfl;have hcz14_3 : w13.cell? ⟨gb270,3,none⟩ = some (.int .i64 a0_3):=(blk_cell BK270.out 3).trans rfl;have hcz14_4 : w13.cell? ⟨gb270,4,none⟩ = some (.slice A0_4 l0_4.length c0_4):=(blk_cell BK270.out 4).trans rfl;have hfz14_0:=blk_frozen BK270.out 0;have hfz14_1:=blk_frozen BK270.out 1;have hfz14_2:=blk_frozen BK270.out 2;have hfz14_3:=blk_frozen BK270.out 3;have hfz14_4:=blk_frozen BK270.out 4) | ((with_reducible refine gate_callee (f:=14) rfl ?_);refine goesL_ (some 5) rfl rfl Try.func14 (by kernel_rfl) rfl #[.agg #[.bool a0_0, .int .u32 a0_1, .bool a0_2, .int .i64 a0_3, .slice A0_4 l0_4.length c0_4]] rfl (by (try simp only [List.map_toArray,List.map_cons,List.map_nil]);first | done | rfl | (simp only [List.length_drop,List.length_take];rfl)) ?_;(with_reducible refine (spec_ValidFrame.calls k a0_0 a0_1 a0_2 a0_3 _ _ l0_4 true _ ?side1 ?side2 A2.out).mono ?_);(case side1 => repeat (first | exact (Kd.C_below HR0_4.out HB.out) | (with_reducible refine Kd.C_alloc ?_ _) | (with_reducible refine Kd.C_drewN ?_ _) | (with_reducible refine Kd.C_drew ?_)));(case side2 => exact HC0_4.out);rintro e w15 ⟨rfl,hb⟩;refine ⟨_,rfl, ?_⟩;have n0_:=Aside0.mk (blk_below (g:=gb270) (o := .cells #[.bool a0_0, .int .u32 a0_1, .bool a0_2, .int .i64 a0_3, .slice A0_4 l0_4.length c0_4] 25 (0,0)) (by (with_reducible repeat (first | refine blk_drewN ?_ _ | refine blk_drew ?_ | refine blk_alloc ?_ _));exact BK270.out) hb);have n1_:=Aside0.mk (below_step (by repeat (first | (with_reducible first | exact HB.out | apply below_alloc | apply pw_below_drewN | apply below_drew1 | refine below_set ?_ GE270.out) | exact HB.out)) hb);clear BK270;clear HB;have BK270:=n0_;have HB:=n1_;clear n0_ n1_;(try clear hb);(try clear hb2);(try clear hk);(try clear hi);have hcz16_0 : w15.cell? ⟨gb270,0,none⟩ = some (.bool a0_0):=(blk_cell BK270.out 0).trans rfl;have hcz16_1 : w15.cell? ⟨gb270,1,none⟩ = some (.int .u32 a0_1):=(blk_cell BK270.out 1).trans rfl;have hcz16_2 : w15.cell? ⟨gb270,2,none⟩ = some (.bool a0_2):=(blk_cell BK270.out 2).trans rfl;have hcz16_3 : w15.cell? ⟨gb270,3,none⟩ = some (.int .i64 a0_3):=(blk_cell BK270.out 3).trans rfl;have hcz16_4 : w15.cell? ⟨gb270,4,none⟩ = some (.slice A0_4 l0_4.length c0_4):=(blk_cell BK270.out 4).trans rfl;have hfz16_0:=blk_frozen BK270.out 0;have hfz16_1:=blk_frozen BK270.out 1;have hfz16_2:=blk_frozen BK270.out 2;have hfz16_3:=blk_frozen BK270.out 3;have hfz16_4:=blk_frozen BK270.out 4) | ((with_reducible refine gate_callee (f:=18) rfl ?_);refine goesL_ (some 8) rfl rfl Try.func18 (by kernel_rfl) rfl #[.agg #[.bool a0_0, .int .u32 a0_1, .bool a0_2, .int .i64 a0_3, .slice A0_4 l0_4.length c0_4]] rfl (by (try simp only [List.map_toArray,List.map_cons,List.map_nil]);first | done | rfl | (simp only [List.length_drop,List.length_take];rfl)) ?_;(with_reducible refine (spec_Body.calls a0_0 a0_1 a0_2 a0_3 _ _ l0_4 t272 _ ?side1 ?side2 A4.out).mono ?_);(case side1 => repeat (first | exact (Kd.C_below HR0_4.out HB.out) | (with_reducible refine Kd.C_alloc ?_ _) | (with_reducible refine Kd.C_drewN ?_ _) | (with_reducible refine Kd.C_drew ?_)));(case side2 => exact HC0_4.out);rintro e w17 ⟨rfl,hb⟩;refine ⟨_,rfl, ?_⟩;have n0_:=Aside0.mk (blk_below (g:=gb270) (o := .cells #[.bool a0_0, .int .u32 a0_1, .bool a0_2, .int .i64 a0_3, .slice A0_4 l0_4.length c0_4] 25 (0,0)) (by (with_reducible repeat (first | refine blk_drewN ?_ _ | refine blk_drew ?_ | refine blk_alloc ?_ _));exact BK270.out) hb);have n1_:=Aside0.mk (below_step (by repeat (first | (with_reducible first | exact HB.out | apply below_alloc | apply pw_below_drewN | apply below_drew1 | refine below_set ?_ GE270.out) | exact HB.out)) hb);clear BK270;clear HB;have BK270:=n0_;have HB:=n1_;clear n0_ n1_;(try clear hb);(try clear hb2);(try clear hk);(try clear hi)) | ((with_reducible refine gate_callee (f:=107) rfl ?_);refine goesL_ (some 11) rfl rfl Try.func107 (by kernel_rfl) rfl #[.string t272] rfl (by (try simp only [List.map_toArray,List.map_cons,List.map_nil]);first | done | rfl | (simp only [List.length_drop,List.length_take];rfl)) ?_;(with_reducible refine (spec_Crc15.calls k t272 t273 _ A5.out).mono ?_);rintro e w18 ⟨rfl,hb⟩;refine ⟨_,rfl, ?_⟩;have n0_:=Aside0.mk (blk_below (g:=gb270) (o := .cells #[.bool a0_0, .int .u32 a0_1, .bool a0_2, .int .i64 a0_3, .slice A0_4 l0_4.length c0_4] 25 (0,0)) (by (with_reducible repeat (first | refine blk_drewN ?_ _ | refine blk_drew ?_ | refine blk_alloc ?_ _));exact BK270.out) hb);have n1_:=Aside0.mk (below_step (by repeat (first | (with_reducible first | exact HB.out | apply below_alloc | apply pw_below_drewN | apply below_drew1 | refine below_set ?_ GE270.out) | exact HB.out)) hb);clear BK270;clear HB;have BK270:=n0_;have HB:=n1_;clear n0_ n1_;(try clear hb);(try clear hb2);(try clear hk);(try clear hi)) | ((with_reducible refine gate_callee (f:=79) rfl ?_);refine goesL_ (some 12) rfl rfl Try.func79 (by kernel_rfl) rfl #[.int .i64 t273, .int .i64 15] rfl (by (try simp only [List.map_toArray,List.map_cons,List.map_nil]);first | done | rfl | (simp only [List.length_drop,List.length_take];rfl)) ?_;(with_reducible refine (spec_l1num.calls k t273 15 t274 _ A6.out).mono ?_);rintro e w' ⟨rfl,⟨nd,rfl⟩⟩;refine ⟨_,rfl, ?_⟩) | ((with_reducible refine gate_callee (f:=106) rfl ?_);refine goesL_ (some 14) rfl rfl Try.func106 (by kernel_rfl) rfl #[.string (t272 ++ t274)] rfl (by (try simp only [List.map_toArray,List.map_cons,List.map_nil]);first | done | rfl | (simp only [List.length_drop,List.length_take];rfl)) ?_;(with_reducible refine (spec_Stuff.calls k (t272 ++ t274) t275 _ A8.out).mono ?_);rintro e w19 ⟨rfl,hb⟩;refine ⟨_,rfl, ?_⟩;have n0_:=Aside0.mk (blk_below (g:=gb270) (o := .cells #[.bool a0_0, .int .u32 a0_1, .bool a0_2, .int .i64 a0_3, .slice A0_4 l0_4.length c0_4] 25 (0,0)) (by (with_reducible repeat (first | refine blk_drewN ?_ _ | refine blk_drew ?_ | refine blk_alloc ?_ _));exact BK270.out) hb);have n1_:=Aside0.mk (below_step (by repeat (first | (with_reducible first | exact HB.out | apply below_alloc | apply pw_below_drewN | apply below_drew1 | refine below_set ?_ GE270.out) | exact HB.out)) hb);clear BK270;clear HB;have BK270:=n0_;have HB:=n1_;clear n0_ n1_;(try clear hb);(try clear hb2);(try clear hk);(try clear hi)))
       go_ret
       exact ⟨by first | rfl | (simp [errW_none,errW_some] <;> rfl) | (simp [*,errW_none,errW_some] <;> rfl),by repeat (first | (with_reducible first | exact HB.out | apply below_alloc | apply pw_below_drewN | apply below_drew1 | refine below_set ?_ GE270.out) | exact HB.out)⟩
      ·rw [if_neg c12] at H
       exact absurd H (by simp)
     ·rw [if_neg c11] at H
      exact absurd H (by simp)
    ·rw [if_neg c10] at H
     exact absurd H (by simp)
   ·rw [if_neg c9] at H
    exact absurd H (by simp)
  ·rw [if_neg c7] at H
   exact absurd H (by simp)
 ·replace c3:=Bool.eq_false_iff.mpr c3
  subst c3
  have H1 : (some (⟨#[]⟩ : ByteArray)) = some r:=by rw [if_neg (show ¬ (false = true) by decide)] at H;exact H
  clear H
  have H:=H1
  clear H1
  obtain rfl:=Option.some.inj H
  go_enter Try.func48,Try.ntmps48
  go_wp2_with (first | ((with_reducible refine gate_dst (N:=1) rfl ?_);refine box_event ?hg (N:=1) ?hd (cs := #[.bool a0_0, .int .u32 a0_1, .bool a0_2, .int .i64 a0_3, .slice A0_4 l0_4.length c0_4]) (t:=25) ?hr ?_;(case hd => rfl);(case hg => rfl);(case hr => first | (go_simp;done) | (go_simp;rfl));intro gb270 hg w20 hbox hb;have n0_:=Aside0.mk (below_step (by repeat (first | (with_reducible first | exact HB.out | apply below_alloc | apply pw_below_drewN | apply below_drew1) | exact HB.out)) hb);have n1_:=Aside0.mk (hbox);have n2_:=Aside0.mk ((by rw [hg];exact (below_size (by repeat (first | (with_reducible first | exact HB.out | apply below_alloc | apply pw_below_drewN | apply below_drew1) | exact HB.out))) : w.heap.size ≤ gb270));have n3_:=Aside0.mk ((by rw [hg];exact (below_size (by repeat (first | (with_reducible first | exact HB.out | apply below_alloc | apply pw_below_drewN | apply below_drew1) | exact HB.out))) : w.heap.size ≤ gb270));clear HB;have HB:=n0_;have BK270:=n1_;have GW270:=n2_;have GE270:=n3_;clear n0_ n1_ n2_ n3_;clear hb hbox hg;have hcz21_0 : w20.cell? ⟨gb270,0,none⟩ = some (.bool a0_0):=(blk_cell BK270.out 0).trans rfl;have hcz21_1 : w20.cell? ⟨gb270,1,none⟩ = some (.int .u32 a0_1):=(blk_cell BK270.out 1).trans rfl;have hcz21_2 : w20.cell? ⟨gb270,2,none⟩ = some (.bool a0_2):=(blk_cell BK270.out 2).trans rfl;have hcz21_3 : w20.cell? ⟨gb270,3,none⟩ = some (.int .i64 a0_3):=(blk_cell BK270.out 3).trans rfl;have hcz21_4 : w20.cell? ⟨gb270,4,none⟩ = some (.slice A0_4 l0_4.length c0_4):=(blk_cell BK270.out 4).trans rfl;have hfz21_0:=blk_frozen BK270.out 0;have hfz21_1:=blk_frozen BK270.out 1;have hfz21_2:=blk_frozen BK270.out 2;have hfz21_3:=blk_frozen BK270.out 3;have hfz21_4:=blk_frozen BK270.out 4) | ((with_reducible refine gate_callee (f:=14) rfl ?_);refine goesL_ (some 5) rfl rfl Try.func14 (by kernel_rfl) rfl #[.agg #[.bool a0_0, .int .u32 a0_1, .bool a0_2, .int .i64 a0_3, .slice A0_4 l0_4.length c0_4]] rfl (by (try simp only [List.map_toArray,List.map_cons,List.map_nil]);first | done | rfl | (simp only [List.length_drop,List.length_take];rfl)) ?_;(with_reducible refine (spec_ValidFrame.calls k a0_0 a0_1 a0_2 a0_3 _ _ l0_4 false _ ?side1 ?side2 A2.out).mono ?_);(case side1 => repeat (first | exact (Kd.C_below HR0_4.out HB.out) | (with_reducible refine Kd.C_alloc ?_ _) | (with_reducible refine Kd.C_drewN ?_ _) | (with_reducible refine Kd.C_drew ?_)));(case side2 => exact HC0_4.out);rintro e w22 ⟨rfl,hb⟩;refine ⟨_,rfl, ?_⟩;have n0_:=Aside0.mk (blk_below (g:=gb270) (o := .cells #[.bool a0_0, .int .u32 a0_1, .bool a0_2, .int .i64 a0_3, .slice A0_4 l0_4.length c0_4] 25 (0,0)) (by (with_reducible repeat (first | refine blk_drewN ?_ _ | refine blk_drew ?_ | refine blk_alloc ?_ _));exact BK270.out) hb);have n1_:=Aside0.mk (below_step (by repeat (first | (with_reducible first | exact HB.out | apply below_alloc | apply pw_below_drewN | apply below_drew1 | refine below_set ?_ GE270.out) | exact HB.out)) hb);clear BK270;clear HB;have BK270:=n0_;have HB:=n1_;clear n0_ n1_;(try clear hb);(try clear hb2);(try clear hk);(try clear hi)))
  go_ret
  exact ⟨by first | rfl | (simp [errW_none,errW_some] <;> rfl) | (simp [*,errW_none,errW_some] <;> rfl),by repeat (first | (with_reducible first | exact HB.out | apply below_alloc | apply pw_below_drewN | apply below_drew1 | refine below_set ?_ GE270.out) | exact HB.out)⟩
end Go.Proofs.Ytdoclpgciadjaaa.P

namespace Go.Proofs.Ytdoclpgciadjaaa.P
open Go.RowKit Go.Proofs.YtdoclpgciadjaaaW.PrintWords Go.Proofs.YtdoclpgciadjaaaW.PrintLast Go.Proofs.YtdoclpgciadjaaaW.PrintMore
set_option linter.unusedVariables false
set_option linter.unusedSimpArgs false
mutual
def laws_wFrame.j0 : Nat → Bool → Bool → Int → Bool → Int → List Int → Bool → Int → Bool → Int → List Int → Option (Bool)
 | 0,_,_,_,_,_,_,_,_,_,_,_ => none
 | k + 1,x40,x277000,x277001,x277002,x277003,x277004,x278000,x278001,x278002,x278003,x278004 => if x40 = true then (some false) else (laws_wFrame.l0 k 0 x277000 x277001 x277002 x277003 x277004 x278000 x278001 x278002 x278003 x278004)
def laws_wFrame.l0 : Nat → Int → Bool → Int → Bool → Int → List Int → Bool → Int → Bool → Int → List Int → Option (Bool)
 | 0,_,_,_,_,_,_,_,_,_,_,_ => none
 | k + 1,x5,x277000,x277001,x277002,x277003,x277004,x278000,x278001,x278002,x278003,x278004 => if x5 < (x277004.length : Int) then (if 0 ≤ x5 then (if x5 < (x278004.length : Int) then (if (rd x277004 x5) = (rd x278004 x5) then (laws_wFrame.l0 k (wrap64 (x5 + 1)) x277000 x277001 x277002 x277003 x277004 x278000 x278001 x278002 x278003 x278004) else (some false)) else (none)) else (none)) else (some true)
end
def laws_wFrame.f (k : Nat) (a0_0 : Bool) (a0_1 : Int) (a0_2 : Bool) (a0_3 : Int) (l0_4 : List Int) (a1_0 : Bool) (a1_1 : Int) (a1_2 : Bool) (a1_3 : Int) (l1_4 : List Int) : Option (Bool):=if (a0_0 != a1_0) = true then (laws_wFrame.j0 k true a0_0 a0_1 a0_2 a0_3 l0_4 a1_0 a1_1 a1_2 a1_3 l1_4) else (if a0_1 = a1_1 then (if (a0_2 != a1_2) = true then (laws_wFrame.j0 k true a0_0 a0_1 a0_2 a0_3 l0_4 a1_0 a1_1 a1_2 a1_3 l1_4) else (if a0_3 = a1_3 then (laws_wFrame.j0 k ((l0_4.length : Int) != (l1_4.length : Int)) a0_0 a0_1 a0_2 a0_3 l0_4 a1_0 a1_1 a1_2 a1_3 l1_4) else (laws_wFrame.j0 k true a0_0 a0_1 a0_2 a0_3 l0_4 a1_0 a1_1 a1_2 a1_3 l1_4))) else (laws_wFrame.j0 k true a0_0 a0_1 a0_2 a0_3 l0_4 a1_0 a1_1 a1_2 a1_3 l1_4))
set_option maxHeartbeats 8000000 in
set_option maxRecDepth 100000 in
theorem laws_wFrame.calls (k : Nat) (a0_0 : Bool) (a0_1 : Int) (a0_2 : Bool) (a0_3 : Int) (A0_4 : Option Addr) (c0_4 : Nat) (l0_4 : List Int) (a1_0 : Bool) (a1_1 : Int) (a1_2 : Bool) (a1_3 : Int) (A1_4 : Option Addr) (c1_4 : Nat) (l1_4 : List Int) (r : Bool) (w : World) (hr0_4 : Kd.C (Kd.int .u8) w A0_4 l0_4.length l0_4) (hc0_4 : l0_4.length ≤ c0_4) (hr1_4 : Kd.C (Kd.int .u8) w A1_4 l1_4.length l1_4) (hc1_4 : l1_4.length ≤ c1_4) (h : laws_wFrame.f k a0_0 a0_1 a0_2 a0_3 l0_4 a1_0 a1_1 a1_2 a1_3 l1_4 = some r) :
  Calls Try.prog 49 #[.agg #[.bool a0_0, .int .u32 a0_1, .bool a0_2, .int .i64 a0_3, .slice A0_4 l0_4.length c0_4], .agg #[.bool a1_0, .int .u32 a1_1, .bool a1_2, .int .i64 a1_3, .slice A1_4 l1_4.length c1_4]] w fun e w' => e = .returned (.bool r) ∧ Below w.heap.size w w':=by
 have hu25:=Try.underlying25
 have HR0_4:=Aside0.mk hr0_4
 have HC0_4:=Aside0.mk hc0_4
 clear hr0_4 hc0_4
 have HR1_4:=Aside0.mk hr1_4
 have HC1_4:=Aside0.mk hc1_4
 clear hr1_4 hc1_4
 have HB:=Aside0.mk (Below.refl w.heap.size w)
 have H : (if (a0_0 != a1_0) = true then (laws_wFrame.j0 k true a0_0 a0_1 a0_2 a0_3 l0_4 a1_0 a1_1 a1_2 a1_3 l1_4) else (if a0_1 = a1_1 then (if (a0_2 != a1_2) = true then (laws_wFrame.j0 k true a0_0 a0_1 a0_2 a0_3 l0_4 a1_0 a1_1 a1_2 a1_3 l1_4) else (if a0_3 = a1_3 then (laws_wFrame.j0 k ((l0_4.length : Int) != (l1_4.length : Int)) a0_0 a0_1 a0_2 a0_3 l0_4 a1_0 a1_1 a1_2 a1_3 l1_4) else (laws_wFrame.j0 k true a0_0 a0_1 a0_2 a0_3 l0_4 a1_0 a1_1 a1_2 a1_3 l1_4))) else (laws_wFrame.j0 k true a0_0 a0_1 a0_2 a0_3 l0_4 a1_0 a1_1 a1_2 a1_3 l1_4))) = some r:=h
 clear h
 have HC3:=Aside0.mk H
 clear H
 go_enter Try.func49,Try.ntmps49
 go_upto_region 1 with (first | ((with_reducible refine gate_dst (N:=2) rfl ?_);(try (refine gate_guard (by rfl) ?_;dsimp only));refine box_event ?hg (N:=2) ?hd (cs := #[.bool a0_0, .int .u32 a0_1, .bool a0_2, .int .i64 a0_3, .slice A0_4 l0_4.length c0_4]) (t:=25) ?hr ?_;(case hd => rfl);(case hg => rfl);(case hr => first | (go_simp;done) | (go_simp;rfl));intro gb276 hg w4 hbox hb;have n0_:=Aside0.mk (below_step (by repeat (first | (with_reducible first | exact HB.out | apply below_alloc | apply pw_below_drewN | apply below_drew1) | exact HB.out)) hb);have n1_:=Aside0.mk (hbox);have n2_:=Aside0.mk ((by rw [hg];exact (below_size (by repeat (first | (with_reducible first | exact HB.out | apply below_alloc | apply pw_below_drewN | apply below_drew1) | exact HB.out))) : w.heap.size ≤ gb276));have n3_:=Aside0.mk ((by rw [hg];exact (below_size (by repeat (first | (with_reducible first | exact HB.out | apply below_alloc | apply pw_below_drewN | apply below_drew1) | exact HB.out))) : w.heap.size ≤ gb276));clear HB;have HB:=n0_;have BK276:=n1_;have GW276:=n2_;have GE276:=n3_;clear n0_ n1_ n2_ n3_;clear hb hbox hg) | ((with_reducible refine gate_dst (N:=3) rfl ?_);(try (refine gate_guard (by rfl) ?_;dsimp only));refine box_event ?hg (N:=3) ?hd (cs := #[.bool a1_0, .int .u32 a1_1, .bool a1_2, .int .i64 a1_3, .slice A1_4 l1_4.length c1_4]) (t:=25) ?hr ?_;(case hd => rfl);(case hg => rfl);(case hr => first | (go_simp;done) | (go_simp;rfl));intro gb277 hg w5 hbox hb;have n0_:=Aside0.mk (blk_below (g:=gb276) (o := .cells #[.bool a0_0, .int .u32 a0_1, .bool a0_2, .int .i64 a0_3, .slice A0_4 l0_4.length c0_4] 25 (0,0)) (by (with_reducible repeat (first | refine blk_drewN ?_ _ | refine blk_drew ?_ | refine blk_alloc ?_ _));exact BK276.out) hb);have n1_:=Aside0.mk (below_step (by repeat (first | (with_reducible first | exact HB.out | apply below_alloc | apply pw_below_drewN | apply below_drew1 | refine below_set ?_ GE276.out) | exact HB.out)) hb);have n2_:=Aside0.mk (hbox);have n3_:=Aside0.mk ((by rw [hg];exact (below_size (by repeat (first | (with_reducible first | exact HB.out | apply below_alloc | apply pw_below_drewN | apply below_drew1 | refine below_set ?_ GE276.out) | exact HB.out))) : w.heap.size ≤ gb277));have n4_:=Aside0.mk ((by rw [hg];exact (below_size (by repeat (first | (with_reducible first | exact HB.out | apply below_alloc | apply pw_below_drewN | apply below_drew1 | refine below_set ?_ GE276.out) | exact HB.out))) : w.heap.size ≤ gb277));have n5_:=Aside0.mk ((by rw [hg];exact Nat.ne_of_lt (blk_lt (g:=gb276) (o := .cells #[.bool a0_0, .int .u32 a0_1, .bool a0_2, .int .i64 a0_3, .slice A0_4 l0_4.length c0_4] 25 (0,0)) (by (with_reducible repeat (first | refine blk_drewN ?_ _ | refine blk_drew ?_ | refine blk_alloc ?_ _));exact BK276.out)) : gb276 ≠ gb277));have n6_:=Aside0.mk ((by rw [hg];exact Nat.ne_of_gt (blk_lt (g:=gb276) (o := .cells #[.bool a0_0, .int .u32 a0_1, .bool a0_2, .int .i64 a0_3, .slice A0_4 l0_4.length c0_4] 25 (0,0)) (by (with_reducible repeat (first | refine blk_drewN ?_ _ | refine blk_drew ?_ | refine blk_alloc ?_ _));exact BK276.out)) : gb277 ≠ gb276));clear BK276;clear HB;have BK276:=n0_;have HB:=n1_;have BK277:=n2_;have GW277:=n3_;have GE277:=n4_;have NB276_277:=n5_;have NB277_276:=n6_;clear n0_ n1_ n2_ n3_ n4_ n5_ n6_;clear hb hbox hg))
 repeat (go_quiet (first | ((with_reducible refine gate_dst (N:=2) rfl ?_);(try (refine gate_guard (by rfl) ?_;dsimp only));refine box_event ?hg (N:=2) ?hd (cs := #[.bool a0_0, .int .u32 a0_1, .bool a0_2, .int .i64 a0_3, .slice A0_4 l0_4.length c0_4]) (t:=25) ?hr ?_;(case hd => rfl);(case hg => rfl);(case hr => first | (go_simp;done) | (go_simp;rfl));intro gb276 hg w4 hbox hb;have n0_:=Aside0.mk (below_step (by repeat (first | (with_reducible first | exact HB.out | apply below_alloc | apply pw_below_drewN | apply below_drew1) | exact HB.out)) hb);have n1_:=Aside0.mk (hbox);have n2_:=Aside0.mk ((by rw [hg];exact (below_size (by repeat (first | (with_reducible first | exact HB.out | apply below_alloc | apply pw_below_drewN | apply below_drew1) | exact HB.out))) : w.heap.size ≤ gb276));have n3_:=Aside0.mk ((by rw [hg];exact (below_size (by repeat (first | (with_reducible first | exact HB.out | apply below_alloc | apply pw_below_drewN | apply below_drew1) | exact HB.out))) : w.heap.size ≤ gb276));clear HB;have HB:=n0_;have BK276:=n1_;have GW276:=n2_;have GE276:=n3_;clear n0_ n1_ n2_ n3_;clear hb hbox hg) | ((with_reducible refine gate_dst (N:=3) rfl ?_);(try (refine gate_guard (by rfl) ?_;dsimp only));refine box_event ?hg (N:=3) ?hd (cs := #[.bool a1_0, .int .u32 a1_1, .bool a1_2, .int .i64 a1_3, .slice A1_4 l1_4.length c1_4]) (t:=25) ?hr ?_;(case hd => rfl);(case hg => rfl);(case hr => first | (go_simp;done) | (go_simp;rfl));intro gb277 hg w5 hbox hb;have n0_:=Aside0.mk (blk_below (g:=gb276) (o := .cells #[.bool a0_0, .int .u32 a0_1, .bool a0_2, .int .i64 a0_3, .slice A0_4 l0_4.length c0_4] 25 (0,0)) (by (with_reducible repeat (first | refine blk_drewN ?_ _ | refine blk_drew ?_ | refine blk_alloc ?_ _));exact BK276.out) hb);have n1_:=Aside0.mk (below_step (by repeat (first | (with_reducible first | exact HB.out | apply below_alloc | apply pw_below_drewN | apply below_drew1 | refine below_set ?_ GE276.out) | exact HB.out)) hb);have n2_:=Aside0.mk (hbox);have n3_:=Aside0.mk ((by rw [hg];exact (below_size (by repeat (first | (with_reducible first | exact HB.out | apply below_alloc | apply pw_below_drewN | apply below_drew1 | refine below_set ?_ GE276.out) | exact HB.out))) : w.heap.size ≤ gb277));have n4_:=Aside0.mk ((by rw [hg];exact (below_size (by repeat (first | (with_reducible first | exact HB.out | apply below_alloc | apply pw_below_drewN | apply below_drew1 | refine below_set ?_ GE276.out) | exact HB.out))) : w.heap.size ≤ gb277));have n5_:=Aside0.mk ((by rw [hg];exact Nat.ne_of_lt (blk_lt (g:=gb276) (o := .cells #[.bool a0_0, .int .u32 a0_1, .bool a0_2, .int .i64 a0_3, .slice A0_4 l0_4.length c0_4] 25 (0,0)) (by (with_reducible repeat (first | refine blk_drewN ?_ _ | refine blk_drew ?_ | refine blk_alloc ?_ _));exact BK276.out)) : gb276 ≠ gb277));have n6_:=Aside0.mk ((by rw [hg];exact Nat.ne_of_gt (blk_lt (g:=gb276) (o := .cells #[.bool a0_0, .int .u32 a0_1, .bool a0_2, .int .i64 a0_3, .slice A0_4 l0_4.length c0_4] 25 (0,0)) (by (with_reducible repeat (first | refine blk_drewN ?_ _ | refine blk_drew ?_ | refine blk_alloc ?_ _));exact BK276.out)) : gb277 ≠ gb276));clear BK276;clear HB;have BK276:=n0_;have HB:=n1_;have BK277:=n2_;have GW277:=n3_;have GE277:=n4_;have NB276_277:=n5_;have NB277_276:=n6_;clear n0_ n1_ n2_ n3_ n4_ n5_ n6_;clear hb hbox hg));go_upto_region 1 with (first | ((with_reducible refine gate_dst (N:=2) rfl ?_);(try (refine gate_guard (by rfl) ?_;dsimp only));refine box_event ?hg (N:=2) ?hd (cs := #[.bool a0_0, .int .u32 a0_1, .bool a0_2, .int .i64 a0_3, .slice A0_4 l0_4.length c0_4]) (t:=25) ?hr ?_;(case hd => rfl);(case hg => rfl);(case hr => first | (go_simp;done) | (go_simp;rfl));intro gb276 hg w4 hbox hb;have n0_:=Aside0.mk (below_step (by repeat (first | (with_reducible first | exact HB.out | apply below_alloc | apply pw_below_drewN | apply below_drew1) | exact HB.out)) hb);have n1_:=Aside0.mk (hbox);have n2_:=Aside0.mk ((by rw [hg];exact (below_size (by repeat (first | (with_reducible first | exact HB.out | apply below_alloc | apply pw_below_drewN | apply below_drew1) | exact HB.out))) : w.heap.size ≤ gb276));have n3_:=Aside0.mk ((by rw [hg];exact (below_size (by repeat (first | (with_reducible first | exact HB.out | apply below_alloc | apply pw_below_drewN | apply below_drew1) | exact HB.out))) : w.heap.size ≤ gb276));clear HB;have HB:=n0_;have BK276:=n1_;have GW276:=n2_;have GE276:=n3_;clear n0_ n1_ n2_ n3_;clear hb hbox hg) | ((with_reducible refine gate_dst (N:=3) rfl ?_);(try (refine gate_guard (by rfl) ?_;dsimp only));refine box_event ?hg (N:=3) ?hd (cs := #[.bool a1_0, .int .u32 a1_1, .bool a1_2, .int .i64 a1_3, .slice A1_4 l1_4.length c1_4]) (t:=25) ?hr ?_;(case hd => rfl);(case hg => rfl);(case hr => first | (go_simp;done) | (go_simp;rfl));intro gb277 hg w5 hbox hb;have n0_:=Aside0.mk (blk_below (g:=gb276) (o := .cells #[.bool a0_0, .int .u32 a0_1, .bool a0_2, .int .i64 a0_3, .slice A0_4 l0_4.length c0_4] 25 (0,0)) (by (with_reducible repeat (first | refine blk_drewN ?_ _ | refine blk_drew ?_ | refine blk_alloc ?_ _));exact BK276.out) hb);have n1_:=Aside0.mk (below_step (by repeat (first | (with_reducible first | exact HB.out | apply below_alloc | apply pw_below_drewN | apply below_drew1 | refine below_set ?_ GE276.out) | exact HB.out)) hb);have n2_:=Aside0.mk (hbox);have n3_:=Aside0.mk ((by rw [hg];exact (below_size (by repeat (first | (with_reducible first | exact HB.out | apply below_alloc | apply pw_below_drewN | apply below_drew1 | refine below_set ?_ GE276.out) | exact HB.out))) : w.heap.size ≤ gb277));have n4_:=Aside0.mk ((by rw [hg];exact (below_size (by repeat (first | (with_reducible first | exact HB.out | apply below_alloc | apply pw_below_drewN | apply below_drew1 | refine below_set ?_ GE276.out) | exact HB.out))) : w.heap.size ≤ gb277));have n5_:=Aside0.mk ((by rw [hg];exact Nat.ne_of_lt (blk_lt (g:=gb276) (o := .cells #[.bool a0_0, .int .u32 a0_1, .bool a0_2, .int .i64 a0_3, .slice A0_4 l0_4.length c0_4] 25 (0,0)) (by (with_reducible repeat (first | refine blk_drewN ?_ _ | refine blk_drew ?_ | refine blk_alloc ?_ _));exact BK276.out)) : gb276 ≠ gb277));have n6_:=Aside0.mk ((by rw [hg];exact Nat.ne_of_gt (blk_lt (g:=gb276) (o := .cells #[.bool a0_0, .int .u32 a0_1, .bool a0_2, .int .i64 a0_3, .slice A0_4 l0_4.length c0_4] 25 (0,0)) (by (with_reducible repeat (first | refine blk_drewN ?_ _ | refine blk_drew ?_ | refine blk_alloc ?_ _));exact BK276.out)) : gb277 ≠ gb276));clear BK276;clear HB;have BK276:=n0_;have HB:=n1_;have BK277:=n2_;have GW277:=n3_;have GE277:=n4_;have NB276_277:=n5_;have NB277_276:=n6_;clear n0_ n1_ n2_ n3_ n4_ n5_ n6_;clear hb hbox hg)))
 (try simp only [Act.put,List.setIfInBounds_toArray,List.set_cons_zero,List.set_cons_succ])
 go_cut [40] (fun v40 wc => ∃ (kq : Nat) (x40_2 : Bool),v40 = .bool x40_2 ∧ Aside0 (laws_wFrame.j0 kq x40_2 a0_0 a0_1 a0_2 a0_3 l0_4 a1_0 a1_1 a1_2 a1_3 l1_4 = some r) ∧ Aside0 (kq ≤ k) ∧ Aside0 (wc.heap[gb276]? = some (.cells #[.bool a0_0, .int .u32 a0_1, .bool a0_2, .int .i64 a0_3,(.slice A0_4 l0_4.length c0_4)] 25 (0,0))) ∧ Aside0 (wc.heap[gb277]? = some (.cells #[.bool a1_0, .int .u32 a1_1, .bool a1_2, .int .i64 a1_3,(.slice A1_4 l1_4.length c1_4)] 25 (0,0))) ∧ Aside0 (Below w.heap.size w wc))
 case first =>
  have H:=HC3.out
  clear HC3
  by_cases c6 : (a0_0 != a1_0) = true
  ·rw [if_pos c6] at H
   have c6b0 : (a0_0 != a1_0) = true:=c6
   (try (have c6b1 : decide (a0_0 = a1_0) = false:=by simpa using c6))
   (try (have c6b2 : (a0_0 == a1_0) = false:=by simpa using c6))
   (try (have c6b3 : ¬ (a0_0 = a1_0):=by simpa using c6))
   clear c6
   (first | rw [c6b0] | (simp only [i64_w,i32_w];rw [c6b0]) | skip)
   have H':=Aside0.mk H
   clear H
   have hnb7:=NB276_277.out
   have hnc7:=NB277_276.out
   have hcz8_0 : w5.cell? ⟨gb276,0,none⟩ = some (.bool a0_0):=(blk_cell BK276.out 0).trans rfl
   have hcz8_1 : w5.cell? ⟨gb276,1,none⟩ = some (.int .u32 a0_1):=(blk_cell BK276.out 1).trans rfl
   have hcz8_2 : w5.cell? ⟨gb276,2,none⟩ = some (.bool a0_2):=(blk_cell BK276.out 2).trans rfl
   have hcz8_3 : w5.cell? ⟨gb276,3,none⟩ = some (.int .i64 a0_3):=(blk_cell BK276.out 3).trans rfl
   have hcz8_4 : w5.cell? ⟨gb276,4,none⟩ = some (.slice A0_4 l0_4.length c0_4):=(blk_cell BK276.out 4).trans rfl
   have hfz8_0:=blk_frozen BK276.out 0
   have hfz8_1:=blk_frozen BK276.out 1
   have hfz8_2:=blk_frozen BK276.out 2
   have hfz8_3:=blk_frozen BK276.out 3
   have hfz8_4:=blk_frozen BK276.out 4
   have hcz9_0 : w5.cell? ⟨gb277,0,none⟩ = some (.bool a1_0):=(blk_cell BK277.out 0).trans rfl
   have hcz9_1 : w5.cell? ⟨gb277,1,none⟩ = some (.int .u32 a1_1):=(blk_cell BK277.out 1).trans rfl
   have hcz9_2 : w5.cell? ⟨gb277,2,none⟩ = some (.bool a1_2):=(blk_cell BK277.out 2).trans rfl
   have hcz9_3 : w5.cell? ⟨gb277,3,none⟩ = some (.int .i64 a1_3):=(blk_cell BK277.out 3).trans rfl
   have hcz9_4 : w5.cell? ⟨gb277,4,none⟩ = some (.slice A1_4 l1_4.length c1_4):=(blk_cell BK277.out 4).trans rfl
   have hfz9_0:=blk_frozen BK277.out 0
   have hfz9_1:=blk_frozen BK277.out 1
   have hfz9_2:=blk_frozen BK277.out 2
   have hfz9_3:=blk_frozen BK277.out 3
   have hfz9_4:=blk_frozen BK277.out 4
   go_wp2
   repeat (go_quiet (fail);try go_wp2)
   go_meet
   case rel => exact ⟨_,(true),(by first | rfl | (simp;done) | (simp [*];done)),H',⟨by first | omega | exact Nat.le_refl _⟩,⟨by (with_reducible repeat (first | refine blk_drewN ?_ _ | refine blk_drew ?_ | refine blk_alloc ?_ _));exact BK276.out⟩,⟨by (with_reducible repeat (first | refine blk_drewN ?_ _ | refine blk_drew ?_ | refine blk_alloc ?_ _));exact BK277.out⟩,⟨by repeat (first | (with_reducible first | exact HB.out | apply below_alloc | apply pw_below_drewN | apply below_drew1 | refine below_set ?_ GE276.out | refine below_set ?_ GE277.out) | exact HB.out)⟩⟩
  ·rw [if_neg c6] at H
   have c6b0 : (a0_0 != a1_0) = false:=by simpa using c6
   (try (have c6b1 : decide (a0_0 = a1_0) = true:=by simpa using c6))
   (try (have c6b2 : (a0_0 == a1_0) = true:=by simpa using c6))
   clear c6
   (first | rw [c6b0] | (simp only [i64_w,i32_w];rw [c6b0]) | skip)
   by_cases c10 : a0_1 = a1_1
   ·rw [if_pos c10] at H
    have c10b0 : (a0_1 == a1_1) = true:=beq_iff_eq.mpr c10
    have c10b1 : (a0_1 != a1_1) = false:=bne_eq_false_iff_eq.mpr c10
    clear c10
    by_cases c11 : (a0_2 != a1_2) = true
    ·rw [if_pos c11] at H
     have c11b0 : (a0_2 != a1_2) = true:=c11
     (try (have c11b1 : decide (a0_2 = a1_2) = false:=by simpa using c11))
     (try (have c11b2 : (a0_2 == a1_2) = false:=by simpa using c11))
     (try (have c11b3 : ¬ (a0_2 = a1_2):=by simpa using c11))
     clear c11
     have H':=Aside0.mk H
     clear H
     have hnb12:=NB276_277.out
     have hnc12:=NB277_276.out
     have hcz13_0 : w5.cell? ⟨gb276,0,none⟩ = some (.bool a0_0):=(blk_cell BK276.out 0).trans rfl
     have hcz13_1 : w5.cell? ⟨gb276,1,none⟩ = some (.int .u32 a0_1):=(blk_cell BK276.out 1).trans rfl
     have hcz13_2 : w5.cell? ⟨gb276,2,none⟩ = some (.bool a0_2):=(blk_cell BK276.out 2).trans rfl
     have hcz13_3 : w5.cell? ⟨gb276,3,none⟩ = some (.int .i64 a0_3):=(blk_cell BK276.out 3).trans rfl
     have hcz13_4 : w5.cell? ⟨gb276,4,none⟩ = some (.slice A0_4 l0_4.length c0_4):=(blk_cell BK276.out 4).trans rfl
     have hfz13_0:=blk_frozen BK276.out 0
     have hfz13_1:=blk_frozen BK276.out 1
     have hfz13_2:=blk_frozen BK276.out 2
     have hfz13_3:=blk_frozen BK276.out 3
     have hfz13_4:=blk_frozen BK276.out 4
     have hcz14_0 : w5.cell? ⟨gb277,0,none⟩ = some (.bool a1_0):=(blk_cell BK277.out 0).trans rfl
     have hcz14_1 : w5.cell? ⟨gb277,1,none⟩ = some (.int .u32 a1_1):=(blk_cell BK277.out 1).trans rfl
     have hcz14_2 : w5.cell? ⟨gb277,2,none⟩ = some (.bool a1_2):=(blk_cell BK277.out 2).trans rfl
     have hcz14_3 : w5.cell? ⟨gb277,3,none⟩ = some (.int .i64 a1_3):=(blk_cell BK277.out 3).trans rfl
     have hcz14_4 : w5.cell? ⟨gb277,4,none⟩ = some (.slice A1_4 l1_4.length c1_4):=(blk_cell BK277.out 4).trans rfl
     have hfz14_0:=blk_frozen BK277.out 0
     have hfz14_1:=blk_frozen BK277.out 1
     have hfz14_2:=blk_frozen BK277.out 2
     have hfz14_3:=blk_frozen BK277.out 3
     have hfz14_4:=blk_frozen BK277.out 4
     go_wp2
     repeat (go_quiet (fail);try go_wp2)
     go_meet
     case rel => exact ⟨_,(true),(by first | rfl | (simp;done) | (simp [*];done)),H',⟨by first | omega | exact Nat.le_refl _⟩,⟨by (with_reducible repeat (first | refine blk_drewN ?_ _ | refine blk_drew ?_ | refine blk_alloc ?_ _));exact BK276.out⟩,⟨by (with_reducible repeat (first | refine blk_drewN ?_ _ | refine blk_drew ?_ | refine blk_alloc ?_ _));exact BK277.out⟩,⟨by repeat (first | (with_reducible first | exact HB.out | apply below_alloc | apply pw_below_drewN | apply below_drew1 | refine below_set ?_ GE276.out | refine below_set ?_ GE277.out) | exact HB.out)⟩⟩
    ·rw [if_neg c11] at H
     have c11b0 : (a0_2 != a1_2) = false:=by simpa using c11
     (try (have c11b1 : decide (a0_2 = a1_2) = true:=by simpa using c11))
     (try (have c11b2 : (a0_2 == a1_2) = true:=by simpa using c11))
     clear c11
     by_cases c15 : a0_3 = a1_3
     ·rw [if_pos c15] at H
      have c15b0 : (a0_3 == a1_3) = true:=beq_iff_eq.mpr c15
      have c15b1 : (a0_3 != a1_3) = false:=bne_eq_false_iff_eq.mpr c15
      clear c15
      have H':=Aside0.mk H
      clear H
      have hnb16:=NB276_277.out
      have hnc16:=NB277_276.out
      have hcz17_0 : w5.cell? ⟨gb276,0,none⟩ = some (.bool a0_0):=(blk_cell BK276.out 0).trans rfl
      have hcz17_1 : w5.cell? ⟨gb276,1,none⟩ = some (.int .u32 a0_1):=(blk_cell BK276.out 1).trans rfl
      have hcz17_2 : w5.cell? ⟨gb276,2,none⟩ = some (.bool a0_2):=(blk_cell BK276.out 2).trans rfl
      have hcz17_3 : w5.cell? ⟨gb276,3,none⟩ = some (.int .i64 a0_3):=(blk_cell BK276.out 3).trans rfl
      have hcz17_4 : w5.cell? ⟨gb276,4,none⟩ = some (.slice A0_4 l0_4.length c0_4):=(blk_cell BK276.out 4).trans rfl
      have hfz17_0:=blk_frozen BK276.out 0
      have hfz17_1:=blk_frozen BK276.out 1
      have hfz17_2:=blk_frozen BK276.out 2
      have hfz17_3:=blk_frozen BK276.out 3
      have hfz17_4:=blk_frozen BK276.out 4
      have hcz18_0 : w5.cell? ⟨gb277,0,none⟩ = some (.bool a1_0):=(blk_cell BK277.out 0).trans rfl
      have hcz18_1 : w5.cell? ⟨gb277,1,none⟩ = some (.int .u32 a1_1):=(blk_cell BK277.out 1).trans rfl
      have hcz18_2 : w5.cell? ⟨gb277,2,none⟩ = some (.bool a1_2):=(blk_cell BK277.out 2).trans rfl
      have hcz18_3 : w5.cell? ⟨gb277,3,none⟩ = some (.int .i64 a1_3):=(blk_cell BK277.out 3).trans rfl
      have hcz18_4 : w5.cell? ⟨gb277,4,none⟩ = some (.slice A1_4 l1_4.length c1_4):=(blk_cell BK277.out 4).trans rfl
      have hfz18_0:=blk_frozen BK277.out 0
      have hfz18_1:=blk_frozen BK277.out 1
      have hfz18_2:=blk_frozen BK277.out 2
      have hfz18_3:=blk_frozen BK277.out 3
      have hfz18_4:=blk_frozen BK277.out 4
      go_wp2
      repeat (go_quiet (fail);try go_wp2)
      go_meet
      case rel => exact ⟨_,(((l0_4.length : Int) != (l1_4.length : Int))),(by first | rfl | (simp;done) | (simp [*];done)),H',⟨by first | omega | exact Nat.le_refl _⟩,⟨by (with_reducible repeat (first | refine blk_drewN ?_ _ | refine blk_drew ?_ | refine blk_alloc ?_ _));exact BK276.out⟩,⟨by (with_reducible repeat (first | refine blk_drewN ?_ _ | refine blk_drew ?_ | refine blk_alloc ?_ _));exact BK277.out⟩,⟨by repeat (first | (with_reducible first | exact HB.out | apply below_alloc | apply pw_below_drewN | apply below_drew1 | refine below_set ?_ GE276.out | refine below_set ?_ GE277.out) | exact HB.out)⟩⟩
     ·rw [if_neg c15] at H
      have c15b0 : (a0_3 == a1_3) = false:=beq_eq_false_iff_ne.mpr c15
      have c15b1 : (a0_3 != a1_3) = true:=bne_iff_ne.mpr c15
      have H':=Aside0.mk H
      clear H
      have hnb19:=NB276_277.out
      have hnc19:=NB277_276.out
      have hcz20_0 : w5.cell? ⟨gb276,0,none⟩ = some (.bool a0_0):=(blk_cell BK276.out 0).trans rfl
      have hcz20_1 : w5.cell? ⟨gb276,1,none⟩ = some (.int .u32 a0_1):=(blk_cell BK276.out 1).trans rfl
      have hcz20_2 : w5.cell? ⟨gb276,2,none⟩ = some (.bool a0_2):=(blk_cell BK276.out 2).trans rfl
      have hcz20_3 : w5.cell? ⟨gb276,3,none⟩ = some (.int .i64 a0_3):=(blk_cell BK276.out 3).trans rfl
      have hcz20_4 : w5.cell? ⟨gb276,4,none⟩ = some (.slice A0_4 l0_4.length c0_4):=(blk_cell BK276.out 4).trans rfl
      have hfz20_0:=blk_frozen BK276.out 0
      have hfz20_1:=blk_frozen BK276.out 1
      have hfz20_2:=blk_frozen BK276.out 2
      have hfz20_3:=blk_frozen BK276.out 3
      have hfz20_4:=blk_frozen BK276.out 4
      have hcz21_0 : w5.cell? ⟨gb277,0,none⟩ = some (.bool a1_0):=(blk_cell BK277.out 0).trans rfl
      have hcz21_1 : w5.cell? ⟨gb277,1,none⟩ = some (.int .u32 a1_1):=(blk_cell BK277.out 1).trans rfl
      have hcz21_2 : w5.cell? ⟨gb277,2,none⟩ = some (.bool a1_2):=(blk_cell BK277.out 2).trans rfl
      have hcz21_3 : w5.cell? ⟨gb277,3,none⟩ = some (.int .i64 a1_3):=(blk_cell BK277.out 3).trans rfl
      have hcz21_4 : w5.cell? ⟨gb277,4,none⟩ = some (.slice A1_4 l1_4.length c1_4):=(blk_cell BK277.out 4).trans rfl
      have hfz21_0:=blk_frozen BK277.out 0
      have hfz21_1:=blk_frozen BK277.out 1
      have hfz21_2:=blk_frozen BK277.out 2
      have hfz21_3:=blk_frozen BK277.out 3
      have hfz21_4:=blk_frozen BK277.out 4
      go_wp2
      repeat (go_quiet (fail);try go_wp2)
      go_meet
      case rel => exact ⟨_,(true),(by first | rfl | (simp;done) | (simp [*];done)),H',⟨by first | omega | exact Nat.le_refl _⟩,⟨by (with_reducible repeat (first | refine blk_drewN ?_ _ | refine blk_drew ?_ | refine blk_alloc ?_ _));exact BK276.out⟩,⟨by (with_reducible repeat (first | refine blk_drewN ?_ _ | refine blk_drew ?_ | refine blk_alloc ?_ _));exact BK277.out⟩,⟨by repeat (first | (with_reducible first | exact HB.out | apply below_alloc | apply pw_below_drewN | apply below_drew1 | refine below_set ?_ GE276.out | refine below_set ?_ GE277.out) | exact HB.out)⟩⟩
   ·rw [if_neg c10] at H
    have c10b0 : (a0_1 == a1_1) = false:=beq_eq_false_iff_ne.mpr c10
    have c10b1 : (a0_1 != a1_1) = true:=bne_iff_ne.mpr c10
    have H':=Aside0.mk H
    clear H
    have hnb22:=NB276_277.out
    have hnc22:=NB277_276.out
    have hcz23_0 : w5.cell? ⟨gb276,0,none⟩ = some (.bool a0_0):=(blk_cell BK276.out 0).trans rfl
    have hcz23_1 : w5.cell? ⟨gb276,1,none⟩ = some (.int .u32 a0_1):=(blk_cell BK276.out 1).trans rfl
    have hcz23_2 : w5.cell? ⟨gb276,2,none⟩ = some (.bool a0_2):=(blk_cell BK276.out 2).trans rfl
    have hcz23_3 : w5.cell? ⟨gb276,3,none⟩ = some (.int .i64 a0_3):=(blk_cell BK276.out 3).trans rfl
    have hcz23_4 : w5.cell? ⟨gb276,4,none⟩ = some (.slice A0_4 l0_4.length c0_4):=(blk_cell BK276.out 4).trans rfl
    have hfz23_0:=blk_frozen BK276.out 0
    have hfz23_1:=blk_frozen BK276.out 1
    have hfz23_2:=blk_frozen BK276.out 2
    have hfz23_3:=blk_frozen BK276.out 3
    have hfz23_4:=blk_frozen BK276.out 4
    have hcz24_0 : w5.cell? ⟨gb277,0,none⟩ = some (.bool a1_0):=(blk_cell BK277.out 0).trans rfl
    have hcz24_1 : w5.cell? ⟨gb277,1,none⟩ = some (.int .u32 a1_1):=(blk_cell BK277.out 1).trans rfl
    have hcz24_2 : w5.cell? ⟨gb277,2,none⟩ = some (.bool a1_2):=(blk_cell BK277.out 2).trans rfl
    have hcz24_3 : w5.cell? ⟨gb277,3,none⟩ = some (.int .i64 a1_3):=(blk_cell BK277.out 3).trans rfl
    have hcz24_4 : w5.cell? ⟨gb277,4,none⟩ = some (.slice A1_4 l1_4.length c1_4):=(blk_cell BK277.out 4).trans rfl
    have hfz24_0:=blk_frozen BK277.out 0
    have hfz24_1:=blk_frozen BK277.out 1
    have hfz24_2:=blk_frozen BK277.out 2
    have hfz24_3:=blk_frozen BK277.out 3
    have hfz24_4:=blk_frozen BK277.out 4
    go_wp2
    repeat (go_quiet (fail);try go_wp2)
    go_meet
    case rel => exact ⟨_,(true),(by first | rfl | (simp;done) | (simp [*];done)),H',⟨by first | omega | exact Nat.le_refl _⟩,⟨by (with_reducible repeat (first | refine blk_drewN ?_ _ | refine blk_drew ?_ | refine blk_alloc ?_ _));exact BK276.out⟩,⟨by (with_reducible repeat (first | refine blk_drewN ?_ _ | refine blk_drew ?_ | refine blk_alloc ?_ _));exact BK277.out⟩,⟨by repeat (first | (with_reducible first | exact HB.out | apply below_alloc | apply pw_below_drewN | apply below_drew1 | refine below_set ?_ GE276.out | refine below_set ?_ GE277.out) | exact HB.out)⟩⟩
 case rest =>
  clear HC3
  try clear c1
  try clear c2
  try clear p2
  try clear c4
  try clear c6
  try clear c6b0
  try clear c6b1
  try clear c6b2
  try clear c7
  try clear c10
  try clear c10b0
  try clear c10b1
  try clear c11
  try clear c11b0
  try clear c11b1
  try clear c11b2
  try clear c12
  try clear c15
  try clear c15b0
  try clear c15b1
  try clear c16
  try clear c19
  try clear c22
  try clear hcz13_0
  try clear hcz13_1
  try clear hcz13_2
  try clear hcz13_3
  try clear hcz13_4
  try clear hcz14_0
  try clear hcz14_1
  try clear hcz14_2
  try clear hcz14_3
  try clear hcz14_4
  try clear hcz17_0
  try clear hcz17_1
  try clear hcz17_2
  try clear hcz17_3
  try clear hcz17_4
  try clear hcz18_0
  try clear hcz18_1
  try clear hcz18_2
  try clear hcz18_3
  try clear hcz18_4
  try clear hcz20_0
  try clear hcz20_1
  try clear hcz20_2
  try clear hcz20_3
  try clear hcz20_4
  try clear hcz21_0
  try clear hcz21_1
  try clear hcz21_2
  try clear hcz21_3
  try clear hcz21_4
  try clear hcz23_0
  try clear hcz23_1
  try clear hcz23_2
  try clear hcz23_3
  try clear hcz23_4
  try clear hcz24_0
  try clear hcz24_1
  try clear hcz24_2
  try clear hcz24_3
  try clear hcz24_4
  try clear hcz8_0
  try clear hcz8_1
  try clear hcz8_2
  try clear hcz8_3
  try clear hcz8_4
  try clear hcz9_0
  try clear hcz9_1
  try clear hcz9_2
  try clear hcz9_3
  try clear hcz9_4
  try clear hfz13_0
  try clear hfz13_1
  try clear hfz13_2
  try clear hfz13_3
  try clear hfz13_4
  try clear hfz14_0
  try clear hfz14_1
  try clear hfz14_2
  try clear hfz14_3
  try clear hfz14_4
  try clear hfz17_0
  try clear hfz17_1
  try clear hfz17_2
  try clear hfz17_3
  try clear hfz17_4
  try clear hfz18_0
  try clear hfz18_1
  try clear hfz18_2
  try clear hfz18_3
  try clear hfz18_4
  try clear hfz20_0
  try clear hfz20_1
  try clear hfz20_2
  try clear hfz20_3
  try clear hfz20_4
  try clear hfz21_0
  try clear hfz21_1
  try clear hfz21_2
  try clear hfz21_3
  try clear hfz21_4
  try clear hfz23_0
  try clear hfz23_1
  try clear hfz23_2
  try clear hfz23_3
  try clear hfz23_4
  try clear hfz24_0
  try clear hfz24_1
  try clear hfz24_2
  try clear hfz24_3
  try clear hfz24_4
  try clear hfz8_0
  try clear hfz8_1
  try clear hfz8_2
  try clear hfz8_3
  try clear hfz8_4
  try clear hfz9_0
  try clear hfz9_1
  try clear hfz9_2
  try clear hfz9_3
  try clear hfz9_4
  obtain ⟨kq,x40_2,rfl,HA,HJ2,BK276,BK277,HB⟩:=hcut
  cases kq with
  | zero => exact absurd HA.out (by simp [laws_wFrame.j0])
  | succ kj2 =>
   have H:=HA.out
   clear HA
   simp only [laws_wFrame.j0] at H
   by_cases c25 : x40_2 = true
   ·subst c25
    have H1 : (some false) = some r:=by rw [if_pos rfl] at H;exact H
    clear H
    have H:=H1
    clear H1
    obtain rfl:=Option.some.inj H
    go_wp2
    repeat (go_quiet (fail);try go_wp2)
    go_ret
    exact ⟨by first | rfl | (simp [errW_none,errW_some] <;> rfl) | (simp [*,errW_none,errW_some] <;> rfl),by repeat (first | (with_reducible first | exact HB.out | apply below_alloc | apply pw_below_drewN | apply below_drew1 | refine below_set ?_ GE276.out | refine below_set ?_ GE277.out) | exact HB.out)⟩
   ·replace c25:=Bool.eq_false_iff.mpr c25
    subst c25
    have H1 : (laws_wFrame.l0 kj2 0 a0_0 a0_1 a0_2 a0_3 l0_4 a1_0 a1_1 a1_2 a1_3 l1_4) = some r:=by rw [if_neg (show ¬ (false = true) by decide)] at H;exact H
    clear H
    have H:=H1
    clear H1
    have H':=Aside0.mk H
    clear H
    go_wp2
    repeat (go_quiet (fail);try go_wp2)
    go_loopg [5] kj2 (fun kq v5 w' => ∃ (x5_2 : Int),v5 = .int .i64 x5_2 ∧ Aside0 (laws_wFrame.l0 kq x5_2 a0_0 a0_1 a0_2 a0_3 l0_4 a1_0 a1_1 a1_2 a1_3 l1_4 = some r) ∧ Aside0 (kq ≤ kj2) ∧ Aside0 (w'.heap[gb276]? = some (.cells #[.bool a0_0, .int .u32 a0_1, .bool a0_2, .int .i64 a0_3,(.slice A0_4 l0_4.length c0_4)] 25 (0,0))) ∧ Aside0 (w'.heap[gb277]? = some (.cells #[.bool a1_0, .int .u32 a1_1, .bool a1_2, .int .i64 a1_3,(.slice A1_4 l1_4.length c1_4)] 25 (0,0))) ∧ Aside0 (Below w.heap.size w w'))
    case atStart => exact ⟨(0),(by first | rfl | (simp;done) | (simp [*];done)),H',⟨Nat.le_refl _⟩,⟨by (with_reducible repeat (first | refine blk_drewN ?_ _ | refine blk_drew ?_ | refine blk_alloc ?_ _));exact BK276.out⟩,⟨by (with_reducible repeat (first | refine blk_drewN ?_ _ | refine blk_drew ?_ | refine blk_alloc ?_ _));exact BK277.out⟩,⟨by repeat (first | (with_reducible first | exact HB.out | apply below_alloc | apply pw_below_drewN | apply below_drew1 | refine below_set ?_ GE276.out | refine below_set ?_ GE277.out) | exact HB.out)⟩⟩
    case round =>
     clear H'
     try clear c1
     try clear c2
     try clear p2
     try clear c4
     try clear c6
     try clear c6b0
     try clear c6b1
     try clear c6b2
     try clear c7
     try clear c10
     try clear c10b0
     try clear c10b1
     try clear c11
     try clear c11b0
     try clear c11b1
     try clear c11b2
     try clear c12
     try clear c15
     try clear c15b0
     try clear c15b1
     try clear c16
     try clear c19
     try clear c22
     try clear c25
     try clear hcz13_0
     try clear hcz13_1
     try clear hcz13_2
     try clear hcz13_3
     try clear hcz13_4
     try clear hcz14_0
     try clear hcz14_1
     try clear hcz14_2
     try clear hcz14_3
     try clear hcz14_4
     try clear hcz17_0
     try clear hcz17_1
     try clear hcz17_2
     try clear hcz17_3
     try clear hcz17_4
     try clear hcz18_0
     try clear hcz18_1
     try clear hcz18_2
     try clear hcz18_3
     try clear hcz18_4
     try clear hcz20_0
     try clear hcz20_1
     try clear hcz20_2
     try clear hcz20_3
     try clear hcz20_4
     try clear hcz21_0
     try clear hcz21_1
     try clear hcz21_2
     try clear hcz21_3
     try clear hcz21_4
     try clear hcz23_0
     try clear hcz23_1
     try clear hcz23_2
     try clear hcz23_3
     try clear hcz23_4
     try clear hcz24_0
     try clear hcz24_1
     try clear hcz24_2
     try clear hcz24_3
     try clear hcz24_4
     try clear hcz8_0
     try clear hcz8_1
     try clear hcz8_2
     try clear hcz8_3
     try clear hcz8_4
     try clear hcz9_0
     try clear hcz9_1
     try clear hcz9_2
     try clear hcz9_3
     try clear hcz9_4
     try clear hfz13_0
     try clear hfz13_1
     try clear hfz13_2
     try clear hfz13_3
     try clear hfz13_4
     try clear hfz14_0
     try clear hfz14_1
     try clear hfz14_2
     try clear hfz14_3
     try clear hfz14_4
     try clear hfz17_0
     try clear hfz17_1
     try clear hfz17_2
     try clear hfz17_3
     try clear hfz17_4
     try clear hfz18_0
     try clear hfz18_1
     try clear hfz18_2
     try clear hfz18_3
     try clear hfz18_4
     try clear hfz20_0
     try clear hfz20_1
     try clear hfz20_2
     try clear hfz20_3
     try clear hfz20_4
     try clear hfz21_0
     try clear hfz21_1
     try clear hfz21_2
     try clear hfz21_3
     try clear hfz21_4
     try clear hfz23_0
     try clear hfz23_1
     try clear hfz23_2
     try clear hfz23_3
     try clear hfz23_4
     try clear hfz24_0
     try clear hfz24_1
     try clear hfz24_2
     try clear hfz24_3
     try clear hfz24_4
     try clear hfz8_0
     try clear hfz8_1
     try clear hfz8_2
     try clear hfz8_3
     try clear hfz8_4
     try clear hfz9_0
     try clear hfz9_1
     try clear hfz9_2
     try clear hfz9_3
     try clear hfz9_4
     try clear p2
     obtain ⟨x5_2,rfl,HA,HK2,BK276,BK277,HB⟩:=hrel
     cases gk with
     | zero => exact absurd HA.out (by simp [laws_wFrame.l0])
     | succ k2 =>
      have H:=HA.out
      clear HA
      simp only [laws_wFrame.l0] at H
      by_cases c26 : x5_2 < (l0_4.length : Int)
      ·rw [if_pos c26] at H
       have c26b0 : decide (x5_2 < (l0_4.length : Int)) = true:=decide_eq_true c26
       clear c26
       by_cases c27 : 0 ≤ x5_2
       ·rw [if_pos c27] at H
        have c27b0 : decide (0 ≤ x5_2) = true:=decide_eq_true c27
        clear c27
        by_cases c28 : x5_2 < (l1_4.length : Int)
        ·rw [if_pos c28] at H
         have c28b0 : decide (x5_2 < (l1_4.length : Int)) = true:=decide_eq_true c28
         clear c28
         by_cases c29 : (rd l0_4 x5_2) = (rd l1_4 x5_2)
         ·rw [if_pos c29] at H
          have c29b0 : ((rd l0_4 x5_2) == (rd l1_4 x5_2)) = true:=beq_iff_eq.mpr c29
          have c29b1 : ((rd l0_4 x5_2) != (rd l1_4 x5_2)) = false:=bne_eq_false_iff_eq.mpr c29
          clear c29
          have H':=Aside0.mk H
          clear H
          have hnb30:=NB276_277.out
          have hnc30:=NB277_276.out
          have hcz31_0 : wr.cell? ⟨gb276,0,none⟩ = some (.bool a0_0):=(blk_cell BK276.out 0).trans rfl
          have hcz31_1 : wr.cell? ⟨gb276,1,none⟩ = some (.int .u32 a0_1):=(blk_cell BK276.out 1).trans rfl
          have hcz31_2 : wr.cell? ⟨gb276,2,none⟩ = some (.bool a0_2):=(blk_cell BK276.out 2).trans rfl
          have hcz31_3 : wr.cell? ⟨gb276,3,none⟩ = some (.int .i64 a0_3):=(blk_cell BK276.out 3).trans rfl
          have hcz31_4 : wr.cell? ⟨gb276,4,none⟩ = some (.slice A0_4 l0_4.length c0_4):=(blk_cell BK276.out 4).trans rfl
          have hfz31_0:=blk_frozen BK276.out 0
          have hfz31_1:=blk_frozen BK276.out 1
          have hfz31_2:=blk_frozen BK276.out 2
          have hfz31_3:=blk_frozen BK276.out 3
          have hfz31_4:=blk_frozen BK276.out 4
          have p278 : 0 ≤ (x5_2 : Int):=of_decide_eq_true (by first | (with_reducible assumption) | assumption)
          have q278 : x5_2 < (l0_4.length : Int):=of_decide_eq_true (by first | (with_reducible assumption) | assumption)
          obtain ⟨ad278,e278,hx278_0⟩:=Kd.at_int HR0_4.out x5_2 p278 q278
          cases e278
          replace hx278_0:=(HB.out.cell (World.block_lt_of_cell? w _ hx278_0)).trans hx278_0
          replace p278:=eq_true p278
          replace q278:=eq_true q278
          have hcz32_0 : wr.cell? ⟨gb277,0,none⟩ = some (.bool a1_0):=(blk_cell BK277.out 0).trans rfl
          have hcz32_1 : wr.cell? ⟨gb277,1,none⟩ = some (.int .u32 a1_1):=(blk_cell BK277.out 1).trans rfl
          have hcz32_2 : wr.cell? ⟨gb277,2,none⟩ = some (.bool a1_2):=(blk_cell BK277.out 2).trans rfl
          have hcz32_3 : wr.cell? ⟨gb277,3,none⟩ = some (.int .i64 a1_3):=(blk_cell BK277.out 3).trans rfl
          have hcz32_4 : wr.cell? ⟨gb277,4,none⟩ = some (.slice A1_4 l1_4.length c1_4):=(blk_cell BK277.out 4).trans rfl
          have hfz32_0:=blk_frozen BK277.out 0
          have hfz32_1:=blk_frozen BK277.out 1
          have hfz32_2:=blk_frozen BK277.out 2
          have hfz32_3:=blk_frozen BK277.out 3
          have hfz32_4:=blk_frozen BK277.out 4
          have p279 : 0 ≤ (x5_2 : Int):=of_decide_eq_true (by first | (with_reducible assumption) | assumption)
          have q279 : x5_2 < (l1_4.length : Int):=of_decide_eq_true (by first | (with_reducible assumption) | assumption)
          obtain ⟨ad279,e279,hx279_0⟩:=Kd.at_int HR1_4.out x5_2 p279 q279
          cases e279
          replace hx279_0:=(HB.out.cell (World.block_lt_of_cell? w _ hx279_0)).trans hx279_0
          replace p279:=eq_true p279
          replace q279:=eq_true q279
          go_wp2
          repeat (go_quiet (fail);try go_wp2)
          go_roundg k2
          case measure => have:=HJ2.out;have:=HK2.out;omega
          case rel => exact ⟨(wrap64 (x5_2 + 1)),(by first | rfl | (simp;done) | (simp [*];done)),H',⟨by have:=HJ2.out;have:=HK2.out;omega⟩,⟨by (with_reducible repeat (first | refine blk_drewN ?_ _ | refine blk_drew ?_ | refine blk_alloc ?_ _));exact BK276.out⟩,⟨by (with_reducible repeat (first | refine blk_drewN ?_ _ | refine blk_drew ?_ | refine blk_alloc ?_ _));exact BK277.out⟩,⟨by repeat (first | (with_reducible first | exact HB.out | apply below_alloc | apply pw_below_drewN | apply below_drew1 | refine below_set ?_ GE276.out | refine below_set ?_ GE277.out) | exact HB.out)⟩⟩
         ·rw [if_neg c29] at H
          have c29b0 : ((rd l0_4 x5_2) == (rd l1_4 x5_2)) = false:=beq_eq_false_iff_ne.mpr c29
          have c29b1 : ((rd l0_4 x5_2) != (rd l1_4 x5_2)) = true:=bne_iff_ne.mpr c29
          obtain rfl:=Option.some.inj H
          have hnb33:=NB276_277.out
          have hnc33:=NB277_276.out
          have hcz34_0 : wr.cell? ⟨gb276,0,none⟩ = some (.bool a0_0):=(blk_cell BK276.out 0).trans rfl
          have hcz34_1 : wr.cell? ⟨gb276,1,none⟩ = some (.int .u32 a0_1):=(blk_cell BK276.out 1).trans rfl
          have hcz34_2 : wr.cell? ⟨gb276,2,none⟩ = some (.bool a0_2):=(blk_cell BK276.out 2).trans rfl
          have hcz34_3 : wr.cell? ⟨gb276,3,none⟩ = some (.int .i64 a0_3):=(blk_cell BK276.out 3).trans rfl
          have hcz34_4 : wr.cell? ⟨gb276,4,none⟩ = some (.slice A0_4 l0_4.length c0_4):=(blk_cell BK276.out 4).trans rfl
          have hfz34_0:=blk_frozen BK276.out 0
          have hfz34_1:=blk_frozen BK276.out 1
          have hfz34_2:=blk_frozen BK276.out 2
          have hfz34_3:=blk_frozen BK276.out 3
          have hfz34_4:=blk_frozen BK276.out 4
          have p278 : 0 ≤ (x5_2 : Int):=of_decide_eq_true (by first | (with_reducible assumption) | assumption)
          have q278 : x5_2 < (l0_4.length : Int):=of_decide_eq_true (by first | (with_reducible assumption) | assumption)
          obtain ⟨ad278,e278,hx278_0⟩:=Kd.at_int HR0_4.out x5_2 p278 q278
          cases e278
          replace hx278_0:=(HB.out.cell (World.block_lt_of_cell? w _ hx278_0)).trans hx278_0
          replace p278:=eq_true p278
          replace q278:=eq_true q278
          have hcz35_0 : wr.cell? ⟨gb277,0,none⟩ = some (.bool a1_0):=(blk_cell BK277.out 0).trans rfl
          have hcz35_1 : wr.cell? ⟨gb277,1,none⟩ = some (.int .u32 a1_1):=(blk_cell BK277.out 1).trans rfl
          have hcz35_2 : wr.cell? ⟨gb277,2,none⟩ = some (.bool a1_2):=(blk_cell BK277.out 2).trans rfl
          have hcz35_3 : wr.cell? ⟨gb277,3,none⟩ = some (.int .i64 a1_3):=(blk_cell BK277.out 3).trans rfl
          have hcz35_4 : wr.cell? ⟨gb277,4,none⟩ = some (.slice A1_4 l1_4.length c1_4):=(blk_cell BK277.out 4).trans rfl
          have hfz35_0:=blk_frozen BK277.out 0
          have hfz35_1:=blk_frozen BK277.out 1
          have hfz35_2:=blk_frozen BK277.out 2
          have hfz35_3:=blk_frozen BK277.out 3
          have hfz35_4:=blk_frozen BK277.out 4
          have p279 : 0 ≤ (x5_2 : Int):=of_decide_eq_true (by first | (with_reducible assumption) | assumption)
          have q279 : x5_2 < (l1_4.length : Int):=of_decide_eq_true (by first | (with_reducible assumption) | assumption)
          obtain ⟨ad279,e279,hx279_0⟩:=Kd.at_int HR1_4.out x5_2 p279 q279
          cases e279
          replace hx279_0:=(HB.out.cell (World.block_lt_of_cell? w _ hx279_0)).trans hx279_0
          replace p279:=eq_true p279
          replace q279:=eq_true q279
          go_wp2
          repeat (go_quiet (fail);try go_wp2)
          go_ret
          exact ⟨by first | rfl | (simp [errW_none,errW_some] <;> rfl) | (simp [*,errW_none,errW_some] <;> rfl),by repeat (first | (with_reducible first | exact HB.out | apply below_alloc | apply pw_below_drewN | apply below_drew1 | refine below_set ?_ GE276.out | refine below_set ?_ GE277.out) | exact HB.out)⟩
        ·rw [if_neg c28] at H
         exact absurd H (by simp)
       ·rw [if_neg c27] at H
        exact absurd H (by simp)
      ·rw [if_neg c26] at H
       have c26b0 : decide (x5_2 < (l0_4.length : Int)) = false:=decide_eq_false c26
       clear c26
       obtain rfl:=Option.some.inj H
       have hnb36:=NB276_277.out
       have hnc36:=NB277_276.out
       have hcz37_0 : wr.cell? ⟨gb276,0,none⟩ = some (.bool a0_0):=(blk_cell BK276.out 0).trans rfl
       have hcz37_1 : wr.cell? ⟨gb276,1,none⟩ = some (.int .u32 a0_1):=(blk_cell BK276.out 1).trans rfl
       have hcz37_2 : wr.cell? ⟨gb276,2,none⟩ = some (.bool a0_2):=(blk_cell BK276.out 2).trans rfl
       have hcz37_3 : wr.cell? ⟨gb276,3,none⟩ = some (.int .i64 a0_3):=(blk_cell BK276.out 3).trans rfl
       have hcz37_4 : wr.cell? ⟨gb276,4,none⟩ = some (.slice A0_4 l0_4.length c0_4):=(blk_cell BK276.out 4).trans rfl
       have hfz37_0:=blk_frozen BK276.out 0
       have hfz37_1:=blk_frozen BK276.out 1
       have hfz37_2:=blk_frozen BK276.out 2
       have hfz37_3:=blk_frozen BK276.out 3
       have hfz37_4:=blk_frozen BK276.out 4
       go_wp2
       repeat (go_quiet (fail);try go_wp2)
       go_ret
       exact ⟨by first | rfl | (simp [errW_none,errW_some] <;> rfl) | (simp [*,errW_none,errW_some] <;> rfl),by repeat (first | (with_reducible first | exact HB.out | apply below_alloc | apply pw_below_drewN | apply below_drew1 | refine below_set ?_ GE276.out | refine below_set ?_ GE277.out) | exact HB.out)⟩
end Go.Proofs.Ytdoclpgciadjaaa.P

namespace Go.Proofs.Ytdoclpgciadjaaa.P
open Go.RowKit Go.Proofs.YtdoclpgciadjaaaW.PrintWords Go.Proofs.YtdoclpgciadjaaaW.PrintLast Go.Proofs.YtdoclpgciadjaaaW.PrintMore
set_option linter.unusedVariables false
set_option linter.unusedSimpArgs false
def impl_Destuff.f (a0 : ByteArray) : Option (ByteArray × Int):=some (destuffV a0)
set_option maxHeartbeats 2000000 in
theorem impl_Destuff.yes (a0 : ByteArray) (R : List Int × Int) (w : World) (hsz : a0.size ≤ 4000) (hB0 : isBits a0 = true) (hR : destuffL (bytesOf a0) 0 0 120 [] = R) :
  Calls Try.prog 50 #[.string a0] w fun e w' => e = .returned (.tuple #[.string (strOfNums R.1), .int .i64 R.2]) ∧ Below w.heap.size w w':=by
 have hbt : Hid (impl_bitText.f a0 4000 = some true):=by
  refine Lib.hid ?_
  unfold impl_bitText.f
  rw [hB0,decide_eq_true (by omega)];rfl
 have HB:=Lib.hid hB0
 have H0 : Hid (DesAt a0 R 0 [] 0 120):=Lib.hid (hR ▸ DesAt.zero a0)
 clear hB0 hR
 go_enter Try.func50,Try.ntmps50
 go_wp2_with (go_at_call 77;refine (impl_bitText.calls _ _ true _ hbt.out).mono ?_;rintro e w1 ⟨rfl,hb1⟩;obtain ⟨w2,cap,hmk,ho2,hg2⟩:=make_R (P:=Try.prog) (Kd.int .u8) w1 w.heap.size 22 5 (.int .u8 0) 1 Try.underlying22 infoU8 a0.size (by omega) (by simp only [maxLen];omega) hb1.size;have HO2:=Lib.hid ho2;have HBL:=Lib.hid (hb1.grown hg2 hb1.size (fun k hk => by cases hk));clear ho2 hb1 hg2)
 go_loopw [4,5,6] (fun v3 v4 v5 wr => ∃ (pos : Nat) (out : List Int) (run last : Int),DesAt a0 R pos out run last ∧ wr.heap[w2.heap.size]? = some (.stringIter a0 pos) ∧ Aside0 (Kd.R (Kd.int .u8) 5 wr w.heap.size (fun _ => True) v3 out) ∧ Aside0 (Below w.heap.size w wr) ∧ v4 = .int .i64 run ∧ v5 = .int .i32 last) (fun _ _ _ wr => a0.size - wr.iterPos w2.heap.size)
 case atStart => exact ⟨0, [],0,120,H0.out,iter_new _ _ _,⟨R_iter HO2.out a0 0⟩,⟨HBL.out.alloc HBL.out.size _⟩,rfl,rfl⟩
 case round =>
  obtain ⟨pos,out,run,last,hst,hit,HO,HW,rfl,rfl⟩:=hrel
  have HL:=Lib.hid hst.len
  have hr0:=hst.lo
  have hr1:=hst.hi
  have HSZ : Hid (w.heap.size ≤ w2.heap.size):=Lib.hid HBL.out.size
  by_cases hp : pos < a0.size
  ·have hbit:=isBits_at HB.out hp
   rcases isBit_cases hbit with e | e
   ·have hnx:=fun ty => next_bit_at (P:=Try.prog) _ _ a0 pos ty hit hp (b:=48) (by rw [e];rfl) (by omega)
    have HIT:=Lib.hid hit
    have HE : Hid ((a0[pos]'hp).toNat = 48):=Lib.hid (by rw [e];rfl)
    clear e hbit hit
    by_cases c5 : run = 5
    ·subst c5
     by_cases c1 : 48 = last
     ·have HS:=Lib.hid (hst.stop hp HE.out c1)
      subst c1
      have hcv:=own_string (P:=Try.prog) Try.underlying22 Try.underlying5 Try.underlying9 (Kd.own_of_R (R_iterAt HO.out HIT.out (pos + 1)))
      clear hst
      go_wp2
      go_ret2
      exact ⟨by rw [HS.out];rfl,(Lib.below_iterAt HW.out HSZ.out a0 (pos + 1))⟩
     ·have HS:=Lib.hid (hst.skip hp HE.out c1)
      have c3 : ((48 : Int) == last) = false:=by rw [beq_eq_false_iff_ne];exact c1
      clear hst c1
      go_wp2
      go_roundw
      case rel => exact ⟨pos + 1,_,_,_,HS.out,Lib.iterAt_heap _ _ a0 pos (pos + 1) HIT.out,⟨R_iterAt HO.out HIT.out (pos + 1)⟩,⟨(Lib.below_iterAt HW.out HSZ.out a0 (pos + 1))⟩,rfl,rfl⟩
      case measure => rw [iterPos_at (Lib.iterAt_heap _ _ a0 pos (pos + 1) HIT.out),iterPos_at HIT.out];omega
    ·have c4 : ((run : Int) == 5) = false:=by rw [beq_eq_false_iff_ne];exact c5
     by_cases c1 : 48 = last
     ·have HS : Hid (DesAt a0 R (pos + 1) (out ++ [48]) (run + 1) 48):=Lib.hid (by have h:=hst.step hp HE.out c5;rw [if_pos (show ((48 : Nat) : Int) = last from c1)] at h;exact h)
      subst c1
      clear hst c5
      go_wp2_with (first | (at_builtin;refine Kd.R_append (Kd.int .u8) (w0:=w) w.heap.size rfl (.tmp 43) (.tmp 46) 22 5 (.int .u8 0) 1 rfl Try.underlying22 infoU8 rfl (by decide) (by omega) _ out 48 [.int .u8 48] (fun _ => True) (fun _ => False) rfl rfl ?aP (fun _ hk => hk.elim) ?aF ?aO ?aB ?aS ?aL ?_;(case aP => exact rfl);(case aF => exact fun _ _ => trivial);(case aO => exact R_iterAt HO.out HIT.out (pos + 1));(case aB => exact (Lib.below_iterAt HW.out HSZ.out a0 (pos + 1)));(case aS => exact (Lib.below_iterAt HW.out HSZ.out a0 (pos + 1)).size);(case aL => have:=HL.out;omega);intro v1 wA ho1 hb1 hg1 hat1;have HO1:=Aside0.mk ho1;have HW1:=Aside0.mk hb1;have HIT1:=Lib.hid (iter_grown (R_iterAt HO.out HIT.out (pos + 1)) hg1 (Lib.iterAt_heap _ _ a0 pos (pos + 1) HIT.out));clear ho1 hb1 hg1 hat1))
      go_roundw
      case rel => exact ⟨pos + 1,_,_,_,HS.out,HIT1.out,HO1,HW1,rfl,rfl⟩
      case measure => rw [iterPos_at HIT1.out,iterPos_at HIT.out];omega
     ·have HS : Hid (DesAt a0 R (pos + 1) (out ++ [48]) 1 48):=Lib.hid (by have h:=hst.step hp HE.out c5;rw [if_neg (show ¬ ((48 : Nat) : Int) = last from c1)] at h;exact h)
      have c3 : ((48 : Int) == last) = false:=by rw [beq_eq_false_iff_ne];exact c1
      clear hst c1 c5
      go_wp2_with (first | (at_builtin;refine Kd.R_append (Kd.int .u8) (w0:=w) w.heap.size rfl (.tmp 43) (.tmp 46) 22 5 (.int .u8 0) 1 rfl Try.underlying22 infoU8 rfl (by decide) (by omega) _ out 48 [.int .u8 48] (fun _ => True) (fun _ => False) rfl rfl ?aP (fun _ hk => hk.elim) ?aF ?aO ?aB ?aS ?aL ?_;(case aP => exact rfl);(case aF => exact fun _ _ => trivial);(case aO => exact R_iterAt HO.out HIT.out (pos + 1));(case aB => exact (Lib.below_iterAt HW.out HSZ.out a0 (pos + 1)));(case aS => exact (Lib.below_iterAt HW.out HSZ.out a0 (pos + 1)).size);(case aL => have:=HL.out;omega);intro v1 wA ho1 hb1 hg1 hat1;have HO1:=Aside0.mk ho1;have HW1:=Aside0.mk hb1;have HIT1:=Lib.hid (iter_grown (R_iterAt HO.out HIT.out (pos + 1)) hg1 (Lib.iterAt_heap _ _ a0 pos (pos + 1) HIT.out));clear ho1 hb1 hg1 hat1))
      go_roundw
      case rel => exact ⟨pos + 1,_,_,_,HS.out,HIT1.out,HO1,HW1,rfl,rfl⟩
      case measure => rw [iterPos_at HIT1.out,iterPos_at HIT.out];omega
   ·have hnx:=fun ty => next_bit_at (P:=Try.prog) _ _ a0 pos ty hit hp (b:=49) (by rw [e];rfl) (by omega)
    have HIT:=Lib.hid hit
    have HE : Hid ((a0[pos]'hp).toNat = 49):=Lib.hid (by rw [e];rfl)
    clear e hbit hit
    by_cases c5 : run = 5
    ·subst c5
     by_cases c1 : 49 = last
     ·have HS:=Lib.hid (hst.stop hp HE.out c1)
      subst c1
      have hcv:=own_string (P:=Try.prog) Try.underlying22 Try.underlying5 Try.underlying9 (Kd.own_of_R (R_iterAt HO.out HIT.out (pos + 1)))
      clear hst
      go_wp2
      go_ret2
      exact ⟨by rw [HS.out];rfl,(Lib.below_iterAt HW.out HSZ.out a0 (pos + 1))⟩
     ·have HS:=Lib.hid (hst.skip hp HE.out c1)
      have c3 : ((49 : Int) == last) = false:=by rw [beq_eq_false_iff_ne];exact c1
      clear hst c1
      go_wp2
      go_roundw
      case rel => exact ⟨pos + 1,_,_,_,HS.out,Lib.iterAt_heap _ _ a0 pos (pos + 1) HIT.out,⟨R_iterAt HO.out HIT.out (pos + 1)⟩,⟨(Lib.below_iterAt HW.out HSZ.out a0 (pos + 1))⟩,rfl,rfl⟩
      case measure => rw [iterPos_at (Lib.iterAt_heap _ _ a0 pos (pos + 1) HIT.out),iterPos_at HIT.out];omega
    ·have c4 : ((run : Int) == 5) = false:=by rw [beq_eq_false_iff_ne];exact c5
     by_cases c1 : 49 = last
     ·have HS : Hid (DesAt a0 R (pos + 1) (out ++ [49]) (run + 1) 49):=Lib.hid (by have h:=hst.step hp HE.out c5;rw [if_pos (show ((49 : Nat) : Int) = last from c1)] at h;exact h)
      subst c1
      clear hst c5
      go_wp2_with (first | (at_builtin;refine Kd.R_append (Kd.int .u8) (w0:=w) w.heap.size rfl (.tmp 43) (.tmp 46) 22 5 (.int .u8 0) 1 rfl Try.underlying22 infoU8 rfl (by decide) (by omega) _ out 49 [.int .u8 49] (fun _ => True) (fun _ => False) rfl rfl ?aP (fun _ hk => hk.elim) ?aF ?aO ?aB ?aS ?aL ?_;(case aP => exact rfl);(case aF => exact fun _ _ => trivial);(case aO => exact R_iterAt HO.out HIT.out (pos + 1));(case aB => exact (Lib.below_iterAt HW.out HSZ.out a0 (pos + 1)));(case aS => exact (Lib.below_iterAt HW.out HSZ.out a0 (pos + 1)).size);(case aL => have:=HL.out;omega);intro v1 wA ho1 hb1 hg1 hat1;have HO1:=Aside0.mk ho1;have HW1:=Aside0.mk hb1;have HIT1:=Lib.hid (iter_grown (R_iterAt HO.out HIT.out (pos + 1)) hg1 (Lib.iterAt_heap _ _ a0 pos (pos + 1) HIT.out));clear ho1 hb1 hg1 hat1))
      go_roundw
      case rel => exact ⟨pos + 1,_,_,_,HS.out,HIT1.out,HO1,HW1,rfl,rfl⟩
      case measure => rw [iterPos_at HIT1.out,iterPos_at HIT.out];omega
     ·have HS : Hid (DesAt a0 R (pos + 1) (out ++ [49]) 1 49):=Lib.hid (by have h:=hst.step hp HE.out c5;rw [if_neg (show ¬ ((49 : Nat) : Int) = last from c1)] at h;exact h)
      have c3 : ((49 : Int) == last) = false:=by rw [beq_eq_false_iff_ne];exact c1
      clear hst c1 c5
      go_wp2_with (first | (at_builtin;refine Kd.R_append (Kd.int .u8) (w0:=w) w.heap.size rfl (.tmp 43) (.tmp 46) 22 5 (.int .u8 0) 1 rfl Try.underlying22 infoU8 rfl (by decide) (by omega) _ out 49 [.int .u8 49] (fun _ => True) (fun _ => False) rfl rfl ?aP (fun _ hk => hk.elim) ?aF ?aO ?aB ?aS ?aL ?_;(case aP => exact rfl);(case aF => exact fun _ _ => trivial);(case aO => exact R_iterAt HO.out HIT.out (pos + 1));(case aB => exact (Lib.below_iterAt HW.out HSZ.out a0 (pos + 1)));(case aS => exact (Lib.below_iterAt HW.out HSZ.out a0 (pos + 1)).size);(case aL => have:=HL.out;omega);intro v1 wA ho1 hb1 hg1 hat1;have HO1:=Aside0.mk ho1;have HW1:=Aside0.mk hb1;have HIT1:=Lib.hid (iter_grown (R_iterAt HO.out HIT.out (pos + 1)) hg1 (Lib.iterAt_heap _ _ a0 pos (pos + 1) HIT.out));clear ho1 hb1 hg1 hat1))
      go_roundw
      case rel => exact ⟨pos + 1,_,_,_,HS.out,HIT1.out,HO1,HW1,rfl,rfl⟩
      case measure => rw [iterPos_at HIT1.out,iterPos_at HIT.out];omega
  ·have hnx:=fun ty => Lib.run_next_end_at (P:=Try.prog) _ _ a0 pos ty hit hp
   have hcv:=own_string (P:=Try.prog) Try.underlying22 Try.underlying5 Try.underlying9 (Kd.own_of_R HO.out)
   have HS:=Lib.hid (hst.over hp)
   clear hst
   go_wp2
   go_ret2
   exact ⟨by rw [HS.out];rfl,HW.out⟩
theorem impl_Destuff.calls (a0 : ByteArray) (r1 : ByteArray) (r2 : Int) (w : World) (h : impl_Destuff.f a0 = some (r1,r2)) :
  Calls Try.prog 50 #[.string a0] w fun e w' => e = .returned (.tuple #[.string r1, .int .i64 r2]) ∧ Below w.heap.size w w':=by
 have h' : destuffV a0 = (r1,r2):=Option.some.inj h
 unfold destuffV at h'
 by_cases c : a0.size ≤ 4000 ∧ isBits a0 = true
 ·rw [if_pos c] at h'
  simp only [Prod.mk.injEq] at h'
  obtain ⟨rfl,rfl⟩:=h'
  exact impl_Destuff.yes a0 _ w c.1 c.2 rfl
 ·rw [if_neg c] at h'
  simp only [Prod.mk.injEq] at h'
  obtain ⟨rfl,rfl⟩:=h'
  clear h
  have hbt : Hid (impl_bitText.f a0 4000 = some false):=by
   refine Lib.hid ?_
   unfold impl_bitText.f
   congr 1
   rw [Bool.and_eq_false_iff]
   by_cases h : isBits a0 = true
   ·exact .inl (decide_eq_false fun h2 => c ⟨by omega,h⟩)
   ·exact .inr (by simpa using h)
  clear c
  go_enter Try.func50,Try.ntmps50
  go_wp2_with (go_at_call 77;refine (impl_bitText.calls _ _ false _ hbt.out).mono ?_;rintro e w1 ⟨rfl,hb1⟩)
  go_ret2
  exact ⟨rfl,hb1⟩
end Go.Proofs.Ytdoclpgciadjaaa.P
