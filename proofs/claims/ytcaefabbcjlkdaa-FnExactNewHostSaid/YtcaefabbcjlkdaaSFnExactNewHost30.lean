/- Texts of the proof of FnExactNewHost, joined. -/
import Derived.Test.YtcaefabbcjlkdaaSFnExactNewHost28
import Derived.Test.YtcaefabbcjlkdaaSFnExactNewHost29
import Derived.Test.YtcaefabbcjlkdaaSFnExactNewHost22
import Derived.Test.YtcaefabbcjlkdaaSFnExactNewHost1
namespace Go.Proofs.Ytcaefabbcjlkdaa.P
open Go Go.RowKit Go.Proofs.YtcaefabbcjlkdaaW.PrintWords Go.Proofs.YtcaefabbcjlkdaaW.PrintLast Go.Proofs.YtcaefabbcjlkdaaW.PrintMore
set_option linter.unusedVariables false
set_option linter.unusedSimpArgs false
theorem heldBoxS_ev (xs : List S87) (q : Int) (hq : 0 ≤ q) (hb : q + offBox xs xs.length ≤ 50000000) (hl : xs.length ≤ 10000000) (hd : ∀ x ∈ xs,x.f3.f4.length ≤ 10000000) : Ev (fun k => laws_heldBoxS.f k (markBoxs q xs) q) (q + offBox xs xs.length):=by
 have loop : ∀ (d i : Nat),i + d = xs.length → Ev (fun k => laws_heldBoxS.l0 k (markBoxs q xs) (q + offBox xs i) (i : Int)) (q + offBox xs xs.length):=by
  intro d
  induction d with
  | zero =>
   intro i hi
   refine Ev.step (f:=fun _ => some (q + offBox xs xs.length)) (fun k => ?_) (Ev.now _)
   simp only [laws_heldBoxS.l0]
   rw [if_neg (by rw [markBoxs_len];omega),show i = xs.length by omega]
  | succ d ih =>
   intro i hi
   have hlt : i < xs.length:=by omega
   have hr : rd_T87 (markBoxs q xs) (i : Int) = mkBox (q + offBox xs i) (xs.getD i z87):=by
    unfold rd_T87
    rw [Int.toNat_natCast,List.getD_eq_getElem?_getD,markBoxs_get q xs i hlt];rfl
   have hy : (xs.getD i z87).f3.f4.length ≤ 10000000:=by
    refine hd _ (List.mem_of_getElem? (i:=i) ?_)
    rw [List.getD_eq_getElem?_getD,List.getElem?_eq_getElem hlt];rfl
   have h4:=offBox_nn xs i
   have h5:=offBox_le xs (i:=i + 1) (n:=xs.length) hlt
   have h6 : offBox xs (i + 1) = offBox xs i + 7 + ((xs.getD i z87).f3.f4.length : Int):=by rw [offBox]
   have e1 : (wrap64 ((q + offBox xs i) + 1)) = q + offBox xs i + 1:=by unfold wrap64;omega
   have e2 : (wrap64 ((wrap64 ((q + offBox xs i) + 1)) + 1)) = q + offBox xs i + 2:=by rw [e1];unfold wrap64;omega
   have e3 : (wrap64 ((wrap64 ((wrap64 ((q + offBox xs i) + 1)) + 1)) + 1)) = q + offBox xs i + 3:=by rw [e2];unfold wrap64;omega
   have e4 : (wrap64 ((wrap64 ((wrap64 ((wrap64 ((q + offBox xs i) + 1)) + 1)) + 1)) + 1)) = q + offBox xs i + 4:=by rw [e3];unfold wrap64;omega
   have e5 : (wrap64 ((wrap64 ((wrap64 ((wrap64 ((wrap64 ((q + offBox xs i) + 1)) + 1)) + 1)) + 1)) + 1)) = q + offBox xs i + 5:=by rw [e4];unfold wrap64;omega
   have e6 : (wrap64 ((wrap64 ((wrap64 ((wrap64 ((wrap64 ((wrap64 ((q + offBox xs i) + 1)) + 1)) + 1)) + 1)) + 1)) + 1)) = q + offBox xs i + 6:=by rw [e5];unfold wrap64;omega
   have e7 : (wrap64 ((wrap64 ((wrap64 ((wrap64 ((wrap64 ((wrap64 ((wrap64 ((q + offBox xs i) + 1)) + 1)) + 1)) + 1)) + 1)) + 1)) + 1)) = q + offBox xs i + 7:=by rw [e6];unfold wrap64;omega
   have hn : 0 ≤ (i : Int) ∧ (i : Int) < ((markBoxs q xs).length : Int):=by rw [markBoxs_len];omega
   have one:=heldByteS_ev (xs.getD i z87).f3.f4.length hy (q + offBox xs i + 7) (by omega) (by omega)
   have hw : wrap64 ((i : Int) + 1) = ((i + 1 : Nat) : Int):=by rw [w64 (by omega) (by omega)];rfl
   have ht : q + offBox xs i + 7 + ((xs.getD i z87).f3.f4.length : Int) = q + offBox xs (i + 1):=by rw [h6];omega
   refine Ev.step (fun k => by simp only [laws_heldBoxS.l0];rw [if_pos hn.2,if_pos hn.1,e7,e6,e5,e4,e3,e2,e1,hr];simp only [mkBox,tm,bne_self_eq_false,Bool.false_eq_true, ↓reduceIte];try rfl) (Ev.bind one ?_)
   simp only [hw,ht]
   exact ev_neg (by omega) (ih (i + 1) (by omega))
 refine Ev.congr (fun k => by unfold laws_heldBoxS.f;rfl) (by have:=loop xs.length 0 (by omega);simpa [offBox] using this)
theorem heldEventS_ev (xs : List S56) (q : Int) (hq : 0 ≤ q) (hb : q + offEvent xs xs.length ≤ 50000000) (hl : xs.length ≤ 10000000) (hd : ∀ x ∈ xs,x.f3.f4.length ≤ 10000000) : Ev (fun k => laws_heldEventS.f k (markEvents q xs) q) (q + offEvent xs xs.length):=by
 have loop : ∀ (d i : Nat),i + d = xs.length → Ev (fun k => laws_heldEventS.l0 k (markEvents q xs) (q + offEvent xs i) (i : Int)) (q + offEvent xs xs.length):=by
  intro d
  induction d with
  | zero =>
   intro i hi
   refine Ev.step (f:=fun _ => some (q + offEvent xs xs.length)) (fun k => ?_) (Ev.now _)
   simp only [laws_heldEventS.l0]
   rw [if_neg (by rw [markEvents_len];omega),show i = xs.length by omega]
  | succ d ih =>
   intro i hi
   have hlt : i < xs.length:=by omega
   have hr : rd_T56 (markEvents q xs) (i : Int) = mkEvent (q + offEvent xs i) (xs.getD i z56):=by
    unfold rd_T56
    rw [Int.toNat_natCast,List.getD_eq_getElem?_getD,markEvents_get q xs i hlt];rfl
   have hy : (xs.getD i z56).f3.f4.length ≤ 10000000:=by
    refine hd _ (List.mem_of_getElem? (i:=i) ?_)
    rw [List.getD_eq_getElem?_getD,List.getElem?_eq_getElem hlt];rfl
   have h4:=offEvent_nn xs i
   have h5:=offEvent_le xs (i:=i + 1) (n:=xs.length) hlt
   have h6 : offEvent xs (i + 1) = offEvent xs i + 7 + ((xs.getD i z56).f3.f4.length : Int):=by rw [offEvent]
   have e1 : (wrap64 ((q + offEvent xs i) + 1)) = q + offEvent xs i + 1:=by unfold wrap64;omega
   have e2 : (wrap64 ((wrap64 ((q + offEvent xs i) + 1)) + 1)) = q + offEvent xs i + 2:=by rw [e1];unfold wrap64;omega
   have e3 : (wrap64 ((wrap64 ((wrap64 ((q + offEvent xs i) + 1)) + 1)) + 1)) = q + offEvent xs i + 3:=by rw [e2];unfold wrap64;omega
   have e4 : (wrap64 ((wrap64 ((wrap64 ((wrap64 ((q + offEvent xs i) + 1)) + 1)) + 1)) + 1)) = q + offEvent xs i + 4:=by rw [e3];unfold wrap64;omega
   have e5 : (wrap64 ((wrap64 ((wrap64 ((wrap64 ((wrap64 ((q + offEvent xs i) + 1)) + 1)) + 1)) + 1)) + 1)) = q + offEvent xs i + 5:=by rw [e4];unfold wrap64;omega
   have e6 : (wrap64 ((wrap64 ((wrap64 ((wrap64 ((wrap64 ((wrap64 ((q + offEvent xs i) + 1)) + 1)) + 1)) + 1)) + 1)) + 1)) = q + offEvent xs i + 6:=by rw [e5];unfold wrap64;omega
   have e7 : (wrap64 ((wrap64 ((wrap64 ((wrap64 ((wrap64 ((wrap64 ((wrap64 ((q + offEvent xs i) + 1)) + 1)) + 1)) + 1)) + 1)) + 1)) + 1)) = q + offEvent xs i + 7:=by rw [e6];unfold wrap64;omega
   have hn : 0 ≤ (i : Int) ∧ (i : Int) < ((markEvents q xs).length : Int):=by rw [markEvents_len];omega
   have one:=heldByteS_ev (xs.getD i z56).f3.f4.length hy (q + offEvent xs i + 7) (by omega) (by omega)
   have hw : wrap64 ((i : Int) + 1) = ((i + 1 : Nat) : Int):=by rw [w64 (by omega) (by omega)];rfl
   have ht : q + offEvent xs i + 7 + ((xs.getD i z56).f3.f4.length : Int) = q + offEvent xs (i + 1):=by rw [h6];omega
   refine Ev.step (fun k => by simp only [laws_heldEventS.l0];rw [if_pos hn.2,if_pos hn.1,e7,e6,e5,e4,e3,e2,e1,hr];simp only [mkEvent,tm,bne_self_eq_false,Bool.false_eq_true, ↓reduceIte];try rfl) (Ev.bind one ?_)
   simp only [hw,ht]
   exact ev_neg (by omega) (ih (i + 1) (by omega))
 refine Ev.congr (fun k => by unfold laws_heldEventS.f;rfl) (by have:=loop xs.length 0 (by omega);simpa [offEvent] using this)
theorem heldFrameS_ev (xs : List S45) (q : Int) (hq : 0 ≤ q) (hb : q + offFrame xs xs.length ≤ 50000000) (hl : xs.length ≤ 10000000) (hd : ∀ x ∈ xs,x.f4.length ≤ 10000000) : Ev (fun k => laws_heldFrameS.f k (markFrames q xs) q) (q + offFrame xs xs.length):=by
 have loop : ∀ (d i : Nat),i + d = xs.length → Ev (fun k => laws_heldFrameS.l0 k (markFrames q xs) (q + offFrame xs i) (i : Int)) (q + offFrame xs xs.length):=by
  intro d
  induction d with
  | zero =>
   intro i hi
   refine Ev.step (f:=fun _ => some (q + offFrame xs xs.length)) (fun k => ?_) (Ev.now _)
   simp only [laws_heldFrameS.l0]
   rw [if_neg (by rw [markFrames_len];omega),show i = xs.length by omega]
  | succ d ih =>
   intro i hi
   have hlt : i < xs.length:=by omega
   have hr : rd_T45 (markFrames q xs) (i : Int) = mkFrame (q + offFrame xs i) (xs.getD i z45):=by
    unfold rd_T45
    rw [Int.toNat_natCast,List.getD_eq_getElem?_getD,markFrames_get q xs i hlt];rfl
   have hy : (xs.getD i z45).f4.length ≤ 10000000:=by
    refine hd _ (List.mem_of_getElem? (i:=i) ?_)
    rw [List.getD_eq_getElem?_getD,List.getElem?_eq_getElem hlt];rfl
   have h4:=offFrame_nn xs i
   have h5:=offFrame_le xs (i:=i + 1) (n:=xs.length) hlt
   have h6 : offFrame xs (i + 1) = offFrame xs i + 4 + ((xs.getD i z45).f4.length : Int):=by rw [offFrame]
   have e1 : (wrap64 ((q + offFrame xs i) + 1)) = q + offFrame xs i + 1:=by unfold wrap64;omega
   have e2 : (wrap64 ((wrap64 ((q + offFrame xs i) + 1)) + 1)) = q + offFrame xs i + 2:=by rw [e1];unfold wrap64;omega
   have e3 : (wrap64 ((wrap64 ((wrap64 ((q + offFrame xs i) + 1)) + 1)) + 1)) = q + offFrame xs i + 3:=by rw [e2];unfold wrap64;omega
   have e4 : (wrap64 ((wrap64 ((wrap64 ((wrap64 ((q + offFrame xs i) + 1)) + 1)) + 1)) + 1)) = q + offFrame xs i + 4:=by rw [e3];unfold wrap64;omega
   have hn : 0 ≤ (i : Int) ∧ (i : Int) < ((markFrames q xs).length : Int):=by rw [markFrames_len];omega
   have one:=heldByteS_ev (xs.getD i z45).f4.length hy (q + offFrame xs i + 4) (by omega) (by omega)
   have hw : wrap64 ((i : Int) + 1) = ((i + 1 : Nat) : Int):=by rw [w64 (by omega) (by omega)];rfl
   have ht : q + offFrame xs i + 4 + ((xs.getD i z45).f4.length : Int) = q + offFrame xs (i + 1):=by rw [h6];omega
   refine Ev.step (fun k => by simp only [laws_heldFrameS.l0];rw [if_pos hn.2,if_pos hn.1,e4,e3,e2,e1,hr];simp only [mkFrame,tm,bne_self_eq_false,Bool.false_eq_true, ↓reduceIte];try rfl) (Ev.bind one ?_)
   simp only [hw,ht]
   exact ev_neg (by omega) (ih (i + 1) (by omega))
 refine Ev.congr (fun k => by unfold laws_heldFrameS.f;rfl) (by have:=loop xs.length 0 (by omega);simpa [offFrame] using this)
def mkFilter (k : Int) : S89:=⟨tm k,(k + 1) % 4294967296,(k + 2) % 4294967296⟩
def markFilters (q : Int) (n : Nat) : List S89:=(List.range n).map (fun i : Nat => mkFilter (q + 3 * (i : Int)))
theorem markFilters_len (q : Int) (n : Nat) : (markFilters q n).length = n:=by simp [markFilters]
theorem markFilters_get (q : Int) (n i : Nat) (hi : i < n) : (markFilters q n)[i]? = some (mkFilter (q + 3 * (i : Int))):=by
 simp [markFilters,List.getElem?_range,hi]
theorem heldFilterS_ev (n : Nat) (q : Int) (hq : 0 ≤ q) (hb : q + 3 * (n : Int) ≤ 50000000) : Ev (fun k => laws_heldFilterS.f k (markFilters q n) q) (q + 3 * (n : Int)):=by
 have loop : ∀ (d i : Nat),i + d = n → Ev (fun k => laws_heldFilterS.l0 k (markFilters q n) (q + 3 * (i : Int)) (i : Int)) (q + 3 * (n : Int)):=by
  intro d
  induction d with
  | zero =>
   intro i hi
   refine Ev.step (f:=fun _ => some (q + 3 * (n : Int))) (fun k => ?_) (Ev.now _)
   simp only [laws_heldFilterS.l0]
   rw [if_neg (by rw [markFilters_len];omega),show i = n by omega]
  | succ d ih =>
   intro i hi
   have hlt : i < n:=by omega
   have hr : rd_T89 (markFilters q n) (i : Int) = mkFilter (q + 3 * (i : Int)):=by
    unfold rd_T89
    rw [Int.toNat_natCast,List.getD_eq_getElem?_getD,markFilters_get q n i hlt];rfl
   have e1 : wrap64 (q + 3 * (i : Int) + 1) = q + 3 * (i : Int) + 1:=by unfold wrap64;omega
   have e2 : wrap64 (wrap64 (q + 3 * (i : Int) + 1) + 1) = q + 3 * (i : Int) + 2:=by rw [e1];unfold wrap64;omega
   have e3 : wrap64 (wrap64 (wrap64 (q + 3 * (i : Int) + 1) + 1) + 1) = q + 3 * ((i + 1 : Nat) : Int):=by rw [e2];unfold wrap64;omega
   have hw : wrap64 ((i : Int) + 1) = ((i + 1 : Nat) : Int):=by rw [w64 (by omega) (by omega)];rfl
   refine Ev.step (fun k => by simp only [laws_heldFilterS.l0];rw [if_pos (by rw [markFilters_len];omega),if_pos (by omega),e3,e2,e1,hr];simp only [mkFilter,tm,bne_self_eq_false,Bool.false_eq_true, ↓reduceIte];rw [hw];try rfl) (ih (i + 1) (by omega))
 refine Ev.congr (fun k => by unfold laws_heldFilterS.f;rfl) (by have:=loop n 0 (by omega);simpa using this)
theorem markFilterS_ev (l : List S89) (q : Int) (hq : 0 ≤ q) (hb : q + 3 * (l.length : Int) ≤ 50000000) : Ev (fun k => laws_markFilterS.f k l q) (q + 3 * (l.length : Int),markFilters q l.length):=by
 have loop : ∀ (d i : Nat) (ys : List S89),i + d = l.length → Mk (markFilters q l.length) l i ys → Ev (fun k => laws_markFilterS.l0 k ys (q + 3 * (i : Int)) (i : Int)) (q + 3 * (l.length : Int),markFilters q l.length):=by
  intro d
  induction d with
  | zero =>
   intro i ys hi hy
   refine Ev.step (f:=fun _ => some (q + 3 * (l.length : Int),markFilters q l.length)) (fun k => ?_) (Ev.now _)
   simp only [laws_markFilterS.l0]
   rw [if_neg (by rw [hy.len];omega),show i = l.length by omega,hy.all (by omega)]
  | succ d ih =>
   intro i ys hi hy
   have hlt : i < l.length:=by omega
   have hyl : i < ys.length:=by rw [hy.len];exact hlt
   have e1 : wrap64 (q + 3 * (i : Int) + 1) = q + 3 * (i : Int) + 1:=by unfold wrap64;omega
   have e2 : wrap64 (wrap64 (q + 3 * (i : Int) + 1) + 1) = q + 3 * (i : Int) + 2:=by rw [e1];unfold wrap64;omega
   have e3 : wrap64 (wrap64 (wrap64 (q + 3 * (i : Int) + 1) + 1) + 1) = q + 3 * ((i + 1 : Nat) : Int):=by rw [e2];unfold wrap64;omega
   have hw : wrap64 ((i : Int) + 1) = ((i + 1 : Nat) : Int):=by rw [w64 (by omega) (by omega)];rfl
   have hs : ∀ v,rd_T89 (ys.set i v) (i : Int) = v:=fun v => by unfold rd_T89;rw [Int.toNat_natCast];exact getD_set ys i v _ hyl
   refine Ev.step (f:=fun k => laws_markFilterS.l0 k (ys.set i (mkFilter (q + 3 * (i : Int)))) (q + 3 * ((i + 1 : Nat) : Int)) ((i + 1 : Nat) : Int)) (fun k => ?_) (ih (i + 1) _ (by omega) (hy.next hlt (markFilters_get q _ i hlt)))
   simp only [laws_markFilterS.l0]
   rw [if_pos (by omega),if_pos (by omega)]
   simp only [Option.bind_some,Int.toNat_natCast]
   rw [e3,e2,e1,hw]
   simp only [hs,List.set_set]
   rfl
 refine Ev.congr (fun k => by unfold laws_markFilterS.f;rfl) (by have:=loop l.length 0 l (by omega) (Mk.start (by rw [markFilters_len]));simpa using this)
theorem markFilterS_v (w0 w : World) (P0 : Nat → Prop) (v : Value) (l : List S89) (q : Int) (hB : Below w0.heap.size w0 w) (hr : (k89).R 89 w w0.heap.size P0 v l) (hq : 0 ≤ q) (hb : q + 3 * (l.length : Int) ≤ 50000000) :
  Calls Try.prog 21 #[v, .int .i64 q] w fun e w' => e = .returned (.int .i64 (q + 3 * (l.length : Int))) ∧ (k89).R 89 w' w0.heap.size P0 v (markFilters q l.length) ∧ Below w0.heap.size w0 w' ∧ Tch w w' P0:=by
 obtain ⟨k,hk⟩:=(markFilterS_ev l q hq hb).rounds
 refine (laws_markFilterS.calls k (fun k => some k = v.ownBlock) v l q _ _ w0 w hB (Kd.R_tight rfl hr) hk).mono ?_
 rintro e w' ⟨rfl,h2,h3,h4⟩
 exact ⟨rfl,Kd.R_mono (Kd.R_tight rfl h2) (fun k hk => R_own_ok hr hk.symm),h3,h3.os.trans hB.os.symm,h3.tape.trans hB.tape.symm,h3.output.trans hB.output.symm,h4.mono (fun k hk => R_own_ok hr hk.symm)⟩
def cnt1 (h : HV) (q : Int) : Int:=q + 3 * (h.fs.length : Int)
def cnt2 (h : HV) (q : Int) : Int:=cnt1 h q + offBox h.bs h.bs.length
def cnt3 (h : HV) (q : Int) : Int:=cnt2 h q + offFrame h.fr h.fr.length
def cnt4 (h : HV) (q : Int) : Int:=cnt3 h q + offEvent h.ev h.ev.length
def markHV (q : Int) (h : HV) : HV := { h with fs:=markFilters q h.fs.length,bs:=markBoxs (cnt1 h q) h.bs,fr:=markFrames (cnt2 h q) h.fr,ev:=markEvents (cnt3 h q) h.ev }
structure HMarks (q : Int) (h : HV) : Prop where
 q0 : 0 ≤ q
 top : cnt4 h q ≤ 50000000
 l2 : h.bs.length ≤ 10000000
 l3 : h.fr.length ≤ 10000000
 l4 : h.ev.length ≤ 10000000
 d2 : ∀ y ∈ h.bs,y.f3.f4.length ≤ 10000000
 d3 : ∀ y ∈ h.fr,y.f4.length ≤ 10000000
 d4 : ∀ y ∈ h.ev,y.f3.f4.length ≤ 10000000
theorem HMarks.steps {q : Int} {h : HV} (H : HMarks q h) : 0 ≤ cnt1 h q ∧ 0 ≤ cnt2 h q ∧ 0 ≤ cnt3 h q ∧ cnt1 h q ≤ 50000000 ∧ cnt2 h q ≤ 50000000 ∧ cnt3 h q ≤ 50000000:=by
 have h0:=H.q0
 have h1:=H.top
 have h2:=offBox_nn h.bs h.bs.length
 have h3:=offFrame_nn h.fr h.fr.length
 have h4:=offEvent_nn h.ev h.ev.length
 unfold cnt4 cnt3 cnt2 cnt1 at *
 omega
theorem heldHost_ev (h : HV) (q : Int) (H : HMarks q h) : Ev (fun k => laws_heldHost.f k h.cb h.cf h.cp h.ce (markHV q h).fs (markHV q h).bs (markHV q h).fr (markHV q h).ev h.lost h.stamp q) (cnt4 h q):=by
 obtain ⟨a1,a2,a3,a4,a5,a6⟩:=H.steps
 unfold laws_heldHost.f
 refine Ev.bind (heldFilterS_ev h.fs.length q H.q0 a4) (ev_neg (by show ¬ cnt1 h q < 0;omega) ?_)
 refine Ev.bind (heldBoxS_ev h.bs (cnt1 h q) a1 a5 H.l2 H.d2) (ev_neg (by show ¬ cnt2 h q < 0;omega) ?_)
 refine Ev.bind (heldFrameS_ev h.fr (cnt2 h q) a2 a6 H.l3 H.d3) (ev_neg (by show ¬ cnt3 h q < 0;omega) ?_)
 refine Ev.bind (heldEventS_ev h.ev (cnt3 h q) a3 H.top H.l4 H.d4) (ev_neg (by show ¬ cnt4 h q < 0;have:=offEvent_nn h.ev h.ev.length;unfold cnt4;omega) ?_)
 exact Ev.now _
section
variable {w w1 : World} {base : Nat} {ok : Nat → Prop} {o : Nat → Nat} {h : HV} {vf vb vq ve : Value}
theorem HRows.upF {l : List S89} (H : HRows w base ok o h vf vb vq ve) (hT : Tch w w1 (fun k => ok k ∧ o k = 0)) (hr : (k89).R 89 w1 base (fun k => ok k ∧ o k = 0) vf l) : HRows w1 base ok o { h with fs:=l } vf vb vq ve :=
 ⟨hr,Kd.S_step H.b (fun k hk hl => hT.block hl (fun e => by have h1:=hk.2;have h2:=e.2;omega)),Kd.S_step H.q (fun k hk hl => hT.block hl (fun e => by have h1:=hk.2;have h2:=e.2;omega)),Kd.S_step H.e (fun k hk hl => hT.block hl (fun e => by have h1:=hk.2;have h2:=e.2;omega))⟩
theorem HRows.upB {l : List S87} (H : HRows w base ok o h vf vb vq ve) (hT : Tch w w1 (fun k => ok k ∧ o k = 1)) (hr : Kd.S k87 87 w1 base (fun k => ok k ∧ o k = 1) vb l) : HRows w1 base ok o { h with bs:=l } vf vb vq ve :=
 ⟨Kd.R_step H.f (fun k hk hl => hT.block hl (fun e => by have h1:=hk.2;have h2:=e.2;omega)),hr,Kd.S_step H.q (fun k hk hl => hT.block hl (fun e => by have h1:=hk.2;have h2:=e.2;omega)),Kd.S_step H.e (fun k hk hl => hT.block hl (fun e => by have h1:=hk.2;have h2:=e.2;omega))⟩
theorem HRows.upQ {l : List S45} (H : HRows w base ok o h vf vb vq ve) (hT : Tch w w1 (fun k => ok k ∧ o k = 2)) (hr : Kd.S k45 45 w1 base (fun k => ok k ∧ o k = 2) vq l) : HRows w1 base ok o { h with fr:=l } vf vb vq ve :=
 ⟨Kd.R_step H.f (fun k hk hl => hT.block hl (fun e => by have h1:=hk.2;have h2:=e.2;omega)),Kd.S_step H.b (fun k hk hl => hT.block hl (fun e => by have h1:=hk.2;have h2:=e.2;omega)),hr,Kd.S_step H.e (fun k hk hl => hT.block hl (fun e => by have h1:=hk.2;have h2:=e.2;omega))⟩
theorem HRows.upE {l : List S56} (H : HRows w base ok o h vf vb vq ve) (hT : Tch w w1 (fun k => ok k ∧ o k = 3)) (hr : Kd.S k56 56 w1 base (fun k => ok k ∧ o k = 3) ve l) : HRows w1 base ok o { h with ev:=l } vf vb vq ve :=
 ⟨Kd.R_step H.f (fun k hk hl => hT.block hl (fun e => by have h1:=hk.2;have h2:=e.2;omega)),Kd.S_step H.b (fun k hk hl => hT.block hl (fun e => by have h1:=hk.2;have h2:=e.2;omega)),Kd.S_step H.q (fun k hk hl => hT.block hl (fun e => by have h1:=hk.2;have h2:=e.2;omega)),hr⟩
end
set_option maxRecDepth 100000 in
set_option maxHeartbeats 4000000 in
theorem markHost_in (w0 w : World) (ok : Nat → Prop) (h : HV) (C : List Value) (q : Int) (hB : Below w0.heap.size w0 w) (hO : HOwn w w0.heap.size ok h C) (hin : ∀ k,ok k → k < w.heap.size) (hM : HMarks q h) :
  Calls Try.prog 22 #[.agg ⟨C⟩, .int .i64 q] w fun e w' => e = .returned (.int .i64 (cnt4 h q)) ∧ HOwn w' w0.heap.size ok (markHV q h) C ∧ Below w0.heap.size w0 w' ∧ Tch w w' ok:=by
 obtain ⟨vf,vb,vq,ve,o,rfl,hR⟩:=hO
 obtain ⟨a1,a2,a3,a4,a5,a6⟩:=hM.steps
 have HR:=Lib.hid hR
 have HB:=Lib.hid hB
 have HM:=Lib.hid hM
 have HIN:=Lib.hid hin
 have A1:=Lib.hid a1
 have A2:=Lib.hid a2
 have A3:=Lib.hid a3
 have A4:=Lib.hid a4
 have A5:=Lib.hid a5
 have A6:=Lib.hid a6
 clear hR hB hM a1 a2 a3 a4 a5 a6 hin
 go_enter Try.func22,Try.ntmps22
 go_upto_region 1 with (first | ((with_reducible refine gate_dst (N:=2) rfl ?_);refine box_event ?hg (N:=2) ?hd (cs:=⟨hostC h vf vb vq ve⟩) (t:=32) ?hr ?_;(case hd => rfl);(case hg => rfl);(case hr => first | (go_simp;done) | (go_simp;rfl));intro g hg w1 hbox hb;have HX1:=Lib.hid hbox;have HG:=Lib.hid hg;have HE1:=Lib.hid hb;have HR1:=Lib.hid (HR.out.below hb);have HB1:=Lib.hid (below_then HB.out HB.out.size hb);have HT1 : Hid (Tch w w1 ok):=Lib.hid (Tch.of_below ok hb);clear hbox hb hg))
 have x4 : w1.cell? ⟨g,4,none⟩ = some vf:=blk_cell HX1.out 4
 go_upto_region 2 with (first | (go_at_call 21;refine (markFilterS_v w0 w1 _ vf h.fs q HB1.out HR1.out.f HM.out.q0 A4.out).mono ?_;rintro e w2 ⟨rfl,hr,hb,hT⟩;have HR2:=Lib.hid (HR1.out.upF hT hr);have HB2:=Lib.hid hb;have HT2:=Lib.hid (HT1.out.trans (hT.mono (fun k hk => hk.1)));have HX2:=Lib.hid (hT.blk HX1.out (fun e => by have h1:=HIN.out _ e.1;have h2:=HG.out;omega));clear hr hb hT))
 clear x4
 have x5 : w2.cell? ⟨g,5,none⟩ = some vb:=blk_cell HX2.out 5
 go_upto_region 3 with (first | (go_at_call 69;refine (markBoxs_v w0 w2 _ vb h.bs (cnt1 h q) HB2.out HR2.out.b A1.out A5.out HM.out.l2 HM.out.d2).mono ?_;rintro e w3 ⟨rfl,hr,hb,hT⟩;have HR3:=Lib.hid (HR2.out.upB hT hr);have HB3:=Lib.hid hb;have HT3:=Lib.hid (HT2.out.trans (hT.mono (fun k hk => hk.1)));have HX3:=Lib.hid (hT.blk HX2.out (fun e => by have h1:=HIN.out _ e.1;have h2:=HG.out;omega));clear hr hb hT))
 clear x5
 have x6 : w3.cell? ⟨g,6,none⟩ = some vq:=blk_cell HX3.out 6
 go_upto_region 4 with (first | (go_at_call 70;refine (markFrames_v w0 w3 _ vq h.fr (cnt2 h q) HB3.out HR3.out.q A2.out A6.out HM.out.l3 HM.out.d3).mono ?_;rintro e w4 ⟨rfl,hr,hb,hT⟩;have HR4:=Lib.hid (HR3.out.upQ hT hr);have HB4:=Lib.hid hb;have HT4:=Lib.hid (HT3.out.trans (hT.mono (fun k hk => hk.1)));have HX4:=Lib.hid (hT.blk HX3.out (fun e => by have h1:=HIN.out _ e.1;have h2:=HG.out;omega));clear hr hb hT))
 clear x6
 have x7 : w4.cell? ⟨g,7,none⟩ = some ve:=blk_cell HX4.out 7
 go_upto_region 5 with (first | (go_at_call 47;refine (markEvents_v w0 w4 _ ve h.ev (cnt3 h q) HB4.out HR4.out.e A3.out HM.out.top HM.out.l4 HM.out.d4).mono ?_;rintro e w5 ⟨rfl,hr,hb,hT⟩;have HR5:=Lib.hid (HR4.out.upE hT hr);have HB5:=Lib.hid hb;have HT5:=Lib.hid (HT4.out.trans (hT.mono (fun k hk => hk.1)));have HX5:=Lib.hid (hT.blk HX4.out (fun e => by have h1:=HIN.out _ e.1;have h2:=HG.out;omega));clear hr hb hT))
 clear x7
 go_wp2_with (fail)
 go_ret
 exact ⟨rfl,⟨vf,vb,vq,ve,o,rfl,HR5.out⟩,HB5.out,HT5.out⟩
theorem markHost_v (w0 w : World) (ok : Nat → Prop) (h : HV) (C : List Value) (q : Int) (hB : Below w0.heap.size w0 w) (hO : HOwn w w0.heap.size ok h C) (hM : HMarks q h) :
  Calls Try.prog 22 #[.agg ⟨C⟩, .int .i64 q] w fun e w' => e = .returned (.int .i64 (cnt4 h q)) ∧ HOwn w' w0.heap.size ok (markHV q h) C ∧ Below w0.heap.size w0 w' ∧ Tch w w' (fun k => ok k ∧ Mine w w0.heap.size k):=by
 refine (markHost_in w0 w _ h C q hB hO.bound (fun k hk => hk.2.2.1) hM).mono ?_
 rintro e w' ⟨rfl,h1,h2,h3⟩
 exact ⟨rfl,h1.mono (fun k hk => hk.1),h2,h3⟩
end Go.Proofs.Ytcaefabbcjlkdaa.P
namespace Go.Proofs.Ytcaefabbcjlkdaa.P
open Go.RowKit Go.Proofs.YtcaefabbcjlkdaaW.PrintWords Go.Proofs.YtcaefabbcjlkdaaW.PrintLast Go.Proofs.YtcaefabbcjlkdaaW.PrintMore
set_option linter.unusedVariables false
set_option linter.unusedSimpArgs false
def laws_szByteS.f (l0 : List Int) (a1 : Int) : Option (Int):=if (wrap64 (a1 - (l0.length : Int))) < 0 then (some (-1)) else (some (wrap64 (a1 - (l0.length : Int))))
def laws_toByteS.l0 : Nat → List Int → List Int → Int → Option (List Int)
 | 0,_,_,_ => none
 | k + 1,x0,x3,x4 => if x4 < (x0.length : Int) then (if 0 ≤ x4 then (if x4 < (x3.length : Int) then (laws_toByteS.l0 k x0 (x3.set (x4 : Int).toNat (rd x0 x4)) (wrap64 (x4 + 1))) else (none)) else (none)) else (some x3)
def laws_toByteS.f (k : Nat) (l0 : List Int) : Option (List Int):=if 0 ≤ (l0.length : Int) then (if ((l0.length : Int) : Int).toNat ≤ 281474976710656 then (laws_toByteS.l0 k l0 (List.replicate ((l0.length : Int) : Int).toNat 0) 0) else (none)) else (none)
def laws_eqByteS.l0 : Nat → List Int → List Int → Int → Option (Bool)
 | 0,_,_,_ => none
 | k + 1,x0,x1,x5 => if x5 < (x0.length : Int) then (if 0 ≤ x5 then (if x5 < (x1.length : Int) then (if (rd x0 x5) = (rd x1 x5) then (laws_eqByteS.l0 k x0 x1 (wrap64 (x5 + 1))) else (some false)) else (none)) else (none)) else (some true)
def laws_eqByteS.f (k : Nat) (l0 : List Int) (l1 : List Int) : Option (Bool):=if (l0.length : Int) = (l1.length : Int) then (laws_eqByteS.l0 k l0 l1 0) else (some false)
set_option maxHeartbeats 8000000 in
set_option maxRecDepth 100000 in
theorem laws_eqByteS.calls (k : Nat) (A0 : Option Addr) (c0 : Nat) (l0 : List Int) (A1 : Option Addr) (c1 : Nat) (l1 : List Int) (r : Bool) (w : World) (hr0 : Kd.C (Kd.int .u8) w A0 l0.length l0) (hc0 : l0.length ≤ c0) (hr1 : Kd.C (Kd.int .u8) w A1 l1.length l1) (hc1 : l1.length ≤ c1) (h : laws_eqByteS.f k l0 l1 = some r) :
  Calls Try.prog 107 #[.slice A0 l0.length c0, .slice A1 l1.length c1] w fun e w' => e = .returned (.bool r) ∧ Drawn0 w w':=by
 have HR0:=Aside0.mk hr0
 have HC0:=Aside0.mk hc0
 clear hr0 hc0
 have HR1:=Aside0.mk hr1
 have HC1:=Aside0.mk hc1
 clear hr1 hc1
 have H : (if (l0.length : Int) = (l1.length : Int) then (laws_eqByteS.l0 k l0 l1 0) else (some false)) = some r:=h
 clear h
 by_cases c3 : (l0.length : Int) = (l1.length : Int)
 ·rw [if_pos c3] at H
  have c3b0 : ((l0.length : Int) == (l1.length : Int)) = true:=beq_iff_eq.mpr c3
  have c3b1 : ((l0.length : Int) != (l1.length : Int)) = false:=bne_eq_false_iff_eq.mpr c3
  have c3b2 : (l0.length == l1.length) = true:=by first | simpa using c3 | (simp at c3 ⊢;omega)
  clear c3
  have H':=Aside0.mk H
  clear H
  go_enter Try.func107,Try.ntmps107
  go_wp2
  repeat (go_quiet (fail);try go_wp2)
  go_loopg [5] k (fun kq v5 w' => ∃ (x5_1 : Int),v5 = .int .i64 x5_1 ∧ Aside0 (laws_eqByteS.l0 kq l0 l1 x5_1 = some r) ∧ Aside0 (kq ≤ k) ∧ Drawn0 w w')
  case atStart => exact ⟨(0),(by first | rfl | (simp;done) | (simp [*];done)),H',⟨Nat.le_refl _⟩,by repeat (first | exact Drawn0.refl _ | apply Drawn0.step)⟩
  case round =>
   clear H'
   try clear c1
   try clear p2
   try clear c3
   try clear c3b0
   try clear c3b1
   try clear c3b2
   obtain ⟨x5_1,rfl,HA,HK1,⟨m1,rfl⟩⟩:=hrel
   cases gk with
   | zero => exact absurd HA.out (by simp [laws_eqByteS.l0])
   | succ k1 =>
    have H:=HA.out
    clear HA
    simp only [laws_eqByteS.l0] at H
    by_cases c4 : x5_1 < (l0.length : Int)
    ·rw [if_pos c4] at H
     have c4b0 : decide (x5_1 < (l0.length : Int)) = true:=decide_eq_true c4
     clear c4
     by_cases c5 : 0 ≤ x5_1
     ·rw [if_pos c5] at H
      have c5b0 : decide (0 ≤ x5_1) = true:=decide_eq_true c5
      clear c5
      by_cases c6 : x5_1 < (l1.length : Int)
      ·rw [if_pos c6] at H
       have c6b0 : decide (x5_1 < (l1.length : Int)) = true:=decide_eq_true c6
       clear c6
       by_cases c7 : (rd l0 x5_1) = (rd l1 x5_1)
       ·rw [if_pos c7] at H
        have c7b0 : ((rd l0 x5_1) == (rd l1 x5_1)) = true:=beq_iff_eq.mpr c7
        have c7b1 : ((rd l0 x5_1) != (rd l1 x5_1)) = false:=bne_eq_false_iff_eq.mpr c7
        clear c7
        have H':=Aside0.mk H
        clear H
        have p629 : 0 ≤ (x5_1 : Int):=of_decide_eq_true (by first | (with_reducible assumption) | assumption)
        have q629 : x5_1 < (l0.length : Int):=of_decide_eq_true (by first | (with_reducible assumption) | assumption)
        obtain ⟨ad629,e629,hx629_0⟩:=Kd.at_int HR0.out x5_1 p629 q629
        cases e629
        replace p629:=eq_true p629
        replace q629:=eq_true q629
        have p630 : 0 ≤ (x5_1 : Int):=of_decide_eq_true (by first | (with_reducible assumption) | assumption)
        have q630 : x5_1 < (l1.length : Int):=of_decide_eq_true (by first | (with_reducible assumption) | assumption)
        obtain ⟨ad630,e630,hx630_0⟩:=Kd.at_int HR1.out x5_1 p630 q630
        cases e630
        replace p630:=eq_true p630
        replace q630:=eq_true q630
        go_wp2
        repeat (go_quiet (fail);try go_wp2)
        go_roundg k1
        case measure => have:=HK1.out;omega
        case rel => exact ⟨(wrap64 (x5_1 + 1)),(by first | rfl | (simp;done) | (simp [*];done)),H',⟨by have:=HK1.out;omega⟩,by repeat (first | exact Drawn0.refl _ | apply Drawn0.step)⟩
       ·rw [if_neg c7] at H
        have c7b0 : ((rd l0 x5_1) == (rd l1 x5_1)) = false:=beq_eq_false_iff_ne.mpr c7
        have c7b1 : ((rd l0 x5_1) != (rd l1 x5_1)) = true:=bne_iff_ne.mpr c7
        obtain rfl:=Option.some.inj H
        have p629 : 0 ≤ (x5_1 : Int):=of_decide_eq_true (by first | (with_reducible assumption) | assumption)
        have q629 : x5_1 < (l0.length : Int):=of_decide_eq_true (by first | (with_reducible assumption) | assumption)
        obtain ⟨ad629,e629,hx629_0⟩:=Kd.at_int HR0.out x5_1 p629 q629
        cases e629
        replace p629:=eq_true p629
        replace q629:=eq_true q629
        have p630 : 0 ≤ (x5_1 : Int):=of_decide_eq_true (by first | (with_reducible assumption) | assumption)
        have q630 : x5_1 < (l1.length : Int):=of_decide_eq_true (by first | (with_reducible assumption) | assumption)
        obtain ⟨ad630,e630,hx630_0⟩:=Kd.at_int HR1.out x5_1 p630 q630
        cases e630
        replace p630:=eq_true p630
        replace q630:=eq_true q630
        go_wp2
        repeat (go_quiet (fail);try go_wp2)
        go_ret
        exact ⟨by first | rfl | (simp;done) | (simp [*];done),by repeat (first | exact Drawn0.refl _ | apply Drawn0.step)⟩
      ·rw [if_neg c6] at H
       exact absurd H (by simp)
     ·rw [if_neg c5] at H
      exact absurd H (by simp)
    ·rw [if_neg c4] at H
     have c4b0 : decide (x5_1 < (l0.length : Int)) = false:=decide_eq_false c4
     clear c4
     obtain rfl:=Option.some.inj H
     go_wp2
     repeat (go_quiet (fail);try go_wp2)
     go_ret
     exact ⟨by first | rfl | (simp;done) | (simp [*];done),by repeat (first | exact Drawn0.refl _ | apply Drawn0.step)⟩
 ·rw [if_neg c3] at H
  have c3b0 : ((l0.length : Int) == (l1.length : Int)) = false:=beq_eq_false_iff_ne.mpr c3
  have c3b1 : ((l0.length : Int) != (l1.length : Int)) = true:=bne_iff_ne.mpr c3
  have c3b2 : (l0.length == l1.length) = false:=by first | simpa using c3 | (simp at c3 ⊢;omega)
  obtain rfl:=Option.some.inj H
  go_enter Try.func107,Try.ntmps107
  go_wp2
  repeat (go_quiet (fail);try go_wp2)
  go_ret
  exact ⟨by first | rfl | (simp;done) | (simp [*];done),by repeat (first | exact Drawn0.refl _ | apply Drawn0.step)⟩
end Go.Proofs.Ytcaefabbcjlkdaa.P
namespace Go.Proofs.Ytcaefabbcjlkdaa.P
open Go Go.RowKit Go.Proofs.YtcaefabbcjlkdaaW.PrintWords
set_option linter.unusedVariables false
theorem eqByteS_ev (l : List Int) (h : l.length ≤ 10000000) : Ev (fun k => laws_eqByteS.f k l l) true:=by
 have loop : ∀ (d i : Nat),i + d = l.length → Ev (fun k => laws_eqByteS.l0 k l l (i : Int)) true:=by
  intro d
  induction d with
  | zero =>
   intro i hi
   refine Ev.step (f:=fun _ => some true) (fun k => ?_) (Ev.now _)
   simp only [laws_eqByteS.l0]
   rw [if_neg (by omega)]
  | succ d ih =>
   intro i hi
   refine Ev.step (f:=fun k => laws_eqByteS.l0 k l l ((i + 1 : Nat) : Int)) (fun k => ?_) (ih (i + 1) (by omega))
   simp only [laws_eqByteS.l0]
   rw [if_pos (by omega),if_pos (by omega),if_pos (by omega),if_pos trivial,w64 (by omega) (by omega)]
   rfl
 refine Ev.congr (fun k => ?_) (loop l.length 0 (by omega))
 unfold laws_eqByteS.f
 rw [if_pos rfl]
 rfl
end Go.Proofs.Ytcaefabbcjlkdaa.P
namespace Go.Proofs.Ytcaefabbcjlkdaa.P
open Go.RowKit Go.Proofs.YtcaefabbcjlkdaaW.PrintWords Go.Proofs.YtcaefabbcjlkdaaW.PrintLast Go.Proofs.YtcaefabbcjlkdaaW.PrintMore
set_option linter.unusedVariables false
set_option linter.unusedSimpArgs false
def laws_szFrame.f (a0_0 : Bool) (a0_1 : Int) (a0_2 : Bool) (a0_3 : Int) (l0_4 : List Int) (a1 : Int) : Option (Int):=(laws_szByteS.f l0_4 a1).bind fun t659 => (if t659 < 0 then (some (-1)) else (some t659))
def laws_toFrame.f (k : Nat) (a0_0 : Bool) (a0_1 : Int) (a0_2 : Bool) (a0_3 : Int) (l0_4 : List Int) : Option (Bool × Int × Bool × Int × List Int):=(laws_toByteS.f k l0_4).bind fun t697 => (some (a0_0,a0_1,a0_2,a0_3,t697))
def laws_eqFrame.f (k : Nat) (a0_0 : Bool) (a0_1 : Int) (a0_2 : Bool) (a0_3 : Int) (l0_4 : List Int) (a1_0 : Bool) (a1_1 : Int) (a1_2 : Bool) (a1_3 : Int) (l1_4 : List Int) : Option (Bool):=if (a0_0 != a1_0) = true then (some false) else (if a0_1 = a1_1 then (if (a0_2 != a1_2) = true then (some false) else (if a0_3 = a1_3 then ((laws_eqByteS.f k l0_4 l1_4).bind fun t633 => (if t633 = true then (some true) else (some false))) else (some false))) else (some false))
set_option maxHeartbeats 8000000 in
set_option maxRecDepth 100000 in
theorem laws_eqFrame.calls (k : Nat) (a0_0 : Bool) (a0_1 : Int) (a0_2 : Bool) (a0_3 : Int) (A0_4 : Option Addr) (c0_4 : Nat) (l0_4 : List Int) (a1_0 : Bool) (a1_1 : Int) (a1_2 : Bool) (a1_3 : Int) (A1_4 : Option Addr) (c1_4 : Nat) (l1_4 : List Int) (r : Bool) (w : World) (hr0_4 : Kd.C (Kd.int .u8) w A0_4 l0_4.length l0_4) (hc0_4 : l0_4.length ≤ c0_4) (hr1_4 : Kd.C (Kd.int .u8) w A1_4 l1_4.length l1_4) (hc1_4 : l1_4.length ≤ c1_4) (h : laws_eqFrame.f k a0_0 a0_1 a0_2 a0_3 l0_4 a1_0 a1_1 a1_2 a1_3 l1_4 = some r) :
  Calls Try.prog 55 #[.agg #[.bool a0_0, .int .u32 a0_1, .bool a0_2, .int .i64 a0_3, .slice A0_4 l0_4.length c0_4], .agg #[.bool a1_0, .int .u32 a1_1, .bool a1_2, .int .i64 a1_3, .slice A1_4 l1_4.length c1_4]] w fun e w' => e = .returned (.bool r) ∧ Below w.heap.size w w':=by
 have hu45:=Try.underlying45
 have HR0_4:=Aside0.mk hr0_4
 have HC0_4:=Aside0.mk hc0_4
 clear hr0_4 hc0_4
 have HR1_4:=Aside0.mk hr1_4
 have HC1_4:=Aside0.mk hc1_4
 clear hr1_4 hc1_4
 have HB:=Aside0.mk (Below.refl w.heap.size w)
 have H : (if (a0_0 != a1_0) = true then (some false) else (if a0_1 = a1_1 then (if (a0_2 != a1_2) = true then (some false) else (if a0_3 = a1_3 then ((laws_eqByteS.f k l0_4 l1_4).bind fun t633 => (if t633 = true then (some true) else (some false))) else (some false))) else (some false))) = some r:=h
 clear h
 by_cases c3 : (a0_0 != a1_0) = true
 ·rw [if_pos c3] at H
  have c3b0 : (a0_0 != a1_0) = true:=c3
  (try (have c3b1 : decide (a0_0 = a1_0) = false:=by simpa using c3))
  (try (have c3b2 : (a0_0 == a1_0) = false:=by simpa using c3))
  (try (have c3b3 : ¬ (a0_0 = a1_0):=by simpa using c3))
  clear c3
  obtain rfl:=Option.some.inj H
  go_enter Try.func55,Try.ntmps55
  go_wp2_with (first | ((with_reducible refine gate_dst (N:=2) rfl ?_);refine box_event ?hg (N:=2) ?hd (cs := #[.bool a0_0, .int .u32 a0_1, .bool a0_2, .int .i64 a0_3, .slice A0_4 l0_4.length c0_4]) (t:=45) ?hr ?_;(case hd => rfl);(case hg => rfl);(case hr => first | (go_simp;done) | (go_simp;rfl));intro gb631 hg w4 hbox hb;have n0_:=Aside0.mk (below_step (by repeat (first | (with_reducible first | exact HB.out | apply below_alloc | apply pw_below_drewN | apply below_drew1) | exact HB.out)) hb);have n1_:=Aside0.mk (hbox);have n2_:=Aside0.mk ((by rw [hg];exact (below_size (by repeat (first | (with_reducible first | exact HB.out | apply below_alloc | apply pw_below_drewN | apply below_drew1) | exact HB.out))) : w.heap.size ≤ gb631));have n3_:=Aside0.mk ((by rw [hg];exact (below_size (by repeat (first | (with_reducible first | exact HB.out | apply below_alloc | apply pw_below_drewN | apply below_drew1) | exact HB.out))) : w.heap.size ≤ gb631));clear HB;have HB:=n0_;have BK631:=n1_;have GW631:=n2_;have GE631:=n3_;clear n0_ n1_ n2_ n3_;clear hb hbox hg) | ((with_reducible refine gate_dst (N:=3) rfl ?_);refine box_event ?hg (N:=3) ?hd (cs := #[.bool a1_0, .int .u32 a1_1, .bool a1_2, .int .i64 a1_3, .slice A1_4 l1_4.length c1_4]) (t:=45) ?hr ?_;(case hd => rfl);(case hg => rfl);(case hr => first | (go_simp;done) | (go_simp;rfl));intro gb632 hg w5 hbox hb;have n0_:=Aside0.mk (blk_below (g:=gb631) (o := .cells #[.bool a0_0, .int .u32 a0_1, .bool a0_2, .int .i64 a0_3, .slice A0_4 l0_4.length c0_4] 45 (0,0)) (by (with_reducible repeat (first | refine blk_drewN ?_ _ | refine blk_drew ?_ | refine blk_alloc ?_ _));exact BK631.out) hb);have n1_:=Aside0.mk (below_step (by repeat (first | (with_reducible first | exact HB.out | apply below_alloc | apply pw_below_drewN | apply below_drew1 | refine below_set ?_ GE631.out) | exact HB.out)) hb);have n2_:=Aside0.mk (hbox);have n3_:=Aside0.mk ((by rw [hg];exact (below_size (by repeat (first | (with_reducible first | exact HB.out | apply below_alloc | apply pw_below_drewN | apply below_drew1 | refine below_set ?_ GE631.out) | exact HB.out))) : w.heap.size ≤ gb632));have n4_:=Aside0.mk ((by rw [hg];exact (below_size (by repeat (first | (with_reducible first | exact HB.out | apply below_alloc | apply pw_below_drewN | apply below_drew1 | refine below_set ?_ GE631.out) | exact HB.out))) : w.heap.size ≤ gb632));have n5_:=Aside0.mk ((by rw [hg];exact Nat.ne_of_lt (blk_lt (g:=gb631) (o := .cells #[.bool a0_0, .int .u32 a0_1, .bool a0_2, .int .i64 a0_3, .slice A0_4 l0_4.length c0_4] 45 (0,0)) (by (with_reducible repeat (first | refine blk_drewN ?_ _ | refine blk_drew ?_ | refine blk_alloc ?_ _));exact BK631.out)) : gb631 ≠ gb632));have n6_:=Aside0.mk ((by rw [hg];exact Nat.ne_of_gt (blk_lt (g:=gb631) (o := .cells #[.bool a0_0, .int .u32 a0_1, .bool a0_2, .int .i64 a0_3, .slice A0_4 l0_4.length c0_4] 45 (0,0)) (by (with_reducible repeat (first | refine blk_drewN ?_ _ | refine blk_drew ?_ | refine blk_alloc ?_ _));exact BK631.out)) : gb632 ≠ gb631));clear BK631;clear HB;have BK631:=n0_;have HB:=n1_;have BK632:=n2_;have GW632:=n3_;have GE632:=n4_;have NB631_632:=n5_;have NB632_631:=n6_;clear n0_ n1_ n2_ n3_ n4_ n5_ n6_;clear hb hbox hg;have hnb6:=NB631_632.out;have hnc6:=NB632_631.out;obtain ⟨hcz7_0,hcz7_1,hcz7_2,hcz7_3,hcz7_4⟩:=bc5 BK631.out;obtain ⟨hfz7_0,hfz7_1,hfz7_2,hfz7_3,hfz7_4⟩:=bf5 BK631.out;obtain ⟨hcz8_0,hcz8_1,hcz8_2,hcz8_3,hcz8_4⟩:=bc5 BK632.out;obtain ⟨hfz8_0,hfz8_1,hfz8_2,hfz8_3,hfz8_4⟩:=bf5 BK632.out))
  go_ret
  exact ⟨by first | rfl | (simp [errW_none,errW_some] <;> rfl) | (simp [*,errW_none,errW_some] <;> rfl),by repeat (first | (with_reducible first | exact HB.out | apply below_alloc | apply pw_below_drewN | apply below_drew1 | refine below_set ?_ GE631.out | refine below_set ?_ GE632.out) | exact HB.out)⟩
 ·rw [if_neg c3] at H
  have c3b0 : (a0_0 != a1_0) = false:=by simpa using c3
  (try (have c3b1 : decide (a0_0 = a1_0) = true:=by simpa using c3))
  (try (have c3b2 : (a0_0 == a1_0) = true:=by simpa using c3))
  clear c3
  by_cases c9 : a0_1 = a1_1
  ·rw [if_pos c9] at H
   have c9b0 : (a0_1 == a1_1) = true:=beq_iff_eq.mpr c9
   have c9b1 : (a0_1 != a1_1) = false:=bne_eq_false_iff_eq.mpr c9
   clear c9
   by_cases c10 : (a0_2 != a1_2) = true
   ·rw [if_pos c10] at H
    have c10b0 : (a0_2 != a1_2) = true:=c10
    (try (have c10b1 : decide (a0_2 = a1_2) = false:=by simpa using c10))
    (try (have c10b2 : (a0_2 == a1_2) = false:=by simpa using c10))
    (try (have c10b3 : ¬ (a0_2 = a1_2):=by simpa using c10))
    clear c10
    obtain rfl:=Option.some.inj H
    go_enter Try.func55,Try.ntmps55
    go_wp2_with (first | ((with_reducible refine gate_dst (N:=2) rfl ?_);refine box_event ?hg (N:=2) ?hd (cs := #[.bool a0_0, .int .u32 a0_1, .bool a0_2, .int .i64 a0_3, .slice A0_4 l0_4.length c0_4]) (t:=45) ?hr ?_;(case hd => rfl);(case hg => rfl);(case hr => first | (go_simp;done) | (go_simp;rfl));intro gb631 hg w11 hbox hb;have n0_:=Aside0.mk (below_step (by repeat (first | (with_reducible first | exact HB.out | apply below_alloc | apply pw_below_drewN | apply below_drew1) | exact HB.out)) hb);have n1_:=Aside0.mk (hbox);have n2_:=Aside0.mk ((by rw [hg];exact (below_size (by repeat (first | (with_reducible first | exact HB.out | apply below_alloc | apply pw_below_drewN | apply below_drew1) | exact HB.out))) : w.heap.size ≤ gb631));have n3_:=Aside0.mk ((by rw [hg];exact (below_size (by repeat (first | (with_reducible first | exact HB.out | apply below_alloc | apply pw_below_drewN | apply below_drew1) | exact HB.out))) : w.heap.size ≤ gb631));clear HB;have HB:=n0_;have BK631:=n1_;have GW631:=n2_;have GE631:=n3_;clear n0_ n1_ n2_ n3_;clear hb hbox hg) | ((with_reducible refine gate_dst (N:=3) rfl ?_);refine box_event ?hg (N:=3) ?hd (cs := #[.bool a1_0, .int .u32 a1_1, .bool a1_2, .int .i64 a1_3, .slice A1_4 l1_4.length c1_4]) (t:=45) ?hr ?_;(case hd => rfl);(case hg => rfl);(case hr => first | (go_simp;done) | (go_simp;rfl));intro gb632 hg w12 hbox hb;have n0_:=Aside0.mk (blk_below (g:=gb631) (o := .cells #[.bool a0_0, .int .u32 a0_1, .bool a0_2, .int .i64 a0_3, .slice A0_4 l0_4.length c0_4] 45 (0,0)) (by (with_reducible repeat (first | refine blk_drewN ?_ _ | refine blk_drew ?_ | refine blk_alloc ?_ _));exact BK631.out) hb);have n1_:=Aside0.mk (below_step (by repeat (first | (with_reducible first | exact HB.out | apply below_alloc | apply pw_below_drewN | apply below_drew1 | refine below_set ?_ GE631.out) | exact HB.out)) hb);have n2_:=Aside0.mk (hbox);have n3_:=Aside0.mk ((by rw [hg];exact (below_size (by repeat (first | (with_reducible first | exact HB.out | apply below_alloc | apply pw_below_drewN | apply below_drew1 | refine below_set ?_ GE631.out) | exact HB.out))) : w.heap.size ≤ gb632));have n4_:=Aside0.mk ((by rw [hg];exact (below_size (by repeat (first | (with_reducible first | exact HB.out | apply below_alloc | apply pw_below_drewN | apply below_drew1 | refine below_set ?_ GE631.out) | exact HB.out))) : w.heap.size ≤ gb632));have n5_:=Aside0.mk ((by rw [hg];exact Nat.ne_of_lt (blk_lt (g:=gb631) (o := .cells #[.bool a0_0, .int .u32 a0_1, .bool a0_2, .int .i64 a0_3, .slice A0_4 l0_4.length c0_4] 45 (0,0)) (by (with_reducible repeat (first | refine blk_drewN ?_ _ | refine blk_drew ?_ | refine blk_alloc ?_ _));exact BK631.out)) : gb631 ≠ gb632));have n6_:=Aside0.mk ((by rw [hg];exact Nat.ne_of_gt (blk_lt (g:=gb631) (o := .cells #[.bool a0_0, .int .u32 a0_1, .bool a0_2, .int .i64 a0_3, .slice A0_4 l0_4.length c0_4] 45 (0,0)) (by (with_reducible repeat (first | refine blk_drewN ?_ _ | refine blk_drew ?_ | refine blk_alloc ?_ _));exact BK631.out)) : gb632 ≠ gb631));clear BK631;clear HB;have BK631:=n0_;have HB:=n1_;have BK632:=n2_;have GW632:=n3_;have GE632:=n4_;have NB631_632:=n5_;have NB632_631:=n6_;clear n0_ n1_ n2_ n3_ n4_ n5_ n6_;clear hb hbox hg;have hnb13:=NB631_632.out;have hnc13:=NB632_631.out;obtain ⟨hcz14_0,hcz14_1,hcz14_2,hcz14_3,hcz14_4⟩:=bc5 BK631.out;obtain ⟨hfz14_0,hfz14_1,hfz14_2,hfz14_3,hfz14_4⟩:=bf5 BK631.out;obtain ⟨hcz15_0,hcz15_1,hcz15_2,hcz15_3,hcz15_4⟩:=bc5 BK632.out;obtain ⟨hfz15_0,hfz15_1,hfz15_2,hfz15_3,hfz15_4⟩:=bf5 BK632.out))
    go_ret
    exact ⟨by first | rfl | (simp [errW_none,errW_some] <;> rfl) | (simp [*,errW_none,errW_some] <;> rfl),by repeat (first | (with_reducible first | exact HB.out | apply below_alloc | apply pw_below_drewN | apply below_drew1 | refine below_set ?_ GE631.out | refine below_set ?_ GE632.out) | exact HB.out)⟩
   ·rw [if_neg c10] at H
    have c10b0 : (a0_2 != a1_2) = false:=by simpa using c10
    (try (have c10b1 : decide (a0_2 = a1_2) = true:=by simpa using c10))
    (try (have c10b2 : (a0_2 == a1_2) = true:=by simpa using c10))
    clear c10
    by_cases c16 : a0_3 = a1_3
    ·rw [if_pos c16] at H
     have c16b0 : (a0_3 == a1_3) = true:=beq_iff_eq.mpr c16
     have c16b1 : (a0_3 != a1_3) = false:=bne_eq_false_iff_eq.mpr c16
     clear c16
     replace H:=Option.bind_eq_some_iff.mp H
     obtain ⟨t633,A170,H⟩:=H
     replace H : (if t633 = true then (some true) else (some false)) = some r:=H
     have A17:=Aside0.mk A170
     clear A170
     by_cases c18 : t633 = true
     ·subst c18
      have H1 : (some true) = some r:=by rw [if_pos rfl] at H;exact H
      clear H
      have H:=H1
      clear H1
      obtain rfl:=Option.some.inj H
      go_enter Try.func55,Try.ntmps55
      go_wp2_with (first | ((with_reducible refine gate_dst (N:=2) rfl ?_);refine box_event ?hg (N:=2) ?hd (cs := #[.bool a0_0, .int .u32 a0_1, .bool a0_2, .int .i64 a0_3, .slice A0_4 l0_4.length c0_4]) (t:=45) ?hr ?_;(case hd => rfl);(case hg => rfl);(case hr => first | (go_simp;done) | (go_simp;rfl));intro gb631 hg w19 hbox hb;have n0_:=Aside0.mk (below_step (by repeat (first | (with_reducible first | exact HB.out | apply below_alloc | apply pw_below_drewN | apply below_drew1) | exact HB.out)) hb);have n1_:=Aside0.mk (hbox);have n2_:=Aside0.mk ((by rw [hg];exact (below_size (by repeat (first | (with_reducible first | exact HB.out | apply below_alloc | apply pw_below_drewN | apply below_drew1) | exact HB.out))) : w.heap.size ≤ gb631));have n3_:=Aside0.mk ((by rw [hg];exact (below_size (by repeat (first | (with_reducible first | exact HB.out | apply below_alloc | apply pw_below_drewN | apply below_drew1) | exact HB.out))) : w.heap.size ≤ gb631));clear HB;have HB:=n0_;have BK631:=n1_;have GW631:=n2_;have GE631:=n3_;clear n0_ n1_ n2_ n3_;clear hb hbox hg) | ((with_reducible refine gate_dst (N:=3) rfl ?_);refine box_event ?hg (N:=3) ?hd (cs := #[.bool a1_0, .int .u32 a1_1, .bool a1_2, .int .i64 a1_3, .slice A1_4 l1_4.length c1_4]) (t:=45) ?hr ?_;(case hd => rfl);(case hg => rfl);(case hr => first | (go_simp;done) | (go_simp;rfl));intro gb632 hg w20 hbox hb;have n0_:=Aside0.mk (blk_below (g:=gb631) (o := .cells #[.bool a0_0, .int .u32 a0_1, .bool a0_2, .int .i64 a0_3, .slice A0_4 l0_4.length c0_4] 45 (0,0)) (by (with_reducible repeat (first | refine blk_drewN ?_ _ | refine blk_drew ?_ | refine blk_alloc ?_ _));exact BK631.out) hb);have n1_:=Aside0.mk (below_step (by repeat (first | (with_reducible first | exact HB.out | apply below_alloc | apply pw_below_drewN | apply below_drew1 | refine below_set ?_ GE631.out) | exact HB.out)) hb);have n2_:=Aside0.mk (hbox);have n3_:=Aside0.mk ((by rw [hg];exact (below_size (by repeat (first | (with_reducible first | exact HB.out | apply below_alloc | apply pw_below_drewN | apply below_drew1 | refine below_set ?_ GE631.out) | exact HB.out))) : w.heap.size ≤ gb632));have n4_:=Aside0.mk ((by rw [hg];exact (below_size (by repeat (first | (with_reducible first | exact HB.out | apply below_alloc | apply pw_below_drewN | apply below_drew1 | refine below_set ?_ GE631.out) | exact HB.out))) : w.heap.size ≤ gb632));have n5_:=Aside0.mk ((by rw [hg];exact Nat.ne_of_lt (blk_lt (g:=gb631) (o := .cells #[.bool a0_0, .int .u32 a0_1, .bool a0_2, .int .i64 a0_3, .slice A0_4 l0_4.length c0_4] 45 (0,0)) (by (with_reducible repeat (first | refine blk_drewN ?_ _ | refine blk_drew ?_ | refine blk_alloc ?_ _));exact BK631.out)) : gb631 ≠ gb632));have n6_:=Aside0.mk ((by rw [hg];exact Nat.ne_of_gt (blk_lt (g:=gb631) (o := .cells #[.bool a0_0, .int .u32 a0_1, .bool a0_2, .int .i64 a0_3, .slice A0_4 l0_4.length c0_4] 45 (0,0)) (by (with_reducible repeat (first | refine blk_drewN ?_ _ | refine blk_drew ?_ | refine blk_alloc ?_ _));exact BK631.out)) : gb632 ≠ gb631));clear BK631;clear HB;have BK631:=n0_;have HB:=n1_;have BK632:=n2_;have GW632:=n3_;have GE632:=n4_;have NB631_632:=n5_;have NB632_631:=n6_;clear n0_ n1_ n2_ n3_ n4_ n5_ n6_;clear hb hbox hg;have hnb21:=NB631_632.out;have hnc21:=NB632_631.out;obtain ⟨hcz22_0,hcz22_1,hcz22_2,hcz22_3,hcz22_4⟩:=bc5 BK631.out;obtain ⟨hfz22_0,hfz22_1,hfz22_2,hfz22_3,hfz22_4⟩:=bf5 BK631.out;obtain ⟨hcz23_0,hcz23_1,hcz23_2,hcz23_3,hcz23_4⟩:=bc5 BK632.out;obtain ⟨hfz23_0,hfz23_1,hfz23_2,hfz23_3,hfz23_4⟩:=bf5 BK632.out) | ((with_reducible refine gate_callee (f:=107) rfl ?_);refine goesL_ (some 29) rfl rfl Try.func107 (by kernel_rfl) rfl #[.slice A0_4 l0_4.length c0_4, .slice A1_4 l1_4.length c1_4] rfl (by (try simp only [List.map_toArray,List.map_cons,List.map_nil]);first | done | rfl | (simp only [List.length_drop,List.length_take];rfl)) ?_;(with_reducible refine (laws_eqByteS.calls k _ _ l0_4 _ _ l1_4 true _ ?side1 ?side2 ?side3 ?side4 A17.out).mono ?_);(case side1 => repeat (first | exact (Kd.C_below HR0_4.out HB.out) | (with_reducible refine Kd.C_alloc ?_ _) | (with_reducible refine Kd.C_drewN ?_ _) | (with_reducible refine Kd.C_drew ?_)));(case side2 => exact HC0_4.out);(case side3 => repeat (first | exact (Kd.C_below HR1_4.out HB.out) | (with_reducible refine Kd.C_alloc ?_ _) | (with_reducible refine Kd.C_drewN ?_ _) | (with_reducible refine Kd.C_drew ?_)));(case side4 => exact HC1_4.out);rintro e w' ⟨rfl,⟨nd,rfl⟩⟩;refine ⟨_,rfl, ?_⟩))
      go_ret
      exact ⟨by first | rfl | (simp [errW_none,errW_some] <;> rfl) | (simp [*,errW_none,errW_some] <;> rfl),by repeat (first | (with_reducible first | exact HB.out | apply below_alloc | apply pw_below_drewN | apply below_drew1 | refine below_set ?_ GE631.out | refine below_set ?_ GE632.out) | exact HB.out)⟩
     ·replace c18:=Bool.eq_false_iff.mpr c18
      subst c18
      have H1 : (some false) = some r:=by rw [if_neg (show ¬ (false = true) by decide)] at H;exact H
      clear H
      have H:=H1
      clear H1
      obtain rfl:=Option.some.inj H
      go_enter Try.func55,Try.ntmps55
      go_wp2_with (first | ((with_reducible refine gate_dst (N:=2) rfl ?_);refine box_event ?hg (N:=2) ?hd (cs := #[.bool a0_0, .int .u32 a0_1, .bool a0_2, .int .i64 a0_3, .slice A0_4 l0_4.length c0_4]) (t:=45) ?hr ?_;(case hd => rfl);(case hg => rfl);(case hr => first | (go_simp;done) | (go_simp;rfl));intro gb631 hg w24 hbox hb;have n0_:=Aside0.mk (below_step (by repeat (first | (with_reducible first | exact HB.out | apply below_alloc | apply pw_below_drewN | apply below_drew1) | exact HB.out)) hb);have n1_:=Aside0.mk (hbox);have n2_:=Aside0.mk ((by rw [hg];exact (below_size (by repeat (first | (with_reducible first | exact HB.out | apply below_alloc | apply pw_below_drewN | apply below_drew1) | exact HB.out))) : w.heap.size ≤ gb631));have n3_:=Aside0.mk ((by rw [hg];exact (below_size (by repeat (first | (with_reducible first | exact HB.out | apply below_alloc | apply pw_below_drewN | apply below_drew1) | exact HB.out))) : w.heap.size ≤ gb631));clear HB;have HB:=n0_;have BK631:=n1_;have GW631:=n2_;have GE631:=n3_;clear n0_ n1_ n2_ n3_;clear hb hbox hg) | ((with_reducible refine gate_dst (N:=3) rfl ?_);refine box_event ?hg (N:=3) ?hd (cs := #[.bool a1_0, .int .u32 a1_1, .bool a1_2, .int .i64 a1_3, .slice A1_4 l1_4.length c1_4]) (t:=45) ?hr ?_;(case hd => rfl);(case hg => rfl);(case hr => first | (go_simp;done) | (go_simp;rfl));intro gb632 hg w25 hbox hb;have n0_:=Aside0.mk (blk_below (g:=gb631) (o := .cells #[.bool a0_0, .int .u32 a0_1, .bool a0_2, .int .i64 a0_3, .slice A0_4 l0_4.length c0_4] 45 (0,0)) (by (with_reducible repeat (first | refine blk_drewN ?_ _ | refine blk_drew ?_ | refine blk_alloc ?_ _));exact BK631.out) hb);have n1_:=Aside0.mk (below_step (by repeat (first | (with_reducible first | exact HB.out | apply below_alloc | apply pw_below_drewN | apply below_drew1 | refine below_set ?_ GE631.out) | exact HB.out)) hb);have n2_:=Aside0.mk (hbox);have n3_:=Aside0.mk ((by rw [hg];exact (below_size (by repeat (first | (with_reducible first | exact HB.out | apply below_alloc | apply pw_below_drewN | apply below_drew1 | refine below_set ?_ GE631.out) | exact HB.out))) : w.heap.size ≤ gb632));have n4_:=Aside0.mk ((by rw [hg];exact (below_size (by repeat (first | (with_reducible first | exact HB.out | apply below_alloc | apply pw_below_drewN | apply below_drew1 | refine below_set ?_ GE631.out) | exact HB.out))) : w.heap.size ≤ gb632));have n5_:=Aside0.mk ((by rw [hg];exact Nat.ne_of_lt (blk_lt (g:=gb631) (o := .cells #[.bool a0_0, .int .u32 a0_1, .bool a0_2, .int .i64 a0_3, .slice A0_4 l0_4.length c0_4] 45 (0,0)) (by (with_reducible repeat (first | refine blk_drewN ?_ _ | refine blk_drew ?_ | refine blk_alloc ?_ _));exact BK631.out)) : gb631 ≠ gb632));have n6_:=Aside0.mk ((by rw [hg];exact Nat.ne_of_gt (blk_lt (g:=gb631) (o := .cells #[.bool a0_0, .int .u32 a0_1, .bool a0_2, .int .i64 a0_3, .slice A0_4 l0_4.length c0_4] 45 (0,0)) (by (with_reducible repeat (first | refine blk_drewN ?_ _ | refine blk_drew ?_ | refine blk_alloc ?_ _));exact BK631.out)) : gb632 ≠ gb631));clear BK631;clear HB;have BK631:=n0_;have HB:=n1_;have BK632:=n2_;have GW632:=n3_;have GE632:=n4_;have NB631_632:=n5_;have NB632_631:=n6_;clear n0_ n1_ n2_ n3_ n4_ n5_ n6_;clear hb hbox hg;have hnb26:=NB631_632.out;have hnc26:=NB632_631.out;obtain ⟨hcz27_0,hcz27_1,hcz27_2,hcz27_3,hcz27_4⟩:=bc5 BK631.out;obtain ⟨hfz27_0,hfz27_1,hfz27_2,hfz27_3,hfz27_4⟩:=bf5 BK631.out;obtain ⟨hcz28_0,hcz28_1,hcz28_2,hcz28_3,hcz28_4⟩:=bc5 BK632.out;obtain ⟨hfz28_0,hfz28_1,hfz28_2,hfz28_3,hfz28_4⟩:=bf5 BK632.out) | ((with_reducible refine gate_callee (f:=107) rfl ?_);refine goesL_ (some 29) rfl rfl Try.func107 (by kernel_rfl) rfl #[.slice A0_4 l0_4.length c0_4, .slice A1_4 l1_4.length c1_4] rfl (by (try simp only [List.map_toArray,List.map_cons,List.map_nil]);first | done | rfl | (simp only [List.length_drop,List.length_take];rfl)) ?_;(with_reducible refine (laws_eqByteS.calls k _ _ l0_4 _ _ l1_4 false _ ?side1 ?side2 ?side3 ?side4 A17.out).mono ?_);(case side1 => repeat (first | exact (Kd.C_below HR0_4.out HB.out) | (with_reducible refine Kd.C_alloc ?_ _) | (with_reducible refine Kd.C_drewN ?_ _) | (with_reducible refine Kd.C_drew ?_)));(case side2 => exact HC0_4.out);(case side3 => repeat (first | exact (Kd.C_below HR1_4.out HB.out) | (with_reducible refine Kd.C_alloc ?_ _) | (with_reducible refine Kd.C_drewN ?_ _) | (with_reducible refine Kd.C_drew ?_)));(case side4 => exact HC1_4.out);rintro e w' ⟨rfl,⟨nd,rfl⟩⟩;refine ⟨_,rfl, ?_⟩))
      go_ret
      exact ⟨by first | rfl | (simp [errW_none,errW_some] <;> rfl) | (simp [*,errW_none,errW_some] <;> rfl),by repeat (first | (with_reducible first | exact HB.out | apply below_alloc | apply pw_below_drewN | apply below_drew1 | refine below_set ?_ GE631.out | refine below_set ?_ GE632.out) | exact HB.out)⟩
    ·rw [if_neg c16] at H
     have c16b0 : (a0_3 == a1_3) = false:=beq_eq_false_iff_ne.mpr c16
     have c16b1 : (a0_3 != a1_3) = true:=bne_iff_ne.mpr c16
     obtain rfl:=Option.some.inj H
     go_enter Try.func55,Try.ntmps55
     go_wp2_with (first | ((with_reducible refine gate_dst (N:=2) rfl ?_);refine box_event ?hg (N:=2) ?hd (cs := #[.bool a0_0, .int .u32 a0_1, .bool a0_2, .int .i64 a0_3, .slice A0_4 l0_4.length c0_4]) (t:=45) ?hr ?_;(case hd => rfl);(case hg => rfl);(case hr => first | (go_simp;done) | (go_simp;rfl));intro gb631 hg w29 hbox hb;have n0_:=Aside0.mk (below_step (by repeat (first | (with_reducible first | exact HB.out | apply below_alloc | apply pw_below_drewN | apply below_drew1) | exact HB.out)) hb);have n1_:=Aside0.mk (hbox);have n2_:=Aside0.mk ((by rw [hg];exact (below_size (by repeat (first | (with_reducible first | exact HB.out | apply below_alloc | apply pw_below_drewN | apply below_drew1) | exact HB.out))) : w.heap.size ≤ gb631));have n3_:=Aside0.mk ((by rw [hg];exact (below_size (by repeat (first | (with_reducible first | exact HB.out | apply below_alloc | apply pw_below_drewN | apply below_drew1) | exact HB.out))) : w.heap.size ≤ gb631));clear HB;have HB:=n0_;have BK631:=n1_;have GW631:=n2_;have GE631:=n3_;clear n0_ n1_ n2_ n3_;clear hb hbox hg) | ((with_reducible refine gate_dst (N:=3) rfl ?_);refine box_event ?hg (N:=3) ?hd (cs := #[.bool a1_0, .int .u32 a1_1, .bool a1_2, .int .i64 a1_3, .slice A1_4 l1_4.length c1_4]) (t:=45) ?hr ?_;(case hd => rfl);(case hg => rfl);(case hr => first | (go_simp;done) | (go_simp;rfl));intro gb632 hg w30 hbox hb;have n0_:=Aside0.mk (blk_below (g:=gb631) (o := .cells #[.bool a0_0, .int .u32 a0_1, .bool a0_2, .int .i64 a0_3, .slice A0_4 l0_4.length c0_4] 45 (0,0)) (by (with_reducible repeat (first | refine blk_drewN ?_ _ | refine blk_drew ?_ | refine blk_alloc ?_ _));exact BK631.out) hb);have n1_:=Aside0.mk (below_step (by repeat (first | (with_reducible first | exact HB.out | apply below_alloc | apply pw_below_drewN | apply below_drew1 | refine below_set ?_ GE631.out) | exact HB.out)) hb);have n2_:=Aside0.mk (hbox);have n3_:=Aside0.mk ((by rw [hg];exact (below_size (by repeat (first | (with_reducible first | exact HB.out | apply below_alloc | apply pw_below_drewN | apply below_drew1 | refine below_set ?_ GE631.out) | exact HB.out))) : w.heap.size ≤ gb632));have n4_:=Aside0.mk ((by rw [hg];exact (below_size (by repeat (first | (with_reducible first | exact HB.out | apply below_alloc | apply pw_below_drewN | apply below_drew1 | refine below_set ?_ GE631.out) | exact HB.out))) : w.heap.size ≤ gb632));have n5_:=Aside0.mk ((by rw [hg];exact Nat.ne_of_lt (blk_lt (g:=gb631) (o := .cells #[.bool a0_0, .int .u32 a0_1, .bool a0_2, .int .i64 a0_3, .slice A0_4 l0_4.length c0_4] 45 (0,0)) (by (with_reducible repeat (first | refine blk_drewN ?_ _ | refine blk_drew ?_ | refine blk_alloc ?_ _));exact BK631.out)) : gb631 ≠ gb632));have n6_:=Aside0.mk ((by rw [hg];exact Nat.ne_of_gt (blk_lt (g:=gb631) (o := .cells #[.bool a0_0, .int .u32 a0_1, .bool a0_2, .int .i64 a0_3, .slice A0_4 l0_4.length c0_4] 45 (0,0)) (by (with_reducible repeat (first | refine blk_drewN ?_ _ | refine blk_drew ?_ | refine blk_alloc ?_ _));exact BK631.out)) : gb632 ≠ gb631));clear BK631;clear HB;have BK631:=n0_;have HB:=n1_;have BK632:=n2_;have GW632:=n3_;have GE632:=n4_;have NB631_632:=n5_;have NB632_631:=n6_;clear n0_ n1_ n2_ n3_ n4_ n5_ n6_;clear hb hbox hg;have hnb31:=NB631_632.out;have hnc31:=NB632_631.out;obtain ⟨hcz32_0,hcz32_1,hcz32_2,hcz32_3,hcz32_4⟩:=bc5 BK631.out;obtain ⟨hfz32_0,hfz32_1,hfz32_2,hfz32_3,hfz32_4⟩:=bf5 BK631.out;obtain ⟨hcz33_0,hcz33_1,hcz33_2,hcz33_3,hcz33_4⟩:=bc5 BK632.out;obtain ⟨hfz33_0,hfz33_1,hfz33_2,hfz33_3,hfz33_4⟩:=bf5 BK632.out))
     go_ret
     exact ⟨by first | rfl | (simp [errW_none,errW_some] <;> rfl) | (simp [*,errW_none,errW_some] <;> rfl),by repeat (first | (with_reducible first | exact HB.out | apply below_alloc | apply pw_below_drewN | apply below_drew1 | refine below_set ?_ GE631.out | refine below_set ?_ GE632.out) | exact HB.out)⟩
  ·rw [if_neg c9] at H
   have c9b0 : (a0_1 == a1_1) = false:=beq_eq_false_iff_ne.mpr c9
   have c9b1 : (a0_1 != a1_1) = true:=bne_iff_ne.mpr c9
   obtain rfl:=Option.some.inj H
   go_enter Try.func55,Try.ntmps55
   go_wp2_with (first | ((with_reducible refine gate_dst (N:=2) rfl ?_);refine box_event ?hg (N:=2) ?hd (cs := #[.bool a0_0, .int .u32 a0_1, .bool a0_2, .int .i64 a0_3, .slice A0_4 l0_4.length c0_4]) (t:=45) ?hr ?_;(case hd => rfl);(case hg => rfl);(case hr => first | (go_simp;done) | (go_simp;rfl));intro gb631 hg w34 hbox hb;have n0_:=Aside0.mk (below_step (by repeat (first | (with_reducible first | exact HB.out | apply below_alloc | apply pw_below_drewN | apply below_drew1) | exact HB.out)) hb);have n1_:=Aside0.mk (hbox);have n2_:=Aside0.mk ((by rw [hg];exact (below_size (by repeat (first | (with_reducible first | exact HB.out | apply below_alloc | apply pw_below_drewN | apply below_drew1) | exact HB.out))) : w.heap.size ≤ gb631));have n3_:=Aside0.mk ((by rw [hg];exact (below_size (by repeat (first | (with_reducible first | exact HB.out | apply below_alloc | apply pw_below_drewN | apply below_drew1) | exact HB.out))) : w.heap.size ≤ gb631));clear HB;have HB:=n0_;have BK631:=n1_;have GW631:=n2_;have GE631:=n3_;clear n0_ n1_ n2_ n3_;clear hb hbox hg) | ((with_reducible refine gate_dst (N:=3) rfl ?_);refine box_event ?hg (N:=3) ?hd (cs := #[.bool a1_0, .int .u32 a1_1, .bool a1_2, .int .i64 a1_3, .slice A1_4 l1_4.length c1_4]) (t:=45) ?hr ?_;(case hd => rfl);(case hg => rfl);(case hr => first | (go_simp;done) | (go_simp;rfl));intro gb632 hg w35 hbox hb;have n0_:=Aside0.mk (blk_below (g:=gb631) (o := .cells #[.bool a0_0, .int .u32 a0_1, .bool a0_2, .int .i64 a0_3, .slice A0_4 l0_4.length c0_4] 45 (0,0)) (by (with_reducible repeat (first | refine blk_drewN ?_ _ | refine blk_drew ?_ | refine blk_alloc ?_ _));exact BK631.out) hb);have n1_:=Aside0.mk (below_step (by repeat (first | (with_reducible first | exact HB.out | apply below_alloc | apply pw_below_drewN | apply below_drew1 | refine below_set ?_ GE631.out) | exact HB.out)) hb);have n2_:=Aside0.mk (hbox);have n3_:=Aside0.mk ((by rw [hg];exact (below_size (by repeat (first | (with_reducible first | exact HB.out | apply below_alloc | apply pw_below_drewN | apply below_drew1 | refine below_set ?_ GE631.out) | exact HB.out))) : w.heap.size ≤ gb632));have n4_:=Aside0.mk ((by rw [hg];exact (below_size (by repeat (first | (with_reducible first | exact HB.out | apply below_alloc | apply pw_below_drewN | apply below_drew1 | refine below_set ?_ GE631.out) | exact HB.out))) : w.heap.size ≤ gb632));have n5_:=Aside0.mk ((by rw [hg];exact Nat.ne_of_lt (blk_lt (g:=gb631) (o := .cells #[.bool a0_0, .int .u32 a0_1, .bool a0_2, .int .i64 a0_3, .slice A0_4 l0_4.length c0_4] 45 (0,0)) (by (with_reducible repeat (first | refine blk_drewN ?_ _ | refine blk_drew ?_ | refine blk_alloc ?_ _));exact BK631.out)) : gb631 ≠ gb632));have n6_:=Aside0.mk ((by rw [hg];exact Nat.ne_of_gt (blk_lt (g:=gb631) (o := .cells #[.bool a0_0, .int .u32 a0_1, .bool a0_2, .int .i64 a0_3, .slice A0_4 l0_4.length c0_4] 45 (0,0)) (by (with_reducible repeat (first | refine blk_drewN ?_ _ | refine blk_drew ?_ | refine blk_alloc ?_ _));exact BK631.out)) : gb632 ≠ gb631));clear BK631;clear HB;have BK631:=n0_;have HB:=n1_;have BK632:=n2_;have GW632:=n3_;have GE632:=n4_;have NB631_632:=n5_;have NB632_631:=n6_;clear n0_ n1_ n2_ n3_ n4_ n5_ n6_;clear hb hbox hg;have hnb36:=NB631_632.out;have hnc36:=NB632_631.out;obtain ⟨hcz37_0,hcz37_1,hcz37_2,hcz37_3,hcz37_4⟩:=bc5 BK631.out;obtain ⟨hfz37_0,hfz37_1,hfz37_2,hfz37_3,hfz37_4⟩:=bf5 BK631.out;obtain ⟨hcz38_0,hcz38_1,hcz38_2,hcz38_3,hcz38_4⟩:=bc5 BK632.out;obtain ⟨hfz38_0,hfz38_1,hfz38_2,hfz38_3,hfz38_4⟩:=bf5 BK632.out))
   go_ret
   exact ⟨by first | rfl | (simp [errW_none,errW_some] <;> rfl) | (simp [*,errW_none,errW_some] <;> rfl),by repeat (first | (with_reducible first | exact HB.out | apply below_alloc | apply pw_below_drewN | apply below_drew1 | refine below_set ?_ GE631.out | refine below_set ?_ GE632.out) | exact HB.out)⟩
end Go.Proofs.Ytcaefabbcjlkdaa.P
namespace Go.Proofs.Ytcaefabbcjlkdaa.P
open Go Go.RowKit Go.Proofs.YtcaefabbcjlkdaaW.PrintWords
set_option linter.unusedVariables false
theorem eqFrame_ev (e : Bool) (i : Int) (r : Bool) (d : Int) (l : List Int) (h : l.length ≤ 10000000) : Ev (fun k => laws_eqFrame.f k e i r d l e i r d l) true:=by
 refine Ev.congr (fun k => by unfold laws_eqFrame.f;rw [if_neg (by simp),if_pos rfl,if_neg (by simp),if_pos rfl]) (Ev.bind (f:=fun _ t => if t = true then some true else some false) (eqByteS_ev l h) (Ev.now _))
end Go.Proofs.Ytcaefabbcjlkdaa.P
namespace Go.Proofs.Ytcaefabbcjlkdaa.P
open Go.RowKit Go.Proofs.YtcaefabbcjlkdaaW.PrintWords Go.Proofs.YtcaefabbcjlkdaaW.PrintLast Go.Proofs.YtcaefabbcjlkdaaW.PrintMore
set_option linter.unusedVariables false
set_option linter.unusedSimpArgs false
def laws_szFilterS.f (l0 : List (S91)) (a1 : Int) : Option (Int):=if (wrap64 (a1 - (l0.length : Int))) < 0 then (some (-1)) else (some (wrap64 (a1 - (l0.length : Int))))
set_option maxHeartbeats 8000000 in
set_option maxRecDepth 100000 in
theorem laws_szFilterS.calls (A0 : Option Addr) (c0 : Nat) (l0 : List (S91)) (a1 : Int) (r : Int) (w : World) (hr0 : Kd.C k91 w A0 l0.length l0) (hc0 : l0.length ≤ c0) (h : laws_szFilterS.f l0 a1 = some r) :
  Calls Try.prog 14 #[.slice A0 l0.length c0, .int .i64 a1] w fun e w' => e = .returned (.int .i64 r) ∧ Drawn0 w w':=by
 have HR0:=Aside0.mk hr0
 have HC0:=Aside0.mk hc0
 clear hr0 hc0
 have H : (if (wrap64 (a1 - (l0.length : Int))) < 0 then (some (-1)) else (some (wrap64 (a1 - (l0.length : Int))))) = some r:=h
 clear h
 by_cases c3 : (wrap64 (a1 - (l0.length : Int))) < 0
 ·rw [if_pos c3] at H
  have c3b0 : decide ((wrap64 (a1 - (l0.length : Int))) < 0) = true:=decide_eq_true c3
  clear c3
  obtain rfl:=Option.some.inj H
  go_enter Try.func14,Try.ntmps14
  go_wp2
  go_ret
  exact ⟨by first | rfl | (simp;done) | (simp [*];done),by repeat (first | exact Drawn0.refl _ | apply Drawn0.step)⟩
 ·rw [if_neg c3] at H
  have c3b0 : decide ((wrap64 (a1 - (l0.length : Int))) < 0) = false:=decide_eq_false c3
  clear c3
  obtain rfl:=Option.some.inj H
  go_enter Try.func14,Try.ntmps14
  go_wp2
  go_ret
  exact ⟨by first | rfl | (simp;done) | (simp [*];done),by repeat (first | exact Drawn0.refl _ | apply Drawn0.step)⟩
def laws_toFilter.f (a0_0 : Bool) (a0_1 : Int) (a0_2 : Int) : Option (Bool × Int × Int):=some (a0_0,a0_1,a0_2)
set_option maxHeartbeats 8000000 in
set_option maxRecDepth 100000 in
theorem laws_toFilter.calls (a0_0 : Bool) (a0_1 : Int) (a0_2 : Int) (r1 : Bool) (r2 : Int) (r3 : Int) (w : World) (h : laws_toFilter.f a0_0 a0_1 a0_2 = some (r1,r2,r3)) :
  Calls Try.prog 60 #[.agg #[.bool a0_0, .int .u32 a0_1, .int .u32 a0_2]] w fun e w' => e = .returned (.agg #[.bool r1, .int .u32 r2, .int .u32 r3]) ∧ Below w.heap.size w w':=by
 have hu91:=Try.underlying91
 have hu89:=Try.underlying89
 have HB:=Aside0.mk (Below.refl w.heap.size w)
 have H : (some (a0_0,a0_1,a0_2)) = some (r1,r2,r3):=h
 clear h
 simp only [Option.some.injEq,Prod.mk.injEq] at H
 obtain ⟨rfl,rfl,rfl⟩:=H
 go_enter Try.func60,Try.ntmps60
 go_wp2_with (first | ((with_reducible refine gate_dst (N:=1) rfl ?_);refine box_event ?hg (N:=1) ?hd (cs := #[.bool a0_0, .int .u32 a0_1, .int .u32 a0_2]) (t:=91) ?hr ?_;(case hd => rfl);(case hg => rfl);(case hr => first | (go_simp;done) | (go_simp;rfl));intro gb678 hg w2 hbox hb;have n0_:=Aside0.mk (below_step (by repeat (first | (with_reducible first | exact HB.out | apply below_alloc | apply pw_below_drewN | apply below_drew1) | exact HB.out)) hb);have n1_:=Aside0.mk (hbox);have n2_:=Aside0.mk ((by rw [hg];exact (below_size (by repeat (first | (with_reducible first | exact HB.out | apply below_alloc | apply pw_below_drewN | apply below_drew1) | exact HB.out))) : w.heap.size ≤ gb678));have n3_:=Aside0.mk ((by rw [hg];exact (below_size (by repeat (first | (with_reducible first | exact HB.out | apply below_alloc | apply pw_below_drewN | apply below_drew1) | exact HB.out))) : w.heap.size ≤ gb678));clear HB;have HB:=n0_;have BK678:=n1_;have GW678:=n2_;have GE678:=n3_;clear n0_ n1_ n2_ n3_;clear hb hbox hg) | ((with_reducible refine gate_dst (N:=2) rfl ?_);refine box_event ?hg (N:=2) ?hd (cs := #[.bool false, .int .u32 0, .int .u32 0]) (t:=89) ?hr ?_;(case hd => rfl);(case hg => rfl);(case hr => first | (go_simp;done) | (go_simp;rfl));intro gb679 hg w3 hbox hb;have n0_:=Aside0.mk (blk_below (g:=gb678) (o := .cells #[.bool a0_0, .int .u32 a0_1, .int .u32 a0_2] 91 (0,0)) (by (with_reducible repeat (first | refine blk_drewN ?_ _ | refine blk_drew ?_ | refine blk_alloc ?_ _));exact BK678.out) hb);have n1_:=Aside0.mk (below_step (by repeat (first | (with_reducible first | exact HB.out | apply below_alloc | apply pw_below_drewN | apply below_drew1 | refine below_set ?_ GE678.out) | exact HB.out)) hb);have n2_:=Aside0.mk (hbox);have n3_:=Aside0.mk ((by rw [hg];exact (below_size (by repeat (first | (with_reducible first | exact HB.out | apply below_alloc | apply pw_below_drewN | apply below_drew1 | refine below_set ?_ GE678.out) | exact HB.out))) : w.heap.size ≤ gb679));have n4_:=Aside0.mk ((by rw [hg];exact (below_size (by repeat (first | (with_reducible first | exact HB.out | apply below_alloc | apply pw_below_drewN | apply below_drew1 | refine below_set ?_ GE678.out) | exact HB.out))) : w.heap.size ≤ gb679));have n5_:=Aside0.mk ((by rw [hg];exact Nat.ne_of_lt (blk_lt (g:=gb678) (o := .cells #[.bool a0_0, .int .u32 a0_1, .int .u32 a0_2] 91 (0,0)) (by (with_reducible repeat (first | refine blk_drewN ?_ _ | refine blk_drew ?_ | refine blk_alloc ?_ _));exact BK678.out)) : gb678 ≠ gb679));have n6_:=Aside0.mk ((by rw [hg];exact Nat.ne_of_gt (blk_lt (g:=gb678) (o := .cells #[.bool a0_0, .int .u32 a0_1, .int .u32 a0_2] 91 (0,0)) (by (with_reducible repeat (first | refine blk_drewN ?_ _ | refine blk_drew ?_ | refine blk_alloc ?_ _));exact BK678.out)) : gb679 ≠ gb678));clear BK678;clear HB;have BK678:=n0_;have HB:=n1_;have BK679:=n2_;have GW679:=n3_;have GE679:=n4_;have NB678_679:=n5_;have NB679_678:=n6_;clear n0_ n1_ n2_ n3_ n4_ n5_ n6_;clear hb hbox hg) | ((with_reducible refine gate_dst (N:=3) rfl ?_);refine box_event ?hg (N:=3) ?hd (cs := #[.bool false, .int .u32 0, .int .u32 0]) (t:=89) ?hr ?_;(case hd => rfl);(case hg => rfl);(case hr => first | (go_simp;done) | (go_simp;rfl));intro gb680 hg w4 hbox hb;have n0_:=Aside0.mk (blk_below (g:=gb678) (o := .cells #[.bool a0_0, .int .u32 a0_1, .int .u32 a0_2] 91 (0,0)) (by (with_reducible repeat (first | refine blk_drewN ?_ _ | refine blk_drew ?_ | refine blk_alloc ?_ _));exact BK678.out) hb);have n1_:=Aside0.mk (blk_below (g:=gb679) (o := .cells #[.bool false, .int .u32 0, .int .u32 0] 89 (0,0)) (by (with_reducible repeat (first | refine blk_drewN ?_ _ | refine blk_drew ?_ | refine blk_alloc ?_ _));exact BK679.out) hb);have n2_:=Aside0.mk (below_step (by repeat (first | (with_reducible first | exact HB.out | apply below_alloc | apply pw_below_drewN | apply below_drew1 | refine below_set ?_ GE678.out | refine below_set ?_ GE679.out) | exact HB.out)) hb);have n3_:=Aside0.mk (hbox);have n4_:=Aside0.mk ((by rw [hg];exact (below_size (by repeat (first | (with_reducible first | exact HB.out | apply below_alloc | apply pw_below_drewN | apply below_drew1 | refine below_set ?_ GE678.out | refine below_set ?_ GE679.out) | exact HB.out))) : w.heap.size ≤ gb680));have n5_:=Aside0.mk ((by rw [hg];exact (below_size (by repeat (first | (with_reducible first | exact HB.out | apply below_alloc | apply pw_below_drewN | apply below_drew1 | refine below_set ?_ GE678.out | refine below_set ?_ GE679.out) | exact HB.out))) : w.heap.size ≤ gb680));have n6_:=Aside0.mk ((by rw [hg];exact Nat.ne_of_lt (blk_lt (g:=gb678) (o := .cells #[.bool a0_0, .int .u32 a0_1, .int .u32 a0_2] 91 (0,0)) (by (with_reducible repeat (first | refine blk_drewN ?_ _ | refine blk_drew ?_ | refine blk_alloc ?_ _));exact BK678.out)) : gb678 ≠ gb680));have n7_:=Aside0.mk ((by rw [hg];exact Nat.ne_of_gt (blk_lt (g:=gb678) (o := .cells #[.bool a0_0, .int .u32 a0_1, .int .u32 a0_2] 91 (0,0)) (by (with_reducible repeat (first | refine blk_drewN ?_ _ | refine blk_drew ?_ | refine blk_alloc ?_ _));exact BK678.out)) : gb680 ≠ gb678));have n8_:=Aside0.mk ((by rw [hg];exact Nat.ne_of_lt (blk_lt (g:=gb679) (o := .cells #[.bool false, .int .u32 0, .int .u32 0] 89 (0,0)) (by (with_reducible repeat (first | refine blk_drewN ?_ _ | refine blk_drew ?_ | refine blk_alloc ?_ _));exact BK679.out)) : gb679 ≠ gb680));have n9_:=Aside0.mk ((by rw [hg];exact Nat.ne_of_gt (blk_lt (g:=gb679) (o := .cells #[.bool false, .int .u32 0, .int .u32 0] 89 (0,0)) (by (with_reducible repeat (first | refine blk_drewN ?_ _ | refine blk_drew ?_ | refine blk_alloc ?_ _));exact BK679.out)) : gb680 ≠ gb679));clear BK678;clear BK679;clear HB;have BK678:=n0_;have BK679:=n1_;have HB:=n2_;have BK680:=n3_;have GW680:=n4_;have GE680:=n5_;have NB678_680:=n6_;have NB680_678:=n7_;have NB679_680:=n8_;have NB680_679:=n9_;clear n0_ n1_ n2_ n3_ n4_ n5_ n6_ n7_ n8_ n9_;clear hb hbox hg;have hnb5:=NB678_679.out;have hnc5:=NB679_678.out;have hnb6:=NB678_680.out;have hnc6:=NB680_678.out;have hcz7_0 : w4.cell? ⟨gb678,0,none⟩ = some (.bool a0_0):=(blk_cell BK678.out 0).trans rfl;have hcz7_1 : w4.cell? ⟨gb678,1,none⟩ = some (.int .u32 a0_1):=(blk_cell BK678.out 1).trans rfl;have hcz7_2 : w4.cell? ⟨gb678,2,none⟩ = some (.int .u32 a0_2):=(blk_cell BK678.out 2).trans rfl;have hfz7_0:=blk_frozen BK678.out 0;have hfz7_1:=blk_frozen BK678.out 1;have hfz7_2:=blk_frozen BK678.out 2;have hnb8:=NB680_679.out;have hnc8:=NB679_680.out;have hcz9_0 : w4.cell? ⟨gb680,0,none⟩ = some (.bool false):=(blk_cell BK680.out 0).trans rfl;have hcz9_1 : w4.cell? ⟨gb680,1,none⟩ = some (.int .u32 0):=(blk_cell BK680.out 1).trans rfl;have hcz9_2 : w4.cell? ⟨gb680,2,none⟩ = some (.int .u32 0):=(blk_cell BK680.out 2).trans rfl;have hfz9_0:=blk_frozen BK680.out 0;have hfz9_1:=blk_frozen BK680.out 1;have hfz9_2:=blk_frozen BK680.out 2;have hcz10_0 : w4.cell? ⟨gb679,0,none⟩ = some (.bool false):=(blk_cell BK679.out 0).trans rfl;have hcz10_1 : w4.cell? ⟨gb679,1,none⟩ = some (.int .u32 0):=(blk_cell BK679.out 1).trans rfl;have hcz10_2 : w4.cell? ⟨gb679,2,none⟩ = some (.int .u32 0):=(blk_cell BK679.out 2).trans rfl;have hfz10_0:=blk_frozen BK679.out 0;have hfz10_1:=blk_frozen BK679.out 1;have hfz10_2:=blk_frozen BK679.out 2))
 refine bodyPost_ret (results_cell_row rfl _ _ gb679 89 #[.bool a0_0, .int .u32 a0_1, .int .u32 a0_2] (0,0) _ rfl (by (with_reducible repeat (first | refine blk_drewN ?_ _ | refine blk_drew ?_ | refine blk_alloc ?_ _));refine blk_put (cs := #[.bool a0_0, .int .u32 a0_1, .int .u32 0]) ?_ 2 _ rfl;(with_reducible repeat (first | refine blk_drewN ?_ _ | refine blk_drew ?_ | refine blk_alloc ?_ _));refine blk_put (cs := #[.bool a0_0, .int .u32 0, .int .u32 0]) ?_ 1 _ rfl;(with_reducible repeat (first | refine blk_drewN ?_ _ | refine blk_drew ?_ | refine blk_alloc ?_ _));refine blk_put (cs := #[.bool false, .int .u32 0, .int .u32 0]) ?_ 0 _ rfl;(with_reducible repeat (first | refine blk_drewN ?_ _ | refine blk_drew ?_ | refine blk_alloc ?_ _));refine blk_far ?_ NB679_680.out _;(with_reducible repeat (first | refine blk_drewN ?_ _ | refine blk_drew ?_ | refine blk_alloc ?_ _));refine blk_far ?_ NB679_680.out _;(with_reducible repeat (first | refine blk_drewN ?_ _ | refine blk_drew ?_ | refine blk_alloc ?_ _));refine blk_far ?_ NB679_680.out _;(with_reducible repeat (first | refine blk_drewN ?_ _ | refine blk_drew ?_ | refine blk_alloc ?_ _));exact BK679.out) Try.underlying89 rfl (by kernel_rfl)) rfl ?_
 exact ⟨by first | rfl | (simp [errW_none,errW_some] <;> rfl) | (simp [*,errW_none,errW_some] <;> rfl),by repeat (first | (with_reducible first | exact HB.out | apply below_alloc | apply pw_below_drewN | apply below_drew1 | refine below_set ?_ GE678.out | refine below_set ?_ GE679.out | refine below_set ?_ GE680.out) | exact HB.out)⟩
def laws_toFilterS.l0 : Nat → List (S91) → List (S89) → Int → Option ((List (S89)))
 | 0,_,_,_ => none
 | k + 1,x0,x3,x4 => if x4 < (x0.length : Int) then (if 0 ≤ x4 then ((laws_toFilter.f ((rd_T91 x0 x4).f0) ((rd_T91 x0 x4).f1) ((rd_T91 x0 x4).f2)).bind fun bt685 => (if x4 < (x3.length : Int) then (laws_toFilterS.l0 k x0 (x3.set (x4 : Int).toNat (⟨bt685.1,bt685.2.1,bt685.2.2⟩ : S89)) (wrap64 (x4 + 1))) else (none))) else (none)) else (some x3)
def laws_toFilterS.f (k : Nat) (l0 : List (S91)) : Option ((List (S89))):=if 0 ≤ (l0.length : Int) then (if ((l0.length : Int) : Int).toNat ≤ 23456248059221 then (laws_toFilterS.l0 k l0 (List.replicate ((l0.length : Int) : Int).toNat z89) 0) else (none)) else (none)
set_option maxHeartbeats 8000000 in
set_option maxRecDepth 100000 in
theorem laws_toFilterS.calls (k : Nat) (A0 : Option Addr) (c0 : Nat) (l0 : List (S91)) (r : List (S89)) (w : World) (hr0 : Kd.C k91 w A0 l0.length l0) (hc0 : l0.length ≤ c0) (h : laws_toFilterS.f k l0 = some r) :
  Calls Try.prog 17 #[.slice A0 l0.length c0] w fun e w' => ∃ v0_ : Value,e = .returned (v0_) ∧ Kd.R k89 89 w' w.heap.size (fun _ => True) v0_ r ∧ Below w.heap.size w w':=by
 have hu91:=Try.underlying91
 have hu89:=Try.underlying89
 have HR0:=Aside0.mk hr0
 have HC0:=Aside0.mk hc0
 clear hr0 hc0
 have HB:=Aside0.mk (Below.refl w.heap.size w)
 have H : (if 0 ≤ (l0.length : Int) then (if ((l0.length : Int) : Int).toNat ≤ 23456248059221 then (laws_toFilterS.l0 k l0 (List.replicate ((l0.length : Int) : Int).toNat z89) 0) else (none)) else (none)) = some r:=h
 clear h
 by_cases c2 : 0 ≤ (l0.length : Int)
 ·rw [if_pos c2] at H
  have c2b0:=eq_true c2
  have c2b1 : decide (0 ≤ (l0.length : Int)) = true:=decide_eq_true c2
  clear c2
  by_cases c3 : ((l0.length : Int) : Int).toNat ≤ 23456248059221
  ·rw [if_pos c3] at H
   have c3b0:=eq_true c3
   have c3b1 : decide (((l0.length : Int) : Int).toNat ≤ 23456248059221) = true:=decide_eq_true c3
   clear c3
   obtain ⟨y681,hy681⟩ : ∃ y_ : List (S89),y_ = (List.replicate ((l0.length : Int) : Int).toNat z89):=⟨_,rfl⟩
   replace H : (laws_toFilterS.l0 k l0 y681 0) = some r:=by first | (rw [hy681];with_reducible exact H) | (have H2_:=(Option.bind_some _ _).symm.trans H;rw [hy681];with_reducible exact H2_) | (have H2_:=(Option.bind_some _ _).symm.trans H;with_reducible exact H2_) | with_reducible exact H | (rw [hy681];exact H) | exact H
   have Ny681:=Aside0.mk hy681
   clear hy681
   have H':=Aside0.mk H
   clear H
   go_enter Try.func17,Try.ntmps17
   go_wp2_with (first | ((with_reducible refine gate_dst (N:=7) rfl ?_);refine Kd.R_make k89 _ 89 rfl (N:=7) rfl 27 _ _ rfl (l0.length : Int) rfl rfl Try.underlying27 (.agg #[(.bool false),(.int .u32 0),(.int .u32 0)]) 12 info89 rfl (by decide) (by omega) z89 (ok:=fun _ => True) (okp:=fun _ => True) (k89_mkM _ _ _ z89 ) (fun _ hk => hk) trivial (of_decide_eq_true (by first | (with_reducible assumption) | assumption)) (Nat.le_trans (Nat.mul_le_mul_right _ (of_decide_eq_true (by first | (with_reducible assumption) | assumption) : (l0.length : Int).toNat ≤ 23456248059221)) (by omega)) (Below.refl _ _) (Nat.le_refl _) ?_;intro v682 w4 ho5 hb hg_ hnew_;clear hg_ hnew_;(first | rw [← Ny681.out] at ho5 | (simp only [Int.reduceToNat] at ho5;rw [← Ny681.out] at ho5));have n0_:=Aside0.mk (Kd.R_lower ho5 (below_size (by repeat (first | (with_reducible first | exact HB.out | apply below_alloc | apply pw_below_drewN | apply below_drew1) | exact HB.out))));have n1_:=Aside0.mk (below_step (by repeat (first | (with_reducible first | exact HB.out | apply below_alloc | apply pw_below_drewN | apply below_drew1) | exact HB.out)) hb);clear HB;have HO683:=n0_;have HB:=n1_;clear n0_ n1_;clear hb ho5))
   go_loopg [4] k (fun kq v4 w' => ∃ (x3_1 : List (S89)) (x4_1 : Int),v4 = .int .i64 x4_1 ∧ Aside0 (laws_toFilterS.l0 kq l0 x3_1 x4_1 = some r) ∧ Aside0 (kq ≤ k) ∧ Aside0 (Kd.R k89 89 w' w.heap.size (fun _ => True) v682 x3_1) ∧ Aside0 (Below w.heap.size w w'))
   case atStart => exact ⟨(y681),(0),(by first | rfl | (simp;done) | (simp [*];done)),H',⟨Nat.le_refl _⟩,⟨by (with_reducible repeat (first | apply Kd.R_alloc | apply Kd.R_drewN | apply Kd.R_drew));exact HO683.out⟩,⟨by repeat (first | (with_reducible first | exact HB.out | apply below_alloc | apply pw_below_drewN | apply below_drew1) | exact HB.out)⟩⟩
   case round =>
    clear H'
    try clear c1
    try clear c2
    try clear c2b0
    try clear c2b1
    try clear p2
    try clear c3
    try clear c3b0
    try clear c3b1
    obtain ⟨x3_1,x4_1,rfl,HA,HK1,HO_3,HB⟩:=hrel
    cases gk with
    | zero => exact absurd HA.out (by simp [laws_toFilterS.l0])
    | succ k1 =>
     have H:=HA.out
     clear HA
     simp only [laws_toFilterS.l0] at H
     by_cases c6 : x4_1 < (l0.length : Int)
     ·rw [if_pos c6] at H
      have c6b0 : decide (x4_1 < (l0.length : Int)) = true:=decide_eq_true c6
      clear c6
      by_cases c7 : 0 ≤ x4_1
      ·rw [if_pos c7] at H
       have c7b0 : decide (0 ≤ x4_1) = true:=decide_eq_true c7
       clear c7
       replace H:=Option.bind_eq_some_iff.mp H
       obtain ⟨⟨t685,t686,t687⟩,A80,H⟩:=H
       replace H : (if x4_1 < (x3_1.length : Int) then (laws_toFilterS.l0 k1 l0 (x3_1.set (x4_1 : Int).toNat (⟨t685,t686,t687⟩ : S89)) (wrap64 (x4_1 + 1))) else (none)) = some r:=H
       have A8:=Aside0.mk A80
       clear A80
       by_cases c9 : x4_1 < (x3_1.length : Int)
       ·rw [if_pos c9] at H
        have c9b0 : decide (x4_1 < (x3_1.length : Int)) = true:=decide_eq_true c9
        clear c9
        obtain ⟨y688,hy688⟩ : ∃ y_ : List (S89),y_ = (x3_1.set (x4_1 : Int).toNat (⟨t685,t686,t687⟩ : S89)):=⟨_,rfl⟩
        replace H : (laws_toFilterS.l0 k1 l0 y688 (wrap64 (x4_1 + 1))) = some r:=by first | (rw [hy688];with_reducible exact H) | (have H2_:=(Option.bind_some _ _).symm.trans H;rw [hy688];with_reducible exact H2_) | (have H2_:=(Option.bind_some _ _).symm.trans H;with_reducible exact H2_) | with_reducible exact H | (rw [hy688];exact H) | exact H
        have Ny688:=Aside0.mk hy688
        clear hy688
        have H':=Aside0.mk H
        clear H
        have p684 : 0 ≤ (x4_1 : Int):=of_decide_eq_true (by first | (with_reducible assumption) | assumption)
        have q684 : x4_1 < (l0.length : Int):=of_decide_eq_true (by first | (with_reducible assumption) | assumption)
        obtain ⟨ad684,e684,hx684_0,hx684_1,hx684_2⟩:=at_T91 HR0.out x4_1 p684 q684
        cases e684
        replace hx684_0:=(HB.out.cell (World.block_lt_of_cell? w _ hx684_0)).trans hx684_0
        replace hx684_1:=(HB.out.cell (World.block_lt_of_cell? w _ hx684_1)).trans hx684_1
        replace hx684_2:=(HB.out.cell (World.block_lt_of_cell? w _ hx684_2)).trans hx684_2
        replace p684:=eq_true p684
        replace q684:=eq_true q684
        go_wp2_with (first | ((with_reducible refine gate_callee (f:=60) rfl ?_);refine goesL_ (some 20) rfl rfl Try.func60 (by kernel_rfl) rfl #[.agg #[.bool ((rd_T91 l0 x4_1).f0), .int .u32 ((rd_T91 l0 x4_1).f1), .int .u32 ((rd_T91 l0 x4_1).f2)]] rfl (by (try simp only [List.map_toArray,List.map_cons,List.map_nil]);first | done | rfl | (simp only [List.length_drop,List.length_take];rfl)) ?_;(with_reducible refine (laws_toFilter.calls ((rd_T91 l0 x4_1).f0) ((rd_T91 l0 x4_1).f1) ((rd_T91 l0 x4_1).f2) t685 t686 t687 _ A8.out).mono ?_);rintro e w11 ⟨rfl,hb⟩;refine ⟨_,rfl, ?_⟩;have n0_:=Aside0.mk (Kd.R_below (by (with_reducible repeat (first | apply Kd.R_alloc | apply Kd.R_drewN | apply Kd.R_drew));exact HO_3.out) hb);have n1_:=Aside0.mk (below_step (by repeat (first | (with_reducible first | exact HB.out | apply below_alloc | apply pw_below_drewN | apply below_drew1) | exact HB.out)) hb);clear HO_3;clear HB;have HO_3:=n0_;have HB:=n1_;clear n0_ n1_;(try clear hb);(try clear hb2);(try clear hk);(try clear hi);have p10 : 0 ≤ (x4_1 : Int):=of_decide_eq_true (by first | (with_reducible assumption) | assumption);have q10 : (x4_1 : Int) < ((x3_1.length : Int) : Int):=of_decide_eq_true (by first | (with_reducible assumption) | assumption);obtain ⟨go10,co10,eo10,gb10,gl10,cl10,HG10⟩:=Kd.R_form HO_3.out (by omega);(first | cases eo10 | (injection eo10 with ea_ en_ ec_;(first | subst ea_ | (injection ea_ with ea_;subst ea_));subst ec_;clear en_));have GB10:=Aside0.mk gb10;have GG10:=Aside0.mk HG10;clear gb10 gl10 HG10;obtain ⟨ce10,hcl10,hM10,hcc10,hfr10⟩:=Kd.R_elem HO_3.out z89 (x4_1 : Int) p10 q10;obtain rfl:=k89_openM hM10;have hx10_0 : w11.cell? ⟨go10,(x4_1 : Int).toNat * 3,none⟩ = some (.bool ((rd_T89 x3_1 x4_1).f0)):=hcc10 0 _ rfl;have hx10_1 : w11.cell? ⟨go10,(x4_1 : Int).toNat * 3 + 1,none⟩ = some (.int .u32 ((rd_T89 x3_1 x4_1).f1)):=hcc10 1 _ rfl;have hx10_2 : w11.cell? ⟨go10,(x4_1 : Int).toNat * 3 + 2,none⟩ = some (.int .u32 ((rd_T89 x3_1 x4_1).f2)):=hcc10 2 _ rfl;have hf10_0 : w11.frozen? ⟨go10,(x4_1 : Int).toNat * 3,none⟩ = false:=hfr10 0;have hf10_1 : w11.frozen? ⟨go10,(x4_1 : Int).toNat * 3 + 1,none⟩ = false:=hfr10 1;have hf10_2 : w11.frozen? ⟨go10,(x4_1 : Int).toNat * 3 + 2,none⟩ = false:=hfr10 2;clear hcl10 hcc10 hfr10 hM10;replace p10:=eq_true p10;replace q10:=eq_true q10;have HX12:=Aside0.mk (show Kd.R k89 89 w11 w.heap.size (fun _ => True) (.slice (some ⟨go10,0,none⟩) x3_1.length co10) x3_1 from (by (with_reducible repeat (first | apply Kd.R_alloc | apply Kd.R_drewN | apply Kd.R_drew));exact HO_3.out));obtain ⟨ce12,hcl12,hM12,hcc12,hfr12⟩:=Kd.R_elem HX12.out z89 (x4_1 : Int) (of_decide_eq_true (by first | (with_reducible assumption) | assumption)) (by have h_ : (x4_1 : Int) < ((x3_1.length : Int) : Int):=of_decide_eq_true (by first | (with_reducible assumption) | assumption);first | exact h_ | (have e_:=(Kd.R_reads' HO_3.out).1;omega) | simpa using h_);obtain rfl:=k89_openM hM12;have HP12:=Kd.R_seg HX12.out (x4_1 : Int) (of_decide_eq_true (by first | (with_reducible assumption) | assumption)) (by have h_ : (x4_1 : Int) < ((x3_1.length : Int) : Int):=of_decide_eq_true (by first | (with_reducible assumption) | assumption);first | exact h_ | (have e_:=(Kd.R_reads' HO_3.out).1;omega) | simpa using h_) (seg := [.bool t685, .int .u32 t686, .int .u32 t687]) (j:=0) hcl12 hcc12 (show 3 ≤ 3 from by decide) (x':=(⟨t685,t686,t687⟩ : S89)) (k89_mkM _ _ _ (⟨t685,t686,t687⟩ : S89) ) (fun _ hk => hk);have hx12_0:=hcc12 0 _ rfl;(try simp only [show (k89).sz = 3 from rfl,Nat.mul_one,Nat.add_zero] at hx12_0);have hf12_0:=hfr12 0;(try simp only [show (k89).sz = 3 from rfl,Nat.mul_one,Nat.add_zero] at hf12_0);have hx12_1:=hcc12 1 _ rfl;(try simp only [show (k89).sz = 3 from rfl,Nat.mul_one,Nat.add_zero] at hx12_1);have hf12_1:=hfr12 1;(try simp only [show (k89).sz = 3 from rfl,Nat.mul_one,Nat.add_zero] at hf12_1);have hx12_2:=hcc12 2 _ rfl;(try simp only [show (k89).sz = 3 from rfl,Nat.mul_one,Nat.add_zero] at hx12_2);have hf12_2:=hfr12 2;(try simp only [show (k89).sz = 3 from rfl,Nat.mul_one,Nat.add_zero] at hf12_2);clear hcl12 hcc12 hfr12 hM12) | ((with_reducible refine gate_store (t:=89) (p:=21) rfl ?_);refine store_event (t:=89) (p:=21) (v := ?vo_w13) (w1:=(((w11.setCell ⟨go10,(x4_1 : Int).toNat * 3,none⟩ (.bool t685)).setCell ⟨go10,(x4_1 : Int).toNat * 3 + 1,none⟩ (.int .u32 t686)).setCell ⟨go10,(x4_1 : Int).toNat * 3 + 2,none⟩ (.int .u32 t687))) ?hg ?ho ?hn ?hr ?_;(case ho => rfl);(case hg => rfl);(case hn => rfl);(case hr => first | (go_simp;done) | (go_simp;rfl));intro w13 hw;have hg : w11.grownBy w13 (some go10):=(by rw [hw];exact HP12.2);have hp_ : Kd.R k89 89 w13 w.heap.size (fun _ => True) (.slice (some ⟨go10,0,none⟩) x3_1.length co10) y688:=(by rw [hw,Ny688.out];exact HP12.1);clear HP12;have n0_:=Aside0.mk (hp_);have n1_:=Aside0.mk ((by rw [hw];exact below_set (below_set (below_set (HB.out) GB10.out) GB10.out) GB10.out : Below w.heap.size w w13));clear HO_3;clear HB;have HO_3:=n0_;have HB:=n1_;clear n0_ n1_;clear hg hw hp_))
        go_roundg k1
        case measure => have:=HK1.out;omega
        case rel => exact ⟨(y688),(wrap64 (x4_1 + 1)),(by first | rfl | (simp;done) | (simp [*];done)),H',⟨by have:=HK1.out;omega⟩,⟨by (with_reducible repeat (first | apply Kd.R_alloc | apply Kd.R_drewN | apply Kd.R_drew));exact HO_3.out⟩,⟨by repeat (first | (with_reducible first | exact HB.out | apply below_alloc | apply pw_below_drewN | apply below_drew1) | exact HB.out)⟩⟩
       ·rw [if_neg c9] at H
        exact absurd H (by simp)
      ·rw [if_neg c7] at H
       exact absurd H (by simp)
     ·rw [if_neg c6] at H
      have c6b0 : decide (x4_1 < (l0.length : Int)) = false:=decide_eq_false c6
      clear c6
      obtain rfl:=Option.some.inj H
      go_wp2
      go_ret
      exact ⟨_,by first | rfl | (simp [errW_none,errW_some] <;> rfl) | (simp [*,errW_none,errW_some] <;> rfl),by (with_reducible repeat (first | apply Kd.R_alloc | apply Kd.R_drewN | apply Kd.R_drew));exact HO_3.out,by repeat (first | (with_reducible first | exact HB.out | apply below_alloc | apply pw_below_drewN | apply below_drew1) | exact HB.out)⟩
  ·rw [if_neg c3] at H
   exact absurd H (by simp)
 ·rw [if_neg c2] at H
  exact absurd H (by simp)
def laws_eqFilter.f (a0_0 : Bool) (a0_1 : Int) (a0_2 : Int) (a1_0 : Bool) (a1_1 : Int) (a1_2 : Int) : Option (Bool):=if (a0_0 != a1_0) = true then (some false) else (if a0_1 = a1_1 then (if a0_2 = a1_2 then (some true) else (some false)) else (some false))
set_option maxHeartbeats 8000000 in
set_option maxRecDepth 100000 in
theorem laws_eqFilter.calls (a0_0 : Bool) (a0_1 : Int) (a0_2 : Int) (a1_0 : Bool) (a1_1 : Int) (a1_2 : Int) (r : Bool) (w : World) (h : laws_eqFilter.f a0_0 a0_1 a0_2 a1_0 a1_1 a1_2 = some r) :
  Calls Try.prog 68 #[.agg #[.bool a0_0, .int .u32 a0_1, .int .u32 a0_2], .agg #[.bool a1_0, .int .u32 a1_1, .int .u32 a1_2]] w fun e w' => e = .returned (.bool r) ∧ Below w.heap.size w w':=by
 have hu89:=Try.underlying89
 have HB:=Aside0.mk (Below.refl w.heap.size w)
 have H : (if (a0_0 != a1_0) = true then (some false) else (if a0_1 = a1_1 then (if a0_2 = a1_2 then (some true) else (some false)) else (some false))) = some r:=h
 clear h
 by_cases c3 : (a0_0 != a1_0) = true
 ·rw [if_pos c3] at H
  have c3b0 : (a0_0 != a1_0) = true:=c3
  (try (have c3b1 : decide (a0_0 = a1_0) = false:=by simpa using c3))
  (try (have c3b2 : (a0_0 == a1_0) = false:=by simpa using c3))
  (try (have c3b3 : ¬ (a0_0 = a1_0):=by simpa using c3))
  clear c3
  obtain rfl:=Option.some.inj H
  go_enter Try.func68,Try.ntmps68
  go_wp2_with (first | ((with_reducible refine gate_dst (N:=2) rfl ?_);refine box_event ?hg (N:=2) ?hd (cs := #[.bool a0_0, .int .u32 a0_1, .int .u32 a0_2]) (t:=89) ?hr ?_;(case hd => rfl);(case hg => rfl);(case hr => first | (go_simp;done) | (go_simp;rfl));intro gb624 hg w4 hbox hb;have n0_:=Aside0.mk (below_step (by repeat (first | (with_reducible first | exact HB.out | apply below_alloc | apply pw_below_drewN | apply below_drew1) | exact HB.out)) hb);have n1_:=Aside0.mk (hbox);have n2_:=Aside0.mk ((by rw [hg];exact (below_size (by repeat (first | (with_reducible first | exact HB.out | apply below_alloc | apply pw_below_drewN | apply below_drew1) | exact HB.out))) : w.heap.size ≤ gb624));have n3_:=Aside0.mk ((by rw [hg];exact (below_size (by repeat (first | (with_reducible first | exact HB.out | apply below_alloc | apply pw_below_drewN | apply below_drew1) | exact HB.out))) : w.heap.size ≤ gb624));clear HB;have HB:=n0_;have BK624:=n1_;have GW624:=n2_;have GE624:=n3_;clear n0_ n1_ n2_ n3_;clear hb hbox hg) | ((with_reducible refine gate_dst (N:=3) rfl ?_);refine box_event ?hg (N:=3) ?hd (cs := #[.bool a1_0, .int .u32 a1_1, .int .u32 a1_2]) (t:=89) ?hr ?_;(case hd => rfl);(case hg => rfl);(case hr => first | (go_simp;done) | (go_simp;rfl));intro gb625 hg w5 hbox hb;have n0_:=Aside0.mk (blk_below (g:=gb624) (o := .cells #[.bool a0_0, .int .u32 a0_1, .int .u32 a0_2] 89 (0,0)) (by (with_reducible repeat (first | refine blk_drewN ?_ _ | refine blk_drew ?_ | refine blk_alloc ?_ _));exact BK624.out) hb);have n1_:=Aside0.mk (below_step (by repeat (first | (with_reducible first | exact HB.out | apply below_alloc | apply pw_below_drewN | apply below_drew1 | refine below_set ?_ GE624.out) | exact HB.out)) hb);have n2_:=Aside0.mk (hbox);have n3_:=Aside0.mk ((by rw [hg];exact (below_size (by repeat (first | (with_reducible first | exact HB.out | apply below_alloc | apply pw_below_drewN | apply below_drew1 | refine below_set ?_ GE624.out) | exact HB.out))) : w.heap.size ≤ gb625));have n4_:=Aside0.mk ((by rw [hg];exact (below_size (by repeat (first | (with_reducible first | exact HB.out | apply below_alloc | apply pw_below_drewN | apply below_drew1 | refine below_set ?_ GE624.out) | exact HB.out))) : w.heap.size ≤ gb625));have n5_:=Aside0.mk ((by rw [hg];exact Nat.ne_of_lt (blk_lt (g:=gb624) (o := .cells #[.bool a0_0, .int .u32 a0_1, .int .u32 a0_2] 89 (0,0)) (by (with_reducible repeat (first | refine blk_drewN ?_ _ | refine blk_drew ?_ | refine blk_alloc ?_ _));exact BK624.out)) : gb624 ≠ gb625));have n6_:=Aside0.mk ((by rw [hg];exact Nat.ne_of_gt (blk_lt (g:=gb624) (o := .cells #[.bool a0_0, .int .u32 a0_1, .int .u32 a0_2] 89 (0,0)) (by (with_reducible repeat (first | refine blk_drewN ?_ _ | refine blk_drew ?_ | refine blk_alloc ?_ _));exact BK624.out)) : gb625 ≠ gb624));clear BK624;clear HB;have BK624:=n0_;have HB:=n1_;have BK625:=n2_;have GW625:=n3_;have GE625:=n4_;have NB624_625:=n5_;have NB625_624:=n6_;clear n0_ n1_ n2_ n3_ n4_ n5_ n6_;clear hb hbox hg;have hnb6:=NB624_625.out;have hnc6:=NB625_624.out;have hcz7_0 : w5.cell? ⟨gb624,0,none⟩ = some (.bool a0_0):=(blk_cell BK624.out 0).trans rfl;have hcz7_1 : w5.cell? ⟨gb624,1,none⟩ = some (.int .u32 a0_1):=(blk_cell BK624.out 1).trans rfl;have hcz7_2 : w5.cell? ⟨gb624,2,none⟩ = some (.int .u32 a0_2):=(blk_cell BK624.out 2).trans rfl;have hfz7_0:=blk_frozen BK624.out 0;have hfz7_1:=blk_frozen BK624.out 1;have hfz7_2:=blk_frozen BK624.out 2;have hcz8_0 : w5.cell? ⟨gb625,0,none⟩ = some (.bool a1_0):=(blk_cell BK625.out 0).trans rfl;have hcz8_1 : w5.cell? ⟨gb625,1,none⟩ = some (.int .u32 a1_1):=(blk_cell BK625.out 1).trans rfl;have hcz8_2 : w5.cell? ⟨gb625,2,none⟩ = some (.int .u32 a1_2):=(blk_cell BK625.out 2).trans rfl;have hfz8_0:=blk_frozen BK625.out 0;have hfz8_1:=blk_frozen BK625.out 1;have hfz8_2:=blk_frozen BK625.out 2))
  go_ret
  exact ⟨by first | rfl | (simp [errW_none,errW_some] <;> rfl) | (simp [*,errW_none,errW_some] <;> rfl),by repeat (first | (with_reducible first | exact HB.out | apply below_alloc | apply pw_below_drewN | apply below_drew1 | refine below_set ?_ GE624.out | refine below_set ?_ GE625.out) | exact HB.out)⟩
 ·rw [if_neg c3] at H
  have c3b0 : (a0_0 != a1_0) = false:=by simpa using c3
  (try (have c3b1 : decide (a0_0 = a1_0) = true:=by simpa using c3))
  (try (have c3b2 : (a0_0 == a1_0) = true:=by simpa using c3))
  clear c3
  by_cases c9 : a0_1 = a1_1
  ·rw [if_pos c9] at H
   have c9b0 : (a0_1 == a1_1) = true:=beq_iff_eq.mpr c9
   have c9b1 : (a0_1 != a1_1) = false:=bne_eq_false_iff_eq.mpr c9
   clear c9
   by_cases c10 : a0_2 = a1_2
   ·rw [if_pos c10] at H
    have c10b0 : (a0_2 == a1_2) = true:=beq_iff_eq.mpr c10
    have c10b1 : (a0_2 != a1_2) = false:=bne_eq_false_iff_eq.mpr c10
    clear c10
    obtain rfl:=Option.some.inj H
    go_enter Try.func68,Try.ntmps68
    go_wp2_with (first | ((with_reducible refine gate_dst (N:=2) rfl ?_);refine box_event ?hg (N:=2) ?hd (cs := #[.bool a0_0, .int .u32 a0_1, .int .u32 a0_2]) (t:=89) ?hr ?_;(case hd => rfl);(case hg => rfl);(case hr => first | (go_simp;done) | (go_simp;rfl));intro gb624 hg w11 hbox hb;have n0_:=Aside0.mk (below_step (by repeat (first | (with_reducible first | exact HB.out | apply below_alloc | apply pw_below_drewN | apply below_drew1) | exact HB.out)) hb);have n1_:=Aside0.mk (hbox);have n2_:=Aside0.mk ((by rw [hg];exact (below_size (by repeat (first | (with_reducible first | exact HB.out | apply below_alloc | apply pw_below_drewN | apply below_drew1) | exact HB.out))) : w.heap.size ≤ gb624));have n3_:=Aside0.mk ((by rw [hg];exact (below_size (by repeat (first | (with_reducible first | exact HB.out | apply below_alloc | apply pw_below_drewN | apply below_drew1) | exact HB.out))) : w.heap.size ≤ gb624));clear HB;have HB:=n0_;have BK624:=n1_;have GW624:=n2_;have GE624:=n3_;clear n0_ n1_ n2_ n3_;clear hb hbox hg) | ((with_reducible refine gate_dst (N:=3) rfl ?_);refine box_event ?hg (N:=3) ?hd (cs := #[.bool a1_0, .int .u32 a1_1, .int .u32 a1_2]) (t:=89) ?hr ?_;(case hd => rfl);(case hg => rfl);(case hr => first | (go_simp;done) | (go_simp;rfl));intro gb625 hg w12 hbox hb;have n0_:=Aside0.mk (blk_below (g:=gb624) (o := .cells #[.bool a0_0, .int .u32 a0_1, .int .u32 a0_2] 89 (0,0)) (by (with_reducible repeat (first | refine blk_drewN ?_ _ | refine blk_drew ?_ | refine blk_alloc ?_ _));exact BK624.out) hb);have n1_:=Aside0.mk (below_step (by repeat (first | (with_reducible first | exact HB.out | apply below_alloc | apply pw_below_drewN | apply below_drew1 | refine below_set ?_ GE624.out) | exact HB.out)) hb);have n2_:=Aside0.mk (hbox);have n3_:=Aside0.mk ((by rw [hg];exact (below_size (by repeat (first | (with_reducible first | exact HB.out | apply below_alloc | apply pw_below_drewN | apply below_drew1 | refine below_set ?_ GE624.out) | exact HB.out))) : w.heap.size ≤ gb625));have n4_:=Aside0.mk ((by rw [hg];exact (below_size (by repeat (first | (with_reducible first | exact HB.out | apply below_alloc | apply pw_below_drewN | apply below_drew1 | refine below_set ?_ GE624.out) | exact HB.out))) : w.heap.size ≤ gb625));have n5_:=Aside0.mk ((by rw [hg];exact Nat.ne_of_lt (blk_lt (g:=gb624) (o := .cells #[.bool a0_0, .int .u32 a0_1, .int .u32 a0_2] 89 (0,0)) (by (with_reducible repeat (first | refine blk_drewN ?_ _ | refine blk_drew ?_ | refine blk_alloc ?_ _));exact BK624.out)) : gb624 ≠ gb625));have n6_:=Aside0.mk ((by rw [hg];exact Nat.ne_of_gt (blk_lt (g:=gb624) (o := .cells #[.bool a0_0, .int .u32 a0_1, .int .u32 a0_2] 89 (0,0)) (by (with_reducible repeat (first | refine blk_drewN ?_ _ | refine blk_drew ?_ | refine blk_alloc ?_ _));exact BK624.out)) : gb625 ≠ gb624));clear BK624;clear HB;have BK624:=n0_;have HB:=n1_;have BK625:=n2_;have GW625:=n3_;have GE625:=n4_;have NB624_625:=n5_;have NB625_624:=n6_;clear n0_ n1_ n2_ n3_ n4_ n5_ n6_;clear hb hbox hg;have hnb13:=NB624_625.out;have hnc13:=NB625_624.out;have hcz14_0 : w12.cell? ⟨gb624,0,none⟩ = some (.bool a0_0):=(blk_cell BK624.out 0).trans rfl;have hcz14_1 : w12.cell? ⟨gb624,1,none⟩ = some (.int .u32 a0_1):=(blk_cell BK624.out 1).trans rfl;have hcz14_2 : w12.cell? ⟨gb624,2,none⟩ = some (.int .u32 a0_2):=(blk_cell BK624.out 2).trans rfl;have hfz14_0:=blk_frozen BK624.out 0;have hfz14_1:=blk_frozen BK624.out 1;have hfz14_2:=blk_frozen BK624.out 2;have hcz15_0 : w12.cell? ⟨gb625,0,none⟩ = some (.bool a1_0):=(blk_cell BK625.out 0).trans rfl;have hcz15_1 : w12.cell? ⟨gb625,1,none⟩ = some (.int .u32 a1_1):=(blk_cell BK625.out 1).trans rfl;have hcz15_2 : w12.cell? ⟨gb625,2,none⟩ = some (.int .u32 a1_2):=(blk_cell BK625.out 2).trans rfl;have hfz15_0:=blk_frozen BK625.out 0;have hfz15_1:=blk_frozen BK625.out 1;have hfz15_2:=blk_frozen BK625.out 2))
    go_ret
    exact ⟨by first | rfl | (simp [errW_none,errW_some] <;> rfl) | (simp [*,errW_none,errW_some] <;> rfl),by repeat (first | (with_reducible first | exact HB.out | apply below_alloc | apply pw_below_drewN | apply below_drew1 | refine below_set ?_ GE624.out | refine below_set ?_ GE625.out) | exact HB.out)⟩
   ·rw [if_neg c10] at H
    have c10b0 : (a0_2 == a1_2) = false:=beq_eq_false_iff_ne.mpr c10
    have c10b1 : (a0_2 != a1_2) = true:=bne_iff_ne.mpr c10
    obtain rfl:=Option.some.inj H
    go_enter Try.func68,Try.ntmps68
    go_wp2_with (first | ((with_reducible refine gate_dst (N:=2) rfl ?_);refine box_event ?hg (N:=2) ?hd (cs := #[.bool a0_0, .int .u32 a0_1, .int .u32 a0_2]) (t:=89) ?hr ?_;(case hd => rfl);(case hg => rfl);(case hr => first | (go_simp;done) | (go_simp;rfl));intro gb624 hg w16 hbox hb;have n0_:=Aside0.mk (below_step (by repeat (first | (with_reducible first | exact HB.out | apply below_alloc | apply pw_below_drewN | apply below_drew1) | exact HB.out)) hb);have n1_:=Aside0.mk (hbox);have n2_:=Aside0.mk ((by rw [hg];exact (below_size (by repeat (first | (with_reducible first | exact HB.out | apply below_alloc | apply pw_below_drewN | apply below_drew1) | exact HB.out))) : w.heap.size ≤ gb624));have n3_:=Aside0.mk ((by rw [hg];exact (below_size (by repeat (first | (with_reducible first | exact HB.out | apply below_alloc | apply pw_below_drewN | apply below_drew1) | exact HB.out))) : w.heap.size ≤ gb624));clear HB;have HB:=n0_;have BK624:=n1_;have GW624:=n2_;have GE624:=n3_;clear n0_ n1_ n2_ n3_;clear hb hbox hg) | ((with_reducible refine gate_dst (N:=3) rfl ?_);refine box_event ?hg (N:=3) ?hd (cs := #[.bool a1_0, .int .u32 a1_1, .int .u32 a1_2]) (t:=89) ?hr ?_;(case hd => rfl);(case hg => rfl);(case hr => first | (go_simp;done) | (go_simp;rfl));intro gb625 hg w17 hbox hb;have n0_:=Aside0.mk (blk_below (g:=gb624) (o := .cells #[.bool a0_0, .int .u32 a0_1, .int .u32 a0_2] 89 (0,0)) (by (with_reducible repeat (first | refine blk_drewN ?_ _ | refine blk_drew ?_ | refine blk_alloc ?_ _));exact BK624.out) hb);have n1_:=Aside0.mk (below_step (by repeat (first | (with_reducible first | exact HB.out | apply below_alloc | apply pw_below_drewN | apply below_drew1 | refine below_set ?_ GE624.out) | exact HB.out)) hb);have n2_:=Aside0.mk (hbox);have n3_:=Aside0.mk ((by rw [hg];exact (below_size (by repeat (first | (with_reducible first | exact HB.out | apply below_alloc | apply pw_below_drewN | apply below_drew1 | refine below_set ?_ GE624.out) | exact HB.out))) : w.heap.size ≤ gb625));have n4_:=Aside0.mk ((by rw [hg];exact (below_size (by repeat (first | (with_reducible first | exact HB.out | apply below_alloc | apply pw_below_drewN | apply below_drew1 | refine below_set ?_ GE624.out) | exact HB.out))) : w.heap.size ≤ gb625));have n5_:=Aside0.mk ((by rw [hg];exact Nat.ne_of_lt (blk_lt (g:=gb624) (o := .cells #[.bool a0_0, .int .u32 a0_1, .int .u32 a0_2] 89 (0,0)) (by (with_reducible repeat (first | refine blk_drewN ?_ _ | refine blk_drew ?_ | refine blk_alloc ?_ _));exact BK624.out)) : gb624 ≠ gb625));have n6_:=Aside0.mk ((by rw [hg];exact Nat.ne_of_gt (blk_lt (g:=gb624) (o := .cells #[.bool a0_0, .int .u32 a0_1, .int .u32 a0_2] 89 (0,0)) (by (with_reducible repeat (first | refine blk_drewN ?_ _ | refine blk_drew ?_ | refine blk_alloc ?_ _));exact BK624.out)) : gb625 ≠ gb624));clear BK624;clear HB;have BK624:=n0_;have HB:=n1_;have BK625:=n2_;have GW625:=n3_;have GE625:=n4_;have NB624_625:=n5_;have NB625_624:=n6_;clear n0_ n1_ n2_ n3_ n4_ n5_ n6_;clear hb hbox hg;have hnb18:=NB624_625.out;have hnc18:=NB625_624.out;have hcz19_0 : w17.cell? ⟨gb624,0,none⟩ = some (.bool a0_0):=(blk_cell BK624.out 0).trans rfl;have hcz19_1 : w17.cell? ⟨gb624,1,none⟩ = some (.int .u32 a0_1):=(blk_cell BK624.out 1).trans rfl;have hcz19_2 : w17.cell? ⟨gb624,2,none⟩ = some (.int .u32 a0_2):=(blk_cell BK624.out 2).trans rfl;have hfz19_0:=blk_frozen BK624.out 0;have hfz19_1:=blk_frozen BK624.out 1;have hfz19_2:=blk_frozen BK624.out 2;have hcz20_0 : w17.cell? ⟨gb625,0,none⟩ = some (.bool a1_0):=(blk_cell BK625.out 0).trans rfl;have hcz20_1 : w17.cell? ⟨gb625,1,none⟩ = some (.int .u32 a1_1):=(blk_cell BK625.out 1).trans rfl;have hcz20_2 : w17.cell? ⟨gb625,2,none⟩ = some (.int .u32 a1_2):=(blk_cell BK625.out 2).trans rfl;have hfz20_0:=blk_frozen BK625.out 0;have hfz20_1:=blk_frozen BK625.out 1;have hfz20_2:=blk_frozen BK625.out 2))
    go_ret
    exact ⟨by first | rfl | (simp [errW_none,errW_some] <;> rfl) | (simp [*,errW_none,errW_some] <;> rfl),by repeat (first | (with_reducible first | exact HB.out | apply below_alloc | apply pw_below_drewN | apply below_drew1 | refine below_set ?_ GE624.out | refine below_set ?_ GE625.out) | exact HB.out)⟩
  ·rw [if_neg c9] at H
   have c9b0 : (a0_1 == a1_1) = false:=beq_eq_false_iff_ne.mpr c9
   have c9b1 : (a0_1 != a1_1) = true:=bne_iff_ne.mpr c9
   obtain rfl:=Option.some.inj H
   go_enter Try.func68,Try.ntmps68
   go_wp2_with (first | ((with_reducible refine gate_dst (N:=2) rfl ?_);refine box_event ?hg (N:=2) ?hd (cs := #[.bool a0_0, .int .u32 a0_1, .int .u32 a0_2]) (t:=89) ?hr ?_;(case hd => rfl);(case hg => rfl);(case hr => first | (go_simp;done) | (go_simp;rfl));intro gb624 hg w21 hbox hb;have n0_:=Aside0.mk (below_step (by repeat (first | (with_reducible first | exact HB.out | apply below_alloc | apply pw_below_drewN | apply below_drew1) | exact HB.out)) hb);have n1_:=Aside0.mk (hbox);have n2_:=Aside0.mk ((by rw [hg];exact (below_size (by repeat (first | (with_reducible first | exact HB.out | apply below_alloc | apply pw_below_drewN | apply below_drew1) | exact HB.out))) : w.heap.size ≤ gb624));have n3_:=Aside0.mk ((by rw [hg];exact (below_size (by repeat (first | (with_reducible first | exact HB.out | apply below_alloc | apply pw_below_drewN | apply below_drew1) | exact HB.out))) : w.heap.size ≤ gb624));clear HB;have HB:=n0_;have BK624:=n1_;have GW624:=n2_;have GE624:=n3_;clear n0_ n1_ n2_ n3_;clear hb hbox hg) | ((with_reducible refine gate_dst (N:=3) rfl ?_);refine box_event ?hg (N:=3) ?hd (cs := #[.bool a1_0, .int .u32 a1_1, .int .u32 a1_2]) (t:=89) ?hr ?_;(case hd => rfl);(case hg => rfl);(case hr => first | (go_simp;done) | (go_simp;rfl));intro gb625 hg w22 hbox hb;have n0_:=Aside0.mk (blk_below (g:=gb624) (o := .cells #[.bool a0_0, .int .u32 a0_1, .int .u32 a0_2] 89 (0,0)) (by (with_reducible repeat (first | refine blk_drewN ?_ _ | refine blk_drew ?_ | refine blk_alloc ?_ _));exact BK624.out) hb);have n1_:=Aside0.mk (below_step (by repeat (first | (with_reducible first | exact HB.out | apply below_alloc | apply pw_below_drewN | apply below_drew1 | refine below_set ?_ GE624.out) | exact HB.out)) hb);have n2_:=Aside0.mk (hbox);have n3_:=Aside0.mk ((by rw [hg];exact (below_size (by repeat (first | (with_reducible first | exact HB.out | apply below_alloc | apply pw_below_drewN | apply below_drew1 | refine below_set ?_ GE624.out) | exact HB.out))) : w.heap.size ≤ gb625));have n4_:=Aside0.mk ((by rw [hg];exact (below_size (by repeat (first | (with_reducible first | exact HB.out | apply below_alloc | apply pw_below_drewN | apply below_drew1 | refine below_set ?_ GE624.out) | exact HB.out))) : w.heap.size ≤ gb625));have n5_:=Aside0.mk ((by rw [hg];exact Nat.ne_of_lt (blk_lt (g:=gb624) (o := .cells #[.bool a0_0, .int .u32 a0_1, .int .u32 a0_2] 89 (0,0)) (by (with_reducible repeat (first | refine blk_drewN ?_ _ | refine blk_drew ?_ | refine blk_alloc ?_ _));exact BK624.out)) : gb624 ≠ gb625));have n6_:=Aside0.mk ((by rw [hg];exact Nat.ne_of_gt (blk_lt (g:=gb624) (o := .cells #[.bool a0_0, .int .u32 a0_1, .int .u32 a0_2] 89 (0,0)) (by (with_reducible repeat (first | refine blk_drewN ?_ _ | refine blk_drew ?_ | refine blk_alloc ?_ _));exact BK624.out)) : gb625 ≠ gb624));clear BK624;clear HB;have BK624:=n0_;have HB:=n1_;have BK625:=n2_;have GW625:=n3_;have GE625:=n4_;have NB624_625:=n5_;have NB625_624:=n6_;clear n0_ n1_ n2_ n3_ n4_ n5_ n6_;clear hb hbox hg;have hnb23:=NB624_625.out;have hnc23:=NB625_624.out;have hcz24_0 : w22.cell? ⟨gb624,0,none⟩ = some (.bool a0_0):=(blk_cell BK624.out 0).trans rfl;have hcz24_1 : w22.cell? ⟨gb624,1,none⟩ = some (.int .u32 a0_1):=(blk_cell BK624.out 1).trans rfl;have hcz24_2 : w22.cell? ⟨gb624,2,none⟩ = some (.int .u32 a0_2):=(blk_cell BK624.out 2).trans rfl;have hfz24_0:=blk_frozen BK624.out 0;have hfz24_1:=blk_frozen BK624.out 1;have hfz24_2:=blk_frozen BK624.out 2;have hcz25_0 : w22.cell? ⟨gb625,0,none⟩ = some (.bool a1_0):=(blk_cell BK625.out 0).trans rfl;have hcz25_1 : w22.cell? ⟨gb625,1,none⟩ = some (.int .u32 a1_1):=(blk_cell BK625.out 1).trans rfl;have hcz25_2 : w22.cell? ⟨gb625,2,none⟩ = some (.int .u32 a1_2):=(blk_cell BK625.out 2).trans rfl;have hfz25_0:=blk_frozen BK625.out 0;have hfz25_1:=blk_frozen BK625.out 1;have hfz25_2:=blk_frozen BK625.out 2))
   go_ret
   exact ⟨by first | rfl | (simp [errW_none,errW_some] <;> rfl) | (simp [*,errW_none,errW_some] <;> rfl),by repeat (first | (with_reducible first | exact HB.out | apply below_alloc | apply pw_below_drewN | apply below_drew1 | refine below_set ?_ GE624.out | refine below_set ?_ GE625.out) | exact HB.out)⟩
end Go.Proofs.Ytcaefabbcjlkdaa.P
