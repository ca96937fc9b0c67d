/- Texts of the proof of FnImage, joined. -/
import Derived.Test.YtdoclpgciadjaaaSFnImage25
import Derived.Test.YtdoclpgciadjaaaSFnImage21
import Derived.Test.YtdoclpgciadjaaaSFnImage23
import Derived.Test.YtdoclpgciadjaaaSFnImage24
import Derived.Deep.RegionWith
import Derived.Lib.Hide
namespace Go.Proofs.Ytdoclpgciadjaaa.P
open Go Go.RowKit Go.Proofs.YtdoclpgciadjaaaW.PrintWords
set_option linter.unusedVariables false
theorem rd_app_at (S Y : List Int) (a : Int) : rd (S ++ a :: Y) (S.length : Int) = a:=by
 unfold rd
 rw [Int.toNat_natCast,List.getD_eq_getElem?_getD,List.getElem?_append_right (Nat.le_refl _),Nat.sub_self];rfl
theorem bt_str (l : List Int) (i : Nat) (h : i < l.length) (hb : ∀ x ∈ l,0 ≤ x ∧ x < 256) : bt (strOfNums l) (i : Int) = rd l (i : Int):=by
 have hs : i < (strOfNums l).size:=by rw [strOfNums_size];exact h
 rw [bt_eq _ i hs]
 have h2 : (bytesOf (strOfNums l))[i]? = some (((strOfNums l)[i]'hs).toNat : Int):=by
  unfold bytesOf
  rw [List.getElem?_map,Array.getElem?_toList,Array.getElem?_eq_getElem (show i < (strOfNums l).data.size from hs)]
  rfl
 rw [bytes_str l hb] at h2
 unfold rd
 rw [Int.toNat_natCast,List.getD_eq_getElem?_getD,h2]
 rfl
theorem val_ev (l : List Int) (hb : Bits l) (hl : l.length ≤ 40) : Ev (fun k => spec_l1val.f k (strOfNums l)) (V l):=by
 have loop : ∀ (d i : Nat),i + d = l.length → Ev (fun k => spec_l1val.l0 k (strOfNums l) (V (l.take i)) (i : Int)) (V l):=by
  intro d
  induction d with
  | zero =>
   intro i hi
   refine Ev.step (f:=fun _ => some (V l)) (fun k => ?_) (Ev.now _)
   simp only [spec_l1val.l0]
   rw [if_neg (by rw [strOfNums_size];omega),List.take_of_length_le (by omega)]
  | succ d ih =>
   intro i hi
   refine Ev.step (f:=fun k => spec_l1val.l0 k (strOfNums l) (V (l.take (i + 1))) ((i + 1 : Nat) : Int)) (fun k => ?_) (ih (i + 1) (by omega))
   have ht : l.take (i + 1) = l.take i ++ [rd l (i : Int)]:=by
    rw [List.take_succ_eq_append_getElem (by omega)]
    congr 2
    have:=rd_get l i (by omega)
    rw [List.getElem?_eq_getElem (by omega)] at this
    exact Option.some.inj this
   have hbt : Bits (l.take i):=fun x hx => hb x (List.mem_of_mem_take hx)
   have hv:=V_lt hbt (n:=40) (by rw [List.length_take];omega) (m:=1099511627776) (by decide)
   have hv0:=(V_range hbt).1
   have hm : rd l (i : Int) = 48 ∨ rd l (i : Int) = 49:=hb _ (by have:=rd_get l i (by omega);exact List.mem_of_getElem? this)
   rw [ht,V_snoc]
   simp only [spec_l1val.l0]
   have w2 : wrap64 (2 * V (l.take i)) = 2 * V (l.take i):=by unfold wrap64;omega
   have w3 : wrap64 (2 * V (l.take i) + 1) = 2 * V (l.take i) + 1:=by unfold wrap64;omega
   rw [if_pos (by rw [strOfNums_size];omega),if_pos (by omega),bt_str l i (by omega) hb.range,w2,w3,w64 (by omega) (by omega)]
   rcases hm with e | e
   ·rw [if_neg (by omega),e];simp
   ·rw [if_pos e,e];simp
 have h0:=loop l.length 0 (by omega)
 exact h0
theorem hd_len {H : List Int} {e r : Bool} {i : Int} (h : Hd H e r i) : H.length = if e = true then 35 else 15:=by
 cases h with
 | base a r z I h => simp [h]
 | ext a r q z y I J h k => simp [h,k]
theorem hd_13 {H : List Int} {e r : Bool} {i : Int} (h : Hd H e r i) (R : List Int) : rd (H ++ R) 13 = if e = true then 49 else 48:=by
 cases h with
 | base a r z I h =>
  have:=rd_app_at (a :: I ++ [r]) ([z] ++ R) 48
  rw [show (((a :: I ++ [r]).length : Nat) : Int) = 13 by simp [h]] at this
  rw [show a :: I ++ [r,48,z] ++ R = (a :: I ++ [r]) ++ 48 :: ([z] ++ R) by simp]
  exact this
 | ext a r q z y I J h k =>
  have:=rd_app_at (a :: I ++ [r]) (J ++ [q,z,y] ++ R) 49
  rw [show (((a :: I ++ [r]).length : Nat) : Int) = 13 by simp [h]] at this
  rw [show a :: I ++ [r,49] ++ J ++ [q,z,y] ++ R = (a :: I ++ [r]) ++ 49 :: (J ++ [q,z,y] ++ R) by simp]
  exact this
theorem hd_rtr {H : List Int} {e r : Bool} {i : Int} (h : Hd H e r i) (R : List Int) : (rd (H ++ R) (if e = true then 32 else 12) == 49) = r:=by
 cases h with
 | base a r z I h =>
  have:=rd_app_at (a :: I) ([48,z] ++ R) r
  rw [show (((a :: I).length : Nat) : Int) = 12 by simp [h]] at this
  rw [show a :: I ++ [r,48,z] ++ R = (a :: I) ++ r :: ([48,z] ++ R) by simp]
  simp only [Bool.false_eq_true,if_false]
  rw [this]
 | ext a r q z y I J h k =>
  have:=rd_app_at (a :: I ++ [r,49] ++ J) ([z,y] ++ R) q
  rw [show (((a :: I ++ [r,49] ++ J).length : Nat) : Int) = 32 by simp [h,k]] at this
  rw [show a :: I ++ [r,49] ++ J ++ [q,z,y] ++ R = (a :: I ++ [r,49] ++ J) ++ q :: ([z,y] ++ R) by simp]
  simp only [if_true]
  rw [this]
theorem lay_full {H D R : List Int} {e r : Bool} {i : Int} (h : Hd H e r i) (d : D.length = 4) (hb : Bits D) (hn : R.length ≤ 4000) :
  Ev (fun k => spec_l1lay.f k (H ++ D ++ R)) ((H.length : Int) + 4,(H.length : Int) + 4 + 8 * dataB r (V D)):=by
 have hl:=hd_len h
 have h13:=hd_13 h (D ++ R)
 have hr:=hd_rtr h (D ++ R)
 rw [← List.append_assoc] at h13 hr
 have hlen : (H ++ D ++ R).length = H.length + 4 + R.length:=by simp [d];omega
 have hv0:=(V_range hb).1
 have hv1:=V_lt hb (n:=4) (by omega) (m:=16) (by decide)
 have hsl : ((H ++ D ++ R).take (((H.length : Int) + 4).toNat)).drop (((H.length : Int) + 4 - 4).toNat) = D:=by
  rw [show ((H.length : Int) + 4).toNat = (H ++ D).length by simp [d];omega,List.take_left,show ((H.length : Int) + 4 - 4).toNat = H.length by omega,List.drop_left]
 have hval:=val_ev D hb (by omega)
 have j1 : Ev (fun k => spec_l1lay.j1 k (H ++ D ++ R) ((H.length : Int) + 4) r) ((H.length : Int) + 4,(H.length : Int) + 4 + 8 * dataB r (V D)):=by
  have hH : (H.length : Int) ≤ 35:=by rw [hl];split <;> omega
  have w1 : wrap64 ((H.length : Int) + 4 - 4) = (H.length : Int) + 4 - 4:=w64 (by omega) (by omega)
  refine Ev.step (f:=fun k => (spec_l1val.f k (strOfNums D)).bind fun t265 => (if t265 > 8 then (if r = true then (some ((H.length : Int) + 4,wrap64 ((H.length : Int) + 4 + (8 * 0)))) else (some ((H.length : Int) + 4,wrap64 ((H.length : Int) + 4 + (8 * 8))))) else (if r = true then (some ((H.length : Int) + 4,wrap64 ((H.length : Int) + 4 + (8 * 0)))) else (some ((H.length : Int) + 4,wrap64 ((H.length : Int) + 4 + (wrap64 (8 * t265)))))))) (fun k => ?_) (Ev.bind hval ?_)
  ·simp only [spec_l1lay.j1]
   rw [w1,if_pos (by omega),if_pos (by omega),if_pos (by omega),hsl]
  ·unfold dataB
   by_cases c8 : V D > 8
   ·refine ev_pos c8 ?_
    cases r with
    | true => refine ev_pos rfl ?_;rw [if_pos rfl,w64 (by omega) (by omega)];exact Ev.now _
    | false => refine ev_neg (by decide) ?_;rw [if_neg (by decide),if_pos c8,w64 (by omega) (by omega)];exact Ev.now _
   ·refine ev_neg c8 ?_
    cases r with
    | true => refine ev_pos rfl ?_;rw [if_pos rfl,w64 (by omega) (by omega)];exact Ev.now _
    | false => refine ev_neg (by decide) ?_;rw [if_neg (by decide),if_neg c8,w64 (x:=8 * V D) (by omega) (by omega),w64 (by omega) (by omega)];exact Ev.now _
 unfold spec_l1lay.f
 cases e with
 | true =>
  simp only [if_true] at hl h13 hr
  rw [hl] at j1 ⊢
  refine ev_neg (by omega) (ev_pos (by omega) (ev_pos h13 ?_))
  refine Ev.step (f:=fun k => spec_l1lay.j1 k (H ++ D ++ R) 39 r) (fun k => ?_) j1
  simp only [spec_l1lay.j0]
  rw [if_neg (by omega),if_pos (by omega),if_pos (by decide),if_pos (by omega),hr]
 | false =>
  simp only [Bool.false_eq_true,if_false] at hl h13 hr
  rw [hl] at j1 ⊢
  refine ev_neg (by omega) (ev_pos (by omega) (ev_neg (by omega) ?_))
  refine Ev.step (f:=fun k => spec_l1lay.j1 k (H ++ D ++ R) 19 r) (fun k => ?_) j1
  simp only [spec_l1lay.j0]
  rw [if_neg (by omega),if_pos (by omega),if_neg (by decide),hr]
theorem lay_part {p : List Int} {e : Bool} (h13 : rd p 13 = if e = true then 49 else 48) (hn : 14 ≤ p.length) (hl : p.length < if e = true then 39 else 19) : Ev (fun k => spec_l1lay.f k p) (if e = true then 39 else 19,0):=by
 unfold spec_l1lay.f
 cases e with
 | true =>
  simp only [if_true] at h13 hl ⊢
  refine ev_neg (by omega) (ev_pos (by omega) (ev_pos h13 ?_))
  refine Ev.step (f:=fun _ => some (39,0)) (fun k => ?_) (Ev.now _)
  simp only [spec_l1lay.j0]
  rw [if_pos (by omega)]
 | false =>
  simp only [Bool.false_eq_true,if_false] at h13 hl ⊢
  refine ev_neg (by omega) (ev_pos (by omega) (ev_neg (by omega) ?_))
  refine Ev.step (f:=fun _ => some (19,0)) (fun k => ?_) (Ev.now _)
  simp only [spec_l1lay.j0]
  rw [if_pos (by omega)]
theorem field_full {H D R : List Int} {e r : Bool} {i : Int} (h : Hd H e r i) (d : D.length = 4) (hb : Bits D) (hn : R.length ≤ 4000) :
  Ev (fun k => spec_l1field.f k (H ++ D ++ R)) (if (R.length : Int) < 8 * dataB r (V D) then 9 else if (R.length : Int) < 8 * dataB r (V D) + 15 then 10 else if (R.length : Int) < 8 * dataB r (V D) + 18 then 11 + ((R.length : Int) - 8 * dataB r (V D) - 15) else if (R.length : Int) < 8 * dataB r (V D) + 25 then 14 else 15):=by
 have hl:=hd_len h
 have hH : H.length = 15 ∨ H.length = 35:=by rw [hl];split <;> omega
 have hd:=dataB_range (r:=r) (V_range hb).1
 have hlen : (H ++ D ++ R).length = H.length + 4 + R.length:=by simp [d];omega
 unfold spec_l1field.f
 rw [hlen]
 refine ev_neg (by omega) (ev_neg (by omega) (ev_neg (by omega) (ev_neg (by omega) (Ev.bind (lay_full h d hb hn) (ev_neg (by simp only [];omega) ?_)))))
 simp only []
 rw [w64 (x:=(H.length : Int) + 4 + 8 * dataB r (V D) + 15) (by omega) (by omega),w64 (x:=(H.length : Int) + 4 + 8 * dataB r (V D) + 18) (by omega) (by omega),w64 (x:=(H.length : Int) + 4 + 8 * dataB r (V D) + 25) (by omega) (by omega)]
 by_cases c1 : (R.length : Int) < 8 * dataB r (V D)
 ·rw [if_pos c1];exact ev_pos (by omega) (Ev.now _)
 rw [if_neg c1];refine ev_neg (by omega) ?_
 by_cases c2 : (R.length : Int) < 8 * dataB r (V D) + 15
 ·rw [if_pos c2];exact ev_pos (by omega) (Ev.now _)
 rw [if_neg c2];refine ev_neg (by omega) ?_
 by_cases c3 : (R.length : Int) < 8 * dataB r (V D) + 18
 ·rw [if_pos c3];refine ev_pos (by omega) ?_
  have e : wrap64 (wrap64 (wrap64 (11 + ((H.length + 4 + R.length : Nat) : Int)) - ((H.length : Int) + 4 + 8 * dataB r (V D))) - 15) = 11 + ((R.length : Int) - 8 * dataB r (V D) - 15):=by unfold wrap64;omega
  rw [e];exact Ev.now _
 rw [if_neg c3];refine ev_neg (by omega) ?_
 by_cases c4 : (R.length : Int) < 8 * dataB r (V D) + 25
 ·rw [if_pos c4];exact ev_pos (by omega) (Ev.now _)
 ·rw [if_neg c4];exact ev_neg (by omega) (Ev.now _)
theorem field_part {p : List Int} {e : Bool} (h13 : rd p 13 = if e = true then 49 else 48) (hn : 14 ≤ p.length) (hl : p.length < if e = true then 39 else 19) :
  Ev (fun k => spec_l1field.f k p) (if e = true then (if p.length < 32 then 5 else if p.length = 32 then 6 else if p.length < 35 then 7 else 8) else (if p.length < 15 then 7 else 8)):=by
 unfold spec_l1field.f
 refine ev_neg (by omega) (ev_neg (by omega) (ev_neg (by omega) (ev_neg (by omega) (Ev.bind (lay_part h13 hn hl) ?_))))
 cases e with
 | true =>
  simp only [if_true] at hl ⊢
  rw [w64 (x:=(39 : Int) - 4) (by omega) (by omega)]
  refine ev_pos (by omega) ?_
  by_cases c : p.length < 32
  ·rw [if_pos c];exact ev_neg (by omega) (ev_neg (by omega) (ev_pos (by omega) (Ev.now _)))
  rw [if_neg c]
  by_cases c2 : p.length = 32
  ·rw [if_pos c2];exact ev_neg (by omega) (ev_neg (by omega) (ev_neg (by omega) (ev_pos (by omega) (Ev.now _))))
  rw [if_neg c2]
  by_cases c3 : p.length < 35
  ·rw [if_pos c3];exact ev_neg (by omega) (ev_neg (by omega) (ev_neg (by omega) (ev_neg (by omega) (Ev.now _))))
  ·rw [if_neg c3];exact ev_pos (by omega) (Ev.now _)
 | false =>
  simp only [Bool.false_eq_true,if_false] at hl ⊢
  rw [w64 (x:=(19 : Int) - 4) (by omega) (by omega)]
  refine ev_pos (by omega) ?_
  by_cases c : p.length < 15
  ·rw [if_pos c];exact ev_neg (by omega) (ev_pos (by decide) (Ev.now _))
  ·rw [if_neg c];exact ev_pos (by omega) (Ev.now _)
theorem field_ev {p : List Int} {c : Int × Int × Int × Bool × Int × Bool × Int × List Int} {m : Int} (h : Ph p c m) (hp : Bits p) : Ev (fun k => spec_l1field.f k p) c.1:=by
 have few : ∀ {q : List Int} {v : Int},(q.length = 0 ∧ v = 1 ∨ (0 < q.length ∧ q.length < 12) ∧ v = 2 ∨ q.length = 12 ∧ v = 3 ∨ q.length = 13 ∧ v = 4) → Ev (fun k => spec_l1field.f k q) v:=by
  intro q v hq
  unfold spec_l1field.f
  rcases hq with ⟨h,rfl⟩ | ⟨h,rfl⟩ | ⟨h,rfl⟩ | ⟨h,rfl⟩
  ·exact ev_pos (by omega) (Ev.now _)
  ·exact ev_neg (by omega) (ev_pos (by omega) (Ev.now _))
  ·exact ev_neg (by omega) (ev_neg (by omega) (ev_pos (by omega) (Ev.now _)))
  ·exact ev_neg (by omega) (ev_neg (by omega) (ev_neg (by omega) (ev_pos (by omega) (Ev.now _))))
 have r13 : ∀ (a r z : Int) (I R : List Int),I.length = 11 → rd (a :: I ++ [r] ++ z :: R) 13 = z:=by
  intro a r z I R h
  have:=rd_app_at (a :: I ++ [r]) R z
  rw [show (((a :: I ++ [r]).length : Nat) : Int) = 13 by simp [h]] at this
  exact this
 cases h with
 | sof => exact few (by simp)
 | ida a I h => exact few (by simp;omega)
 | rtr a I h => exact few (by simp;omega)
 | ide a r I h => exact few (by simp;omega)
 | idb a r I J h k =>
  have:=field_part (p:=a :: I ++ [r,49] ++ J) (e:=true) (by have:=r13 a r 49 I J h;simpa using this) (by simp;omega) (by simp;omega)
  simp only [if_true] at this
  rw [if_pos (by simp;omega)] at this
  exact this
 | rtrx a r I J h k =>
  have:=field_part (p:=a :: I ++ [r,49] ++ J) (e:=true) (by have:=r13 a r 49 I J h;simpa using this) (by simp;omega) (by simp;omega)
  simp only [if_true] at this
  rw [if_neg (by simp;omega),if_pos (by simp;omega)] at this
  exact this
 | resx a r q I J Z h k z =>
  have:=field_part (p:=a :: I ++ [r,49] ++ J ++ [q] ++ Z) (e:=true) (by have:=r13 a r 49 I (J ++ [q] ++ Z) h;simpa using this) (by simp;omega) (by simp;omega)
  simp only [if_true] at this
  rw [if_neg (by simp;omega),if_neg (by simp;omega),if_pos (by simp;omega)] at this
  exact this
 | resb a r I h =>
  have:=field_part (p:=a :: I ++ [r,48]) (e:=false) (by have:=r13 a r 48 I [] h;simpa using this) (by simp;omega) (by simp;omega)
  simp only [Bool.false_eq_true,if_false] at this
  rw [if_pos (by simp;omega)] at this
  exact this
 | dlc H D e r i h d =>
  have hl:=hd_len h
  have hlen : (H ++ D).length = H.length + D.length:=by simp
  have:=field_part (p:=H ++ D) (e:=e) (hd_13 h D) (by rw [hlen,hl];split <;> omega) (by rw [hlen,hl];split <;> omega)
  cases e with
  | true =>
   simp only [if_true] at this hl
   rw [hlen,if_neg (by omega),if_neg (by omega),if_neg (by omega)] at this
   exact this
  | false =>
   simp only [Bool.false_eq_true,if_false] at this hl
   rw [hlen,if_neg (by omega)] at this
   exact this
 | data H D X e r i h d x =>
  have hD : Bits D:=bits_len hp D (fun x hx => by simp [hx])
  have hr:=dataB_range (r:=r) (V_range hD).1
  have:=field_full (R:=X) h d hD (by omega)
  rw [if_pos x] at this
  exact this
 | crc H D X C e r i h d x c =>
  have hD : Bits D:=bits_len hp D (fun x hx => by simp [hx])
  have hr:=dataB_range (r:=r) (V_range hD).1
  have:=field_full (R:=X ++ C) h d hD (by simp;omega)
  rw [if_neg (by simp;omega),if_pos (by simp;omega), ← List.append_assoc] at this
  exact this
 | del H D X C T e r i h d x c t =>
  have hD : Bits D:=bits_len hp D (fun x hx => by simp [hx])
  have hr:=dataB_range (r:=r) (V_range hD).1
  have:=field_full (R:=X ++ C ++ T) h d hD (by simp;omega)
  rw [if_neg (by simp;omega),if_neg (by simp;omega),if_pos (by simp;omega), ← List.append_assoc, ← List.append_assoc,show 11 + (((X ++ C ++ T).length : Int) - 8 * dataB r (V D) - 15) = 11 + (T.length : Int) by simp;omega] at this
  exact this
 | eof H D X C T e r i h d x c t3 t =>
  have hD : Bits D:=bits_len hp D (fun x hx => by simp [hx])
  have hr:=dataB_range (r:=r) (V_range hD).1
  have:=field_full (R:=X ++ C ++ T) h d hD (by simp;omega)
  rw [if_neg (by simp;omega),if_neg (by simp;omega),if_neg (by simp;omega),if_pos (by simp;omega), ← List.append_assoc, ← List.append_assoc] at this
  exact this
end Go.Proofs.Ytdoclpgciadjaaa.P

namespace Go.Proofs.Ytdoclpgciadjaaa.P
open Go Go.RowKit Go.Proofs.YtdoclpgciadjaaaW.PrintWords
set_option linter.unusedVariables false
theorem ph_ok {p : List Int} {c : Int × Int × Int × Bool × Int × Bool × Int × List Int} {m : Int} (h : Ph p c m) (hp : Bits p) (s : WS) (hs : core s = c) (hr0 : 0 ≤ s.run) (hr1 : s.run ≤ 5) : WOk s:=by
 have mk : ∀ {f l g : Int} {e : Bool} {i : Int} {r : Bool} {d : Int} {x : List Int},CoreIs s f l g e i r d x s.sum → 1 ≤ f → f ≤ 14 → 1 ≤ l → l ≤ 64 → 0 ≤ d → d ≤ 15 → 0 ≤ g → g < 32768 → 0 ≤ i → i < 4294967296 → (f = 9 → l % 8 ≠ 0 → x ≠ []) → (∀ y ∈ x,0 ≤ y ∧ y < 256) → x.length ≤ 100 → WOk s:=by
  intro f l g e i r d x C a1 a2 a3 a4 a5 a6 a7 a8 a9 a10 a11 a12 a13
  obtain ⟨h1,h2,h3,h4,h5,h6,h7,h8, -⟩:=C
  subst h1 h2 h3 h5 h7 h8
  exact ⟨a1,a2,a3,a4,hr0,hr1,a5,a6,a7,a8,a9,a10,a11,a12,a13⟩
 have nob : ∀ y ∈ ([] : List Int),(0 : Int) ≤ y ∧ y < 256:=fun y hy => by cases hy
 have sub : ∀ {q : List Int},(∀ x ∈ q,x ∈ p) → Bits q:=fun hq x hx => hp x (hq x hx)
 have hdI : ∀ {H : List Int} {e r : Bool} {i : Int},Hd H e r i → (∀ x ∈ H,x ∈ p) → 0 ≤ i ∧ i < 4294967296:=by
  intro H e r i hh hq
  cases hh with
  | base a r z I h =>
   have hI : Bits I:=sub (fun x hx => hq x (by simp [hx]))
   exact ⟨(V_range hI).1,V_lt hI (n:=32) (by omega) (by decide)⟩
  | ext a r q z y I J h k =>
   have hI : Bits (I ++ J):=sub (fun x hx => hq x (by rcases List.mem_append.1 hx with h2 | h2 <;> simp [h2]))
   exact ⟨(V_range hI).1,V_lt hI (n:=32) (by simp;omega) (by decide)⟩
 have dB : ∀ {D : List Int},D.length ≤ 4 → (∀ x ∈ D,x ∈ p) → 0 ≤ V D ∧ V D ≤ 15:=by
  intro D hd hq
  have h1:=V_lt (sub hq) hd (m:=16) (by decide)
  exact ⟨(V_range (sub hq)).1,by omega⟩
 have gB : ∀ {C : List Int},C.length ≤ 15 → (∀ x ∈ C,x ∈ p) → 0 ≤ V C ∧ V C < 32768:=by
  intro C hd hq
  exact ⟨(V_range (sub hq)).1,V_lt (sub hq) hd (m:=32768) (by decide)⟩
 cases h with
 | sof => exact mk (core_is hs rfl) (by decide) (by decide) (by decide) (by decide) (by decide) (by decide) (by decide) (by decide) (by decide) (by decide) (fun h => absurd h (by decide)) nob (by simp)
 | ida a I h =>
  have hI : Bits I:=sub (fun x hx => by simp [hx])
  exact mk (core_is hs rfl) (by decide) (by decide) (by omega) (by omega) (by decide) (by decide) (by decide) (by decide) (V_range hI).1 (V_lt hI (n:=32) (by omega) (by decide)) (fun h => absurd h (by decide)) nob (by simp)
 | rtr a I h =>
  have hI : Bits I:=sub (fun x hx => by simp [hx])
  exact mk (core_is hs rfl) (by decide) (by decide) (by omega) (by omega) (by decide) (by decide) (by decide) (by decide) (V_range hI).1 (V_lt hI (n:=32) (by omega) (by decide)) (fun h => absurd h (by decide)) nob (by simp)
 | ide a r I h =>
  have hI : Bits I:=sub (fun x hx => by simp [hx])
  exact mk (core_is hs rfl) (by decide) (by decide) (by omega) (by omega) (by decide) (by decide) (by decide) (by decide) (V_range hI).1 (V_lt hI (n:=32) (by omega) (by decide)) (fun h => absurd h (by decide)) nob (by simp)
 | idb a r I J h k =>
  have hI : Bits (I ++ J):=sub (fun x hx => by rcases List.mem_append.1 hx with h2 | h2 <;> simp [h2])
  exact mk (core_is hs rfl) (by decide) (by decide) (by omega) (by omega) (by decide) (by decide) (by decide) (by decide) (V_range hI).1 (V_lt hI (n:=32) (by simp;omega) (by decide)) (fun h => absurd h (by decide)) nob (by simp)
 | rtrx a r I J h k =>
  have hI : Bits (I ++ J):=sub (fun x hx => by rcases List.mem_append.1 hx with h2 | h2 <;> simp [h2])
  exact mk (core_is hs rfl) (by decide) (by decide) (by omega) (by omega) (by decide) (by decide) (by decide) (by decide) (V_range hI).1 (V_lt hI (n:=32) (by simp;omega) (by decide)) (fun h => absurd h (by decide)) nob (by simp)
 | resx a r q I J Z h k z =>
  have hI : Bits (I ++ J):=sub (fun x hx => by rcases List.mem_append.1 hx with h2 | h2 <;> simp [h2])
  exact mk (core_is hs rfl) (by decide) (by decide) (by omega) (by omega) (by decide) (by decide) (by decide) (by decide) (V_range hI).1 (V_lt hI (n:=32) (by simp;omega) (by decide)) (fun h => absurd h (by decide)) nob (by simp)
 | resb a r I h =>
  have hI : Bits I:=sub (fun x hx => by simp [hx])
  exact mk (core_is hs rfl) (by decide) (by decide) (by omega) (by omega) (by decide) (by decide) (by decide) (by decide) (V_range hI).1 (V_lt hI (n:=32) (by omega) (by decide)) (fun h => absurd h (by decide)) nob (by simp)
 | dlc H D e r i h d =>
  obtain ⟨i0,i1⟩:=hdI h (fun x hx => by simp [hx])
  obtain ⟨d0,d1⟩:=dB (D:=D) (by omega) (fun x hx => by simp [hx])
  exact mk (core_is hs rfl) (by decide) (by decide) (by omega) (by omega) d0 d1 (by decide) (by decide) i0 i1 (fun h => absurd h (by decide)) nob (by simp)
 | data H D X e r i h d x =>
  obtain ⟨i0,i1⟩:=hdI h (fun x hx => by simp [hx])
  obtain ⟨d0,d1⟩:=dB (D:=D) (by omega) (fun x hx => by simp [hx])
  have hr:=dataB_range (r:=r) d0
  have hlen:=bytesB_length X
  exact mk (core_is hs rfl) (by decide) (by decide) (by omega) (by omega) d0 d1 (by decide) (by decide) i0 i1 (fun _ hne hx => by rw [hx] at hlen;simp at hlen;omega) (bytesB_range X) (by omega)
 | crc H D X C e r i h d x c =>
  obtain ⟨i0,i1⟩:=hdI h (fun x hx => by simp [hx])
  obtain ⟨d0,d1⟩:=dB (D:=D) (by omega) (fun x hx => by simp [hx])
  obtain ⟨g0,g1⟩:=gB (C:=C) (by omega) (fun x hx => by simp [hx])
  have hr:=dataB_range (r:=r) d0
  have hlen:=bytesB_length X
  exact mk (core_is hs rfl) (by decide) (by decide) (by omega) (by omega) d0 d1 g0 g1 i0 i1 (fun h => absurd h (by decide)) (bytesB_range X) (by omega)
 | del H D X C T e r i h d x c t =>
  obtain ⟨i0,i1⟩:=hdI h (fun x hx => by simp [hx])
  obtain ⟨d0,d1⟩:=dB (D:=D) (by omega) (fun x hx => by simp [hx])
  obtain ⟨g0,g1⟩:=gB (C:=C) (by omega) (fun x hx => by simp [hx])
  have hr:=dataB_range (r:=r) d0
  have hlen:=bytesB_length X
  exact mk (core_is hs rfl) (by omega) (by omega) (by omega) (by omega) d0 d1 g0 g1 i0 i1 (fun h => absurd h (by omega)) (bytesB_range X) (by omega)
 | eof H D X C T e r i h d x c t3 t =>
  obtain ⟨i0,i1⟩:=hdI h (fun x hx => by simp [hx])
  obtain ⟨d0,d1⟩:=dB (D:=D) (by omega) (fun x hx => by simp [hx])
  obtain ⟨g0,g1⟩:=gB (C:=C) (by omega) (fun x hx => by simp [hx])
  have hr:=dataB_range (r:=r) d0
  have hlen:=bytesB_length X
  exact mk (core_is hs rfl) (by omega) (by omega) (by omega) (by omega) d0 d1 g0 g1 i0 i1 (fun h => absurd h (by omega)) (bytesB_range X) (by omega)
def codeL (s : WS) (b : Int) : Int :=
 if s.field = 1 then (if b = 1 then 4 else 0)
 else if s.field = 11 then (if b = 0 then 4 else 0)
 else if s.field = 13 then (if b = 0 then 4 else if crcOkW s = true then 0 else 5)
 else if s.field = 14 then (if 1 < s.left ∧ b = 0 then 4 else if s.left = 2 then 1 else if s.left = 1 ∧ b = 0 then 6 else if s.left = 1 then 2 else 0)
 else 0
theorem code_plain (s : WS) (b : Int) (h0 : s.code = 0) : (plainW s b).code = codeL s b:=by
 have e1 : (sumW s b).code = 0 ∧ (sumW s b).field = s.field ∧ (sumW s b).left = s.left ∧ (10 < s.field → crcOkW (sumW s b) = crcOkW s):=by
  unfold sumW
  split
  ·exact ⟨h0,rfl,rfl,fun h => by omega⟩
  ·exact ⟨h0,rfl,rfl,fun _ => rfl⟩
 have e2 : (plainW s b).code = (takeW (sumW s b) b).code:=by unfold plainW;rw [nextW_eq]
 rw [e2]
 obtain ⟨a1,a2,a3,a4⟩:=e1
 generalize sumW s b = t at a1 a2 a3 a4 ⊢
 unfold takeW codeL endW
 rw [a2,a3]
 by_cases c1 : s.field = 1
 ·rw [if_pos c1,if_pos c1];split <;> first | rfl | exact a1
 rw [if_neg c1,if_neg c1]
 by_cases c2 : s.field = 2 ∨ s.field = 5
 ·rw [if_pos c2,if_neg (by omega),if_neg (by omega),if_neg (by omega)];exact a1
 rw [if_neg c2]
 by_cases c3 : s.field = 3 ∨ s.field = 6
 ·rw [if_pos c3,if_neg (by omega),if_neg (by omega),if_neg (by omega)];exact a1
 rw [if_neg c3]
 by_cases c4 : s.field = 4
 ·rw [if_pos c4,if_neg (by omega),if_neg (by omega),if_neg (by omega)];exact a1
 rw [if_neg c4]
 by_cases c8 : s.field = 8
 ·rw [if_pos c8,if_neg (by omega),if_neg (by omega),if_neg (by omega)];exact a1
 rw [if_neg c8]
 by_cases c9 : s.field = 9
 ·rw [if_pos c9,if_neg (by omega),if_neg (by omega),if_neg (by omega)];exact a1
 rw [if_neg c9]
 by_cases c10 : s.field = 10
 ·rw [if_pos c10,if_neg (by omega),if_neg (by omega),if_neg (by omega)];exact a1
 rw [if_neg c10]
 by_cases c11 : s.field = 11
 ·rw [if_pos c11,if_pos c11];split <;> first | rfl | exact a1
 rw [if_neg c11,if_neg c11]
 by_cases c13 : s.field = 13
 ·rw [if_pos c13,if_pos c13,a4 (by omega)]
  by_cases hb : b = 0
  ·rw [if_pos hb,if_pos hb]
  ·rw [if_neg hb,if_neg hb]
   by_cases hc : crcOkW s = true
   ·rw [if_pos hc,if_pos hc];exact a1
   ·rw [if_neg hc,if_neg hc]
 rw [if_neg c13,if_neg c13]
 by_cases c14 : s.field = 14
 ·rw [if_pos c14,if_pos c14]
  by_cases d1 : 1 < s.left ∧ b = 0
  ·rw [if_pos d1,if_pos d1]
  rw [if_neg d1,if_neg d1]
  by_cases d2 : s.left = 2
  ·rw [if_pos d2,if_pos d2]
  rw [if_neg d2,if_neg d2]
  by_cases d3 : s.left = 1 ∧ b = 0
  ·rw [if_pos d3,if_pos d3]
  rw [if_neg d3,if_neg d3]
  by_cases d4 : s.left = 1
  ·rw [if_pos d4,if_pos d4]
  ·rw [if_neg d4,if_neg d4];exact a1
 ·rw [if_neg c14,if_neg c14];exact a1
theorem crcS_crcL {l : List Int} (h : Bits l) : crcS l = (crcL l : Int):=crcI_list l h
theorem crcOk_full {H D X C T : List Int} {e r : Bool} {i : Int} (h : Hd H e r i) (d : D.length = 4) (x : (X.length : Int) = 8 * dataB r (V D)) (c : C.length = 15) (t : T.length ≤ 10) (hb : Bits (H ++ D ++ X ++ C ++ T)) :
  Ev (fun k => spec_l1crcOk.f k (H ++ D ++ X ++ C ++ T)) (crcS (H ++ D ++ X) == V C):=by
 have hD : Bits D:=bits_len hb D (fun x hx => by simp [hx])
 have hC : Bits C:=bits_len hb C (fun x hx => by simp [hx])
 have hB : Bits (H ++ D ++ X):=bits_len hb _ (fun x hx => by simp only [List.mem_append] at hx ⊢;exact .inl (.inl hx))
 have hl:=hd_len h
 have hH : H.length = 15 ∨ H.length = 35:=by rw [hl];split <;> omega
 have hr:=dataB_range (r:=r) (V_range hD).1
 have hlay:=lay_full (R:=X ++ C ++ T) h d hD (by simp;omega)
 rw [← List.append_assoc, ← List.append_assoc] at hlay
 have hlen : (H ++ D ++ X ++ C ++ T).length = (H ++ D ++ X).length + 15 + T.length:=by simp [c];omega
 have hlB : ((H ++ D ++ X).length : Int) = (H.length : Int) + 4 + 8 * dataB r (V D):=by simp [d];omega
 have hlB2 : (H ++ D ++ X).length ≤ 103:=by omega
 unfold spec_l1crcOk.f
 refine Ev.bind hlay ?_
 simp only []
 rw [← hlB]
 generalize hE : H ++ D ++ X = B at *
 have w15 : wrap64 ((B.length : Int) + 15) = (B.length : Int) + 15:=w64 (by omega) (by omega)
 refine ev_neg (by omega) ?_
 rw [w15,decide_eq_false (by omega)]
 have t1 : (B ++ C ++ T).take ((B.length : Int).toNat) = B:=by rw [Int.toNat_natCast,List.append_assoc,List.take_left]
 have t2 : ((B ++ C ++ T).take (((B.length : Int) + 15).toNat)).drop ((B.length : Int).toNat) = C:=by
  rw [show ((B.length : Int) + 15).toNat = (B ++ C).length by simp [c];omega,List.take_left,Int.toNat_natCast,List.drop_left]
 have hcrc : Ev (fun k => spec_Crc15.f k (strOfNums B)) (crcS B):=by
  have h2:=specCrc15_ev (strOfNums B) (by rw [strOfNums_size];omega)
  have : crcV (strOfNums B) = crcS B:=by
   unfold crcV
   rw [if_pos ⟨by rw [strOfNums_size];omega,isBits_str hB⟩,bytes_str B hB.range,crcS_crcL hB]
  rw [this] at h2
  exact h2
 refine Ev.step (f:=fun k => (spec_Crc15.f k (strOfNums B)).bind fun t285 => (spec_l1val.f k (strOfNums C)).bind fun t287 => some (t285 == t287)) (fun k => ?_) (Ev.bind hcrc (Ev.bind (val_ev C hC (by omega)) (Ev.now _)))
 simp only [spec_l1crcOk.j0]
 rw [if_neg (by decide),if_pos (by omega),if_pos (by omega),w15,t1]
 congr 1
 funext t285
 rw [if_pos (by omega),if_pos (by omega),t2]
theorem look_ev {p : List Int} {c : Int × Int × Int × Bool × Int × Bool × Int × List Int} {m : Int} (h : Ph p c m) (hp : Bits p) (s : WS) (hs : core s = c) (hm : s.sum = m) (b : Int) (hb : b = 48 ∨ b = 49) : Ev (fun k => spec_l1look.f k p b) (codeL s (b - 48)):=by
 have hf:=field_ev h hp
 have hfs : s.field = c.1:=by rw [← hs];rfl
 rw [← hfs] at hf
 unfold spec_l1look.f codeL
 refine Ev.bind hf ?_
 by_cases c1 : s.field = 1
 ·refine ev_pos c1 ?_
  rw [if_pos c1]
  rcases hb with rfl | rfl
  ·exact ev_neg (by decide) (Ev.now _)
  ·exact ev_pos rfl (Ev.now _)
 refine ev_neg c1 ?_
 rw [if_neg c1]
 by_cases c11 : s.field = 11
 ·refine ev_pos c11 ?_
  rw [if_pos c11]
  rcases hb with rfl | rfl
  ·exact ev_pos rfl (Ev.now _)
  ·exact ev_neg (by decide) (Ev.now _)
 refine ev_neg c11 ?_
 rw [if_neg c11]
 by_cases c13 : s.field = 13
 ·refine ev_pos c13 ?_
  rw [if_pos c13]
  rcases hb with rfl | rfl
  ·exact ev_pos rfl (Ev.now _)
  ·refine ev_neg (by decide) ?_
   have hk : Ev (fun k => spec_l1crcOk.f k p) (crcOkW s):=by
    cases h with
    | del H D X C T e r i h d x cc t =>
     have hC:=core_is hs hm
     have:=crcOk_full h d x cc (by omega) hp
     have e1 : crcOkW s = (crcS (H ++ D ++ X) == V C):=by unfold crcOkW;rw [hC.m,hC.g,c13];rfl
     rw [e1];exact this
    | _ => exfalso;first | (have:=(core_is hs hm).f;omega) | omega
   refine Ev.bind hk ?_
   cases hw : crcOkW s with
   | true => exact ev_pos rfl (Ev.now _)
   | false => exact ev_neg (by decide) (Ev.now _)
 refine ev_neg c13 ?_
 rw [if_neg c13]
 by_cases c14 : s.field = 14
 ·refine ev_pos c14 ?_
  rw [if_pos c14]
  cases h with
  | eof H D X C T e r i h d x cc t3 t =>
   have hC:=core_is hs hm
   have hD : Bits D:=bits_len hp D (fun x hx => by simp [hx])
   have hl:=hd_len h
   have hH : H.length = 15 ∨ H.length = 35:=by rw [hl];split <;> omega
   have hr:=dataB_range (r:=r) (V_range hD).1
   have hlay:=lay_full (R:=X ++ C ++ T) h d hD (by simp;omega)
   rw [← List.append_assoc, ← List.append_assoc] at hlay
   have hlen : ((H ++ D ++ X ++ C ++ T).length : Int) = (H.length : Int) + 4 + 8 * dataB r (V D) + 15 + T.length:=by simp [d,cc];omega
   have hleft:=hC.l
   refine Ev.bind hlay ?_
   simp only []
   have ew : wrap64 (wrap64 (((H ++ D ++ X ++ C ++ T).length : Int) - ((H.length : Int) + 4 + 8 * dataB r (V D))) - 18) = (T.length : Int) - 3:=by unfold wrap64;omega
   rw [ew]
   by_cases c6 : (T.length : Int) - 3 < 6
   ·refine ev_pos c6 ?_
    rcases hb with rfl | rfl
    ·refine Ev.step (f:=fun _ => some 4) (fun k => ?_) ?_
     ·simp only [spec_l1look.j0];rw [if_pos (by decide)]
     ·rw [if_pos ⟨by omega,by decide⟩];exact Ev.now _
    ·rw [if_neg (by omega)]
     by_cases c5 : (T.length : Int) - 3 = 5
     ·refine Ev.step (f:=fun _ => some 1) (fun k => ?_) ?_
      ·simp only [spec_l1look.j0];rw [if_neg (by decide),if_pos c5]
      ·rw [if_pos (by omega)];exact Ev.now _
     ·refine Ev.step (f:=fun k => spec_l1look.j1 k ((T.length : Int) - 3) false) (fun k => ?_) (Ev.step (f:=fun _ => some 0) (fun k => ?_) ?_)
      ·simp only [spec_l1look.j0];rw [if_neg (by decide),if_neg c5,if_neg (by omega)]
      ·simp only [spec_l1look.j1];rw [if_neg (by decide),if_neg (by omega)]
      ·rw [if_neg (by omega),if_neg (by omega),if_neg (by omega)];exact Ev.now _
   ·refine ev_neg c6 ?_
    have c7 : (T.length : Int) - 3 = 6:=by omega
    refine Ev.step (f:=fun k => spec_l1look.j1 k ((T.length : Int) - 3) (b == 48)) (fun k => ?_) ?_
    ·simp only [spec_l1look.j0];rw [if_neg (by decide),if_neg (by omega),if_pos c7]
    ·rcases hb with rfl | rfl
     ·refine Ev.step (f:=fun _ => some 6) (fun k => ?_) ?_
      ·simp only [spec_l1look.j1];rw [if_pos (by decide)]
      ·rw [if_neg (by omega),if_neg (by omega),if_pos ⟨by omega,by decide⟩];exact Ev.now _
     ·refine Ev.step (f:=fun _ => some 2) (fun k => ?_) ?_
      ·simp only [spec_l1look.j1];rw [if_neg (by decide),if_pos c7]
      ·rw [if_neg (by omega),if_neg (by omega),if_neg (by omega),if_pos (by omega)];exact Ev.now _
  | del H D X C T e r i h d x cc t => exfalso;have:=(core_is hs hm).f;omega
  | _ => exfalso;first | (have:=(core_is hs hm).f;omega) | omega
 ·refine ev_neg c14 ?_
  rw [if_neg c14]
  exact Ev.now _
end Go.Proofs.Ytdoclpgciadjaaa.P

namespace Go.Proofs.Ytdoclpgciadjaaa.P
open Go Go.RowKit Go.Proofs.YtdoclpgciadjaaaW.PrintWords
set_option linter.unusedVariables false
structure At (all : List Int) (i : Nat) (s : WS) (p : List Int) : Prop where
 code : s.code = 0 ∨ s.code = 1
 ph : Ph p (core s) s.sum
 bits : Bits p
 r0 : 0 ≤ s.run
 r1 : s.run ≤ 5
 len : p.length ≤ i
 trail : s.field ≤ 11 → ∃ (run : Nat) (last : Int),Trail all i run last ∧ s.run = run ∧ (0 < i → s.level = last)
theorem At.ok {all : List Int} {i : Nat} {s : WS} {p : List Int} (h : At all i s p) : WOk s:=ph_ok h.ph h.bits s rfl h.r0 h.r1
def zeroW : WS:=⟨0,0,0,0,0,0,0,false,0,false,0, []⟩
def startW : WS:=⟨0,1,1,0,0,0,0,false,0,false,0, []⟩
theorem At.start (all : List Int) : At all 0 startW []:=⟨.inl rfl,Ph.sof,(fun x hx => by cases hx),by decide,by decide,by simp,fun _ => ⟨0,0,Trail.zero _ _,rfl,fun h => by omega⟩⟩
theorem plainW_run (s : WS) (b : Int) : (plainW s b).run = s.run ∧ (plainW s b).level = s.level:=by
 have e1 : (sumW s b).run = s.run ∧ (sumW s b).level = s.level:=by unfold sumW;split <;> exact ⟨rfl,rfl⟩
 have e2 : (takeW (sumW s b) b).run = (sumW s b).run ∧ (takeW (sumW s b) b).level = (sumW s b).level:=by
  generalize sumW s b = t
  have e3 : (endW t b).run = t.run ∧ (endW t b).level = t.level:=by unfold endW;(repeat' split) <;> exact ⟨rfl,rfl⟩
  constructor
  ·unfold takeW
   simp only [apply_ite WS.run,e3.1,ite_self]
  ·unfold takeW
   simp only [apply_ite WS.level,e3.2,ite_self]
 unfold plainW
 rw [nextW_eq]
 exact ⟨e2.1.trans e1.1,e2.2.trans e1.2⟩
inductive Step (all : List Int) (i : Nat) (s : WS) (p : List Int) (c : Int) : Prop
 | stop (hd : dueW s = true) (hl : c = s.level) (hc : (hearW s c).code = 3)
 | skip (hd : dueW s = true) (hl : c ≠ s.level) (hc : (hearW s c).code = 0) (ha : At all (i + 1) (hearW s c) p)
 | take (hd : dueW s = false) (hc : (hearW s c).code = codeL s (c - 48)) (ha : (hearW s c).code = 0 ∨ (hearW s c).code = 1 → At all (i + 1) (hearW s c) (p ++ [c]))
theorem codeL_same {s t : WS} (b : Int) (h : core t = core s) (hm : t.sum = s.sum) : codeL t b = codeL s b:=by
 have C:=core_is (s:=t) (f:=s.field) (l:=s.left) (g:=s.got) (e:=s.ext) (i:=s.id) (r:=s.rtr) (d:=s.dlc) (x:=s.data) h hm
 unfold codeL crcOkW
 rw [C.f,C.l,C.g,C.m]
theorem at_step {all : List Int} {i : Nat} {s : WS} {p : List Int} (h : At all i s p) (hi : i < all.length) (hb : Bits all) : Step all i s p (rd all (i : Int)):=by
 have hc : rd all (i : Int) = 48 ∨ rd all (i : Int) = 49:=hb _ (by have:=rd_get all i hi;exact List.mem_of_getElem? this)
 generalize hcc : rd all (i : Int) = c at hc ⊢
 have hr0:=h.r0
 have hr1:=h.r1
 cases hd : dueW s with
 | true =>
  have hf : s.field ≤ 11:=by
   unfold dueW at hd
   simp only [Bool.and_eq_true,decide_eq_true_eq] at hd
   exact hd.2
  have hd0 : dueW { s with code:=0 } = true:=hd
  by_cases hl : c = s.level
  ·refine .stop hd hl ?_
   unfold hearW
   simp only []
   rw [if_pos hd0,if_pos hl]
  ·have e : hearW s c = { s with code:=0,run:=1,level:=c }:=by
    unfold hearW
    simp only []
    rw [if_pos hd0,if_neg hl]
   refine .skip hd hl (by rw [e]) ?_
   rw [e]
   refine ⟨.inl rfl,h.ph,h.bits,(show (0 : Int) ≤ 1 by decide),(show (1 : Int) ≤ 5 by decide),Nat.le_succ_of_le h.len,fun _ => ?_⟩
   obtain ⟨run,last,ht,hrun,hlev⟩:=h.trail hf
   have hi0 : 0 < i:=by
    rcases Nat.eq_zero_or_pos i with h0 | h0
    ·exfalso
     have:=ht.run_le
     unfold dueW at hd
     simp only [Bool.and_eq_true,beq_iff_eq] at hd
     omega
    ·exact h0
   have hn:=ht.next hi
   rw [hcc,if_neg (by rw [← hlev hi0];exact hl)] at hn
   exact ⟨1,c,hn,rfl,fun _ => rfl⟩
 | false =>
  have hd0 : ¬ dueW { s with code:=0 } = true:=by
   have : dueW { s with code:=0 } = dueW s:=rfl
   rw [this,hd];decide
  obtain ⟨s1,e,hcore,hsum,hc0,hrun1,hlow⟩ : ∃ s1 : WS,hearW s c = plainW s1 (c - 48) ∧ core s1 = core s ∧ s1.sum = s.sum ∧ s1.code = 0 ∧ (0 ≤ s1.run ∧ s1.run ≤ 5) ∧ (s.field ≤ 10 → ∃ (run : Nat),Trail all (i + 1) run c ∧ s1.run = run ∧ s1.level = c):=by
   by_cases hf : s.field ≤ 10
   ·obtain ⟨run,last,ht,hrun,hlev⟩:=h.trail (by omega)
    have hr4:=run_le4 hd hf hr1
    have hn:=ht.next hi
    rw [hcc] at hn
    by_cases hm : 0 < s.run ∧ s.level = c
    ·have hi0 : 0 < i:=by have:=ht.run_le;omega
     refine ⟨{ s with code:=0,run:=s.run + 1 }, ?_,rfl,rfl,rfl,⟨by simp only [];omega,by simp only [];omega⟩,fun _ => ⟨run + 1, ?_,by simp only [];omega,hm.2⟩⟩
     ·unfold hearW
      simp only []
      rw [if_neg hd0,if_pos hf,if_pos hm]
     ·rw [if_pos (by rw [← hlev hi0];exact hm.2.symm)] at hn
      exact hn
    ·refine ⟨{ s with code:=0,run:=1,level:=c }, ?_,rfl,rfl,rfl,⟨(show (0 : Int) ≤ 1 by decide),(show (1 : Int) ≤ 5 by decide)⟩,fun _ => ⟨1, ?_,rfl,rfl⟩⟩
     ·unfold hearW
      simp only []
      rw [if_neg hd0,if_pos hf,if_neg hm]
     ·by_cases hz : run = 0
      ·subst hz
       have : (if c = last then 0 + 1 else 1) = 1:=by split <;> rfl
       rw [this] at hn
       exact hn
      ·have hi0 : 0 < i:=by have:=ht.run_le;omega
       rw [if_neg (fun e => hm ⟨by omega,by rw [hlev hi0];exact e.symm⟩)] at hn
       exact hn
   ·refine ⟨{ s with code:=0,run:=0 }, ?_,rfl,rfl,rfl,⟨(show (0 : Int) ≤ 0 by decide),(show (0 : Int) ≤ 5 by decide)⟩,fun h2 => absurd h2 hf⟩
    unfold hearW
    simp only []
    rw [if_neg hd0,if_neg hf]
  have hcode : (hearW s c).code = codeL s (c - 48):=by rw [e,code_plain s1 _ hc0,codeL_same _ hcore hsum]
  refine .take hd hcode (fun hrunning => ?_)
  have hfs : s1.field = s.field:=by have:=congrArg (fun x => x.1) hcore;exact this
  have hls : s1.left = s.left:=by have:=congrArg (fun x => x.2.1) hcore;exact this
  have hend : ¬ (s1.field = 14 ∧ s1.left = 1):=by
   rintro ⟨h1,h2⟩
   rw [hcode] at hrunning
   unfold codeL at hrunning
   rw [if_neg (by omega),if_neg (by omega),if_neg (by omega),if_pos (by omega),if_neg (by omega),if_neg (by omega)] at hrunning
   by_cases hz : c - 48 = 0
   ·rw [if_pos ⟨by omega,hz⟩] at hrunning;omega
   ·rw [if_neg (fun h => hz h.2),if_pos (by omega)] at hrunning;omega
  obtain ⟨c',m',hP,hc',hm'⟩:=ph_step h.ph s1 hcore hsum c hc h.bits hend
  have hpr:=plainW_run s1 (c - 48)
  rw [e] at hrunning ⊢
  refine ⟨hrunning,by rw [hc',hm'];exact hP,h.bits.append (fun x hx => by rw [List.mem_singleton] at hx;rw [hx];exact hc),by rw [hpr.1];exact hrun1.1,by rw [hpr.1];exact hrun1.2,by rw [List.length_append,List.length_singleton];have:=h.len;omega,fun hf11 => ?_⟩
  have hf10 : s.field ≤ 10:=by
   rcases (show 10 < s.field ∨ s.field ≤ 10 by omega) with hlt | hge
   ·exfalso
    have hok:=h.ok
    have f1:=hok.f1
    have hle : s1.field + 1 ≤ (plainW s1 (c - 48)).field ∨ s1.field = 14:=by
     by_cases h14 : s1.field = 14
     ·exact .inr h14
     ·left
      have hleft : s1.left = 1:=by
       have hph:=h.ph
       generalize hg : core s = cc at hph
       generalize s.sum = mm at hph
       cases hph with
       | del H D X C T e r i h d x c t => rw [hls];exact (core_is hg rfl).l
       | eof H D X C T e r i h d x c t3 t => have:=(core_is hg rfl).f;omega
       | _ => exfalso;have:=(core_is hg rfl).f;omega
      have C1 : CoreIs s1 s1.field 1 s1.got s1.ext s1.id s1.rtr s1.dlc s1.data s1.sum:=⟨rfl,hleft,rfl,rfl,rfl,rfl,rfl,rfl,rfl⟩
      have T:=tk_late C1 (by omega) (c - 48)
      have hpl : plainW s1 (c - 48) = nextW (tk s1 (c - 48)):=rfl
      have N:=next_is T (next_over T.l T.f (.inl (by omega)) (.inl (by omega)) rfl)
      rw [hpl,N.f]
      omega
    rcases hle with h1 | h1
    ·omega
    ·-- field 14 stays
     have hl2 : s1.left ≠ 1:=fun h2 => hend ⟨h1,h2⟩
     have C1 : CoreIs s1 14 s1.left s1.got s1.ext s1.id s1.rtr s1.dlc s1.data s1.sum:=⟨h1,rfl,rfl,rfl,rfl,rfl,rfl,rfl,rfl⟩
     have T:=tk_late C1 (by omega) (c - 48)
     have l0:=hok.l0
     have N:=next_is T (next_more T.l (by omega))
     have hpl : plainW s1 (c - 48) = nextW (tk s1 (c - 48)):=rfl
     have : (plainW s1 (c - 48)).field = 14:=by rw [hpl,N.f,T.f]
     omega
   ·exact hge
  obtain ⟨run,ht,hr,hl⟩:=hlow hf10
  exact ⟨run,c,ht,hpr.1.trans hr,fun _ => hpr.2.trans hl⟩
def walkG : List Int → WS → WS
 | [],s => s
 | c :: l,s => if (hearW s c).code = 0 ∨ (hearW s c).code = 1 then walkG l (hearW s c) else if l = [] then hearW s c else { hearW s c with code:=7 }
def walkV (s : ByteArray) : WS:=if s.size ≤ 4000 ∧ isBits s = true then walkG (bytesOf s) startW else { zeroW with code:=8 }
theorem step_next {all : List Int} {i : Nat} {s : WS} {p : List Int} {c : Int} (h : Step all i s p c) (hc : (hearW s c).code = 0 ∨ (hearW s c).code = 1) : ∃ q,At all (i + 1) (hearW s c) q:=by
 cases h with
 | stop hd hl hc2 => omega
 | skip hd hl hc2 ha => exact ⟨p,ha⟩
 | take hd hc2 ha => exact ⟨_,ha hc⟩
theorem bits_of_isBits {s : ByteArray} (h : isBits s = true) : Bits (bytesOf s):=by
 intro x hx
 unfold bytesOf at hx
 obtain ⟨b,hb,rfl⟩:=List.mem_map.1 hx
 unfold isBits at h
 rw [List.all_eq_true] at h
 rcases isBit_cases (h b hb) with rfl | rfl
 ·exact .inl rfl
 ·exact .inr rfl
theorem rd_bytesOf (s : ByteArray) (i : Nat) (h : i < s.size) : rd (bytesOf s) (i : Int) = ((s[i]'h).toNat : Int):=by
 unfold rd bytesOf
 rw [Int.toNat_natCast,List.getD_eq_getElem?_getD,List.getElem?_map,Array.getElem?_toList,Array.getElem?_eq_getElem (show i < s.data.size from h)]
 rfl
end Go.Proofs.Ytdoclpgciadjaaa.P

namespace Go.Proofs.Ytdoclpgciadjaaa.P
open Go.RowKit Go.Proofs.YtdoclpgciadjaaaW.PrintWords Go.Proofs.YtdoclpgciadjaaaW.PrintLast Go.Proofs.YtdoclpgciadjaaaW.PrintMore
set_option linter.unusedVariables false
set_option linter.unusedSimpArgs false
structure WoIn (w wr : World) (p m : Nat) (s : WS) : Prop where
 at_ : ∃ v,WIn w wr p (fun k => m ≤ k) s v
 res : wr.heap[w.heap.size]? = some (objW zeroW (.slice none 0 0))
 size : m ≤ wr.heap.size
theorem walkG_step (l : List Int) (c : Int) (s : WS) (h : (hearW s c).code = 0 ∨ (hearW s c).code = 1) : walkG (c :: l) s = walkG l (hearW s c):=by rw [walkG,if_pos h]
theorem WoIn.next {w wr : World} {p m it n : Nat} {a0 : ByteArray} {s : WS} (h : WoIn w wr p m s) (hit : wr.heap[it]? = some (.stringIter a0 n)) (him : it < m) (hpm : p < m) (hwp : w.heap.size < p) (hwi : w.heap.size ≤ it) (ok : WOk s) (c : Int) (hc : c = 48 ∨ c = 49) :
  Calls Try.prog 134 #[.pointer (some ⟨p,0,none⟩), .int .i32 c] (wr.iterAt it a0 (n + 1)) fun e w' => e = .returned (.tuple #[]) ∧ w'.heap[it]? = some (.stringIter a0 (n + 1)) ∧ WoIn w w' p m (hearW s c):=by
 obtain ⟨v,hi⟩:=h.at_
 have hip : p ≠ it:=fun e => by have h1:=hi.obj;rw [e,hit] at h1;injection h1 with h1;cases h1
 have hir : w.heap.size ≠ it:=fun e => by have h1:=h.res;rw [e,hit] at h1;injection h1 with h1;cases h1
 have hil : w.heap.size ≤ it:=by omega
 have hsz:=Lib.iterAt_size wr it a0 (n + 1)
 have hms:=h.size
 have hiw : WIn w (wr.iterAt it a0 (n + 1)) p (fun k => m ≤ k) s v:=⟨(Lib.iterAt_other wr it p a0 (n + 1) hip).trans hi.obj,R_iterAt hi.row hit (n + 1),Lib.below_iterAt hi.below hil a0 (n + 1),fun k hk => by (try simp only []);omega⟩
 refine (impl_walk_hear.calls p v s c hc (fun k => m ≤ k) w (wr.iterAt it a0 (n + 1)) hiw (Nat.le_of_lt hwp) (by omega) ok).mono ?_
 rintro e w' ⟨rfl,⟨v',ha⟩,ht⟩
 refine ⟨rfl, ?_,⟨v',ha.obj,ha.row, ?_,fun k hk => ?_⟩, ?_, ?_⟩
 ·exact (ht.block (by rw [hsz];exact (Array.getElem?_eq_some_iff.1 hit).1) (by omega)).trans (Lib.iterAt_heap wr it a0 n (n + 1) hit)
 ·exact ht.below hiw.below hiw.below.size (fun k hk => by rcases hk with rfl | hk <;> omega)
 ·have:=ht.size;(try simp only []);omega
 ·exact (ht.block (by rw [hsz];exact (Array.getElem?_eq_some_iff.1 h.res).1) (by omega)).trans ((Lib.iterAt_other wr it _ a0 (n + 1) hir).trans h.res)
 ·have:=ht.size;omega
set_option maxHeartbeats 4000000 in
theorem impl_walkOver.yes (a0 : ByteArray) (w : World) (hsz : a0.size ≤ 4000) (hB0 : isBits a0 = true) :
  Calls Try.prog 81 #[.string a0] w fun e w' => ∃ v,e = .returned (.agg (cellsW (walkG (bytesOf a0) startW) v)) ∧ Kd.R (Kd.int .u8) 5 w' w.heap.size (fun _ => True) v (walkG (bytesOf a0) startW).data ∧ Below w.heap.size w w':=by
 have hbt : Hid (impl_bitText.f a0 4000 = some true):=by
  refine Lib.hid ?_
  unfold impl_bitText.f
  rw [hB0,decide_eq_true (by omega)];rfl
 have HBT:=Lib.hid hB0
 clear hB0
 go_enter Try.func81,Try.ntmps81
 go_wp2_with (fail)
 go_step3
 go_wp2_with (go_at_call 77;refine (impl_bitText.calls _ _ true _ hbt.out).mono ?_;rintro e w1 ⟨rfl,hb1⟩;have HRES : Hid (w1.heap[w.heap.size]? = some (objW zeroW (.slice none 0 0))):=Lib.hid (blk_below (blk_alloc (blk_new w _) _) hb1);have HOBJ : Hid (w1.heap[w.heap.size + 1]? = some (objW zeroW (.slice none 0 0))):=Lib.hid (by have h:=blk_below (blk_new (w.alloc (objW zeroW (.slice none 0 0))) _) hb1;rw [World.size_alloc] at h;exact h);have HB1 : Hid (Below w.heap.size w w1):=Lib.hid (Below.trans (((Below.refl _ _).alloc (Nat.le_refl _) _).alloc (by simp) _) (hb1.mono (by simp;omega)));clear hb1)
 (refine (impl_walk_enter.calls (w.heap.size + 1) _ zeroW 1 _ HOBJ.out (by decide)).mono ?_;intro e w2 hE;have HE:=Lib.hid hE;obtain rfl:=hE.ret;clear hE)
 have HRL : Hid (w.heap.size + 1 < w1.heap.size):=Lib.hid (Array.getElem?_eq_some_iff.1 HOBJ.out).1
 have HRL2 : Hid (w.heap.size + 1 < w2.heap.size):=Lib.hid (Array.getElem?_eq_some_iff.1 HE.out.obj).1
 have HRES2 : Hid (w2.heap[w.heap.size]? = some (objW zeroW (.slice none 0 0))):=Lib.hid ((HE.out.tch.block (by have:=HRL.out;omega) (by omega)).trans HRES.out)
 have HB2 : Hid (Below w.heap.size w w2):=Lib.hid (HE.out.tch.below HB1.out HB1.out.size (fun k hk => by omega))
 go_wp2_with (fail)
 go_step3
 go_wp2_with (fail)
 go_loopw [] (fun wr => ∃ (pos : Nat) (s : WS) (pl : List Int),pos ≤ a0.size ∧ wr.heap[w2.heap.size]? = some (.stringIter a0 pos) ∧ Aside0 (WoIn w wr (w.heap.size + 1) (w2.heap.size + 1) s) ∧ Aside0 (At (bytesOf a0) pos s pl) ∧ Aside0 (walkG ((bytesOf a0).drop pos) s = walkG (bytesOf a0) startW)) (fun wr => a0.size - wr.iterPos w2.heap.size)
 case atStart => exact ⟨0,startW, [],Nat.zero_le _,iter_new w2 a0 0,⟨⟨_,⟨blk_alloc HE.out.obj _,Kd.R_nil _ _ _ _ _,HB2.out.alloc HB2.out.size _,fun k hk => by simpa [World.iter] using hk⟩⟩,blk_alloc HRES2.out _,by simp [World.iter]⟩,⟨At.start _⟩,⟨by rw [List.drop_zero]⟩⟩
 case round =>
  obtain ⟨pos,s,pl,hle,hit,HWO,HAT,HWG⟩:=hrel
  by_cases hp : pos < a0.size
  ·have hbit:=isBits_at HBT.out hp
   have HBits : Hid (Bits (bytesOf a0)):=Lib.hid (bits_of_isBits HBT.out)
   rcases isBit_cases hbit with e | e
   ·have hnx:=fun ty => next_bit_at (P:=Try.prog) _ _ a0 pos ty hit hp (b:=48) (by rw [e];rfl) (by omega)
    have HRD : Hid (rd (bytesOf a0) (pos : Int) = 48):=Lib.hid (by rw [rd_bytesOf a0 pos hp,e];rfl)
    have HN:=Lib.hid (HWO.out.next hit (by omega) (by have:=HRL2.out;omega) (by omega) (by have:=HRL2.out;omega) HAT.out.ok 48 (by omega))
    have HST:=Lib.hid (HRD.out ▸ at_step HAT.out (by rw [bytesOf_length];exact hp) HBits.out)
    have HDR : Hid ((bytesOf a0).drop pos = 48 :: (bytesOf a0).drop (pos + 1)):=Lib.hid (drop_cons a0 pos hp (b:=48) (by rw [e];rfl))
    have HIT:=Lib.hid hit
    clear e hbit hit
    by_cases k0 : (hearW s 48).code = 0
    ·have HNX:=Lib.hid (step_next HST.out (.inl k0))
     have HKK:=Lib.hid k0
     clear k0
     go_wp2_with (go_at_call 134;refine HN.out.mono ?_;rintro e w3 ⟨rfl,hi3,hk3⟩;have HI3:=Lib.hid hi3;have HK3:=Aside0.mk hk3;clear hi3 hk3;obtain ⟨v3,hv3⟩:=HK3.out.at_;have hcode:=cW0 hv3.obj;have hcodef:=fW hv3.obj 0;clear hv3;rw [HKK.out] at hcode)
     go_roundw
     case rel => obtain ⟨pl2,ha2⟩:=HNX.out;exact ⟨pos + 1,hearW s 48,pl2,hp,HI3.out,HK3,⟨ha2⟩,⟨by rw [← HWG.out,HDR.out,walkG_step _ _ _ (.inl HKK.out)]⟩⟩
     case measure => rw [iterPos_at HI3.out,iterPos_at HIT.out];omega
    by_cases k1 : (hearW s 48).code = 1
    ·have HNX:=Lib.hid (step_next HST.out (.inr k1))
     have HKK:=Lib.hid k1
     clear k1
     go_wp2_with (go_at_call 134;refine HN.out.mono ?_;rintro e w3 ⟨rfl,hi3,hk3⟩;have HI3:=Lib.hid hi3;have HK3:=Aside0.mk hk3;clear hi3 hk3;obtain ⟨v3,hv3⟩:=HK3.out.at_;have hcode:=cW0 hv3.obj;have hcodef:=fW hv3.obj 0;clear hv3;rw [HKK.out] at hcode)
     go_roundw
     case rel => obtain ⟨pl2,ha2⟩:=HNX.out;exact ⟨pos + 1,hearW s 48,pl2,hp,HI3.out,HK3,⟨ha2⟩,⟨by rw [← HWG.out,HDR.out,walkG_step _ _ _ (.inr HKK.out)]⟩⟩
     case measure => rw [iterPos_at HI3.out,iterPos_at HIT.out];omega
    have HK0:=Lib.hid k0
    have HK1:=Lib.hid k1
    have b0 : ((hearW s 48).code == 0) = false:=by simp [k0]
    have b1 : ((hearW s 48).code == 1) = false:=by simp [k1]
    clear k0 k1
    by_cases hm : pos + 1 < a0.size
    ·have bm : decide ((pos : Int) < (a0.size : Int) - 1) = true:=decide_eq_true (by omega)
     have HM:=Lib.hid hm
     clear hm
     go_wp2_with (fail)
     (refine HN.out.mono ?_;rintro e w3 ⟨rfl,hi3,hk3⟩;have HK3:=Lib.hid hk3;clear hi3 hk3)
     obtain ⟨vz,hvz⟩:=HK3.out.at_
     obtain ⟨Az,cz,ez⟩:=Kd.R_slice hvz.row
     subst ez
     have HVZ:=Lib.hid hvz
     have hzo:=hvz.obj
     clear hvz
     have hz0:=cW0 hzo
     have hz1:=cW1 hzo
     have hz2:=cW2 hzo
     have hz3:=cW3 hzo
     have hz4:=cW4 hzo
     have hz5:=cW5 hzo
     have hz6:=cW6 hzo
     have hz7:=cW7 hzo
     have hz8:=cW8 hzo
     have hz9:=cW9 hzo
     have hz10:=cW10 hzo
     have hz11:=cW11 hzo
     have hzf0:=fW hzo 0
     have HZO:=Lib.hid hzo
     clear hzo
     have hzr:=HK3.out.res
     have hfr0:=fW hzr 0
     have hfr1:=fW hzr 1
     have hfr2:=fW hzr 2
     have hfr3:=fW hzr 3
     have hfr4:=fW hzr 4
     have hfr5:=fW hzr 5
     have hfr6:=fW hzr 6
     have hfr7:=fW hzr 7
     have hfr8:=fW hzr 8
     have hfr9:=fW hzr 9
     have hfr10:=fW hzr 10
     have hfr11:=fW hzr 11
     have hcr0:=cW0 hzr
     have hcr1:=cW1 hzr
     have hcr2:=cW2 hzr
     have hcr3:=cW3 hzr
     have hcr4:=cW4 hzr
     have hcr5:=cW5 hzr
     have hcr6:=cW6 hzr
     have hcr7:=cW7 hzr
     have hcr8:=cW8 hzr
     have hcr9:=cW9 hzr
     have hcr10:=cW10 hzr
     have hcr11:=cW11 hzr
     have HZR:=Lib.hid hzr
     clear hzr
     go_wp2_with (fail)
     have HV7:=Lib.hid (HVZ.out.put (u := .int .i64 7) (j:=0) (s' := { hearW s 48 with code:=7 }) (by have:=HRL2.out;omega) (by omega) (setW0 HZO.out 7) rfl)
     have HR7:=Lib.hid (((Tch.refl1 w3 (w.heap.size + 1)).one 0 (.int .i64 7)).block (Array.getElem?_eq_some_iff.1 HZR.out).1 (by omega) |>.trans HZR.out)
     rw [Exit.noGoto_ret]
     have HEQ : Hid (({ hearW s 48 with code:=7 } : WS) = walkG (bytesOf a0) startW):=Lib.hid (by rw [← HWG.out,HDR.out,walkG,if_neg (by rintro (h | h);exact HK0.out h;exact HK1.out h),if_neg (by intro h;have:=congrArg List.length h;rw [List.length_drop,bytesOf_length] at this;have:=HM.out;simp at *;omega)])
     have HT:=Lib.hid (put12_tch (w3.setCell ⟨w.heap.size + 1,0,none⟩ (.int .i64 7)) w.heap.size (({ hearW s 48 with code:=7 } : WS)) (.slice Az (({ hearW s 48 with code:=7 } : WS)).data.length cz))
     refine bodyPost_ret (results_cell_row rfl _ _ w.heap.size 116 (cellsW (({ hearW s 48 with code:=7 } : WS)) (.slice Az (({ hearW s 48 with code:=7 } : WS)).data.length cz)) (0,0) _ rfl (put12_obj HR7.out (({ hearW s 48 with code:=7 } : WS)) (.slice Az (({ hearW s 48 with code:=7 } : WS)).data.length cz)) Try.underlying116 rfl (by kernel_rfl)) rfl ?_
     rw [← HEQ.out]
     exact ⟨_,rfl,Kd.R_mono (HT.out.R HV7.out.row (by have:=HRL2.out;intro k hk;omega)) (fun _ _ => trivial),HT.out.below HV7.out.below (Below.size HV7.out.below) (fun k hk => Nat.le_of_eq hk.symm)⟩
    ·have bm : decide ((pos : Int) < (a0.size : Int) - 1) = false:=decide_eq_false (by omega)
     have HM:=Lib.hid hm
     clear hm
     go_wp2_with (fail)
     (refine HN.out.mono ?_;rintro e w3 ⟨rfl,hi3,hk3⟩;have HK3:=Lib.hid hk3;clear hi3 hk3)
     obtain ⟨vz,hvz⟩:=HK3.out.at_
     obtain ⟨Az,cz,ez⟩:=Kd.R_slice hvz.row
     subst ez
     have HVZ:=Lib.hid hvz
     have hzo:=hvz.obj
     clear hvz
     have hz0:=cW0 hzo
     have hz1:=cW1 hzo
     have hz2:=cW2 hzo
     have hz3:=cW3 hzo
     have hz4:=cW4 hzo
     have hz5:=cW5 hzo
     have hz6:=cW6 hzo
     have hz7:=cW7 hzo
     have hz8:=cW8 hzo
     have hz9:=cW9 hzo
     have hz10:=cW10 hzo
     have hz11:=cW11 hzo
     have hzf0:=fW hzo 0
     have HZO:=Lib.hid hzo
     clear hzo
     have hzr:=HK3.out.res
     have hfr0:=fW hzr 0
     have hfr1:=fW hzr 1
     have hfr2:=fW hzr 2
     have hfr3:=fW hzr 3
     have hfr4:=fW hzr 4
     have hfr5:=fW hzr 5
     have hfr6:=fW hzr 6
     have hfr7:=fW hzr 7
     have hfr8:=fW hzr 8
     have hfr9:=fW hzr 9
     have hfr10:=fW hzr 10
     have hfr11:=fW hzr 11
     have hcr0:=cW0 hzr
     have hcr1:=cW1 hzr
     have hcr2:=cW2 hzr
     have hcr3:=cW3 hzr
     have hcr4:=cW4 hzr
     have hcr5:=cW5 hzr
     have hcr6:=cW6 hzr
     have hcr7:=cW7 hzr
     have hcr8:=cW8 hzr
     have hcr9:=cW9 hzr
     have hcr10:=cW10 hzr
     have hcr11:=cW11 hzr
     have HZR:=Lib.hid hzr
     clear hzr
     go_wp2_with (fail)
     rw [Exit.noGoto_ret]
     have HEQ : Hid (hearW s 48 = walkG (bytesOf a0) startW):=Lib.hid (by rw [← HWG.out,HDR.out,walkG,if_neg (by rintro (h | h);exact HK0.out h;exact HK1.out h),if_pos (List.drop_eq_nil_of_le (by rw [bytesOf_length];have:=HM.out;omega))])
     have HT:=Lib.hid (put12_tch (w3) w.heap.size (hearW s 48) (.slice Az (hearW s 48).data.length cz))
     refine bodyPost_ret (results_cell_row rfl _ _ w.heap.size 116 (cellsW (hearW s 48) (.slice Az (hearW s 48).data.length cz)) (0,0) _ rfl (put12_obj HZR.out (hearW s 48) (.slice Az (hearW s 48).data.length cz)) Try.underlying116 rfl (by kernel_rfl)) rfl ?_
     rw [← HEQ.out]
     exact ⟨_,rfl,Kd.R_mono (HT.out.R HVZ.out.row (by have:=HRL2.out;intro k hk;omega)) (fun _ _ => trivial),HT.out.below HVZ.out.below (Below.size HVZ.out.below) (fun k hk => Nat.le_of_eq hk.symm)⟩
   ·have hnx:=fun ty => next_bit_at (P:=Try.prog) _ _ a0 pos ty hit hp (b:=49) (by rw [e];rfl) (by omega)
    have HRD : Hid (rd (bytesOf a0) (pos : Int) = 49):=Lib.hid (by rw [rd_bytesOf a0 pos hp,e];rfl)
    have HN:=Lib.hid (HWO.out.next hit (by omega) (by have:=HRL2.out;omega) (by omega) (by have:=HRL2.out;omega) HAT.out.ok 49 (by omega))
    have HST:=Lib.hid (HRD.out ▸ at_step HAT.out (by rw [bytesOf_length];exact hp) HBits.out)
    have HDR : Hid ((bytesOf a0).drop pos = 49 :: (bytesOf a0).drop (pos + 1)):=Lib.hid (drop_cons a0 pos hp (b:=49) (by rw [e];rfl))
    have HIT:=Lib.hid hit
    clear e hbit hit
    by_cases k0 : (hearW s 49).code = 0
    ·have HNX:=Lib.hid (step_next HST.out (.inl k0))
     have HKK:=Lib.hid k0
     clear k0
     go_wp2_with (go_at_call 134;refine HN.out.mono ?_;rintro e w3 ⟨rfl,hi3,hk3⟩;have HI3:=Lib.hid hi3;have HK3:=Aside0.mk hk3;clear hi3 hk3;obtain ⟨v3,hv3⟩:=HK3.out.at_;have hcode:=cW0 hv3.obj;have hcodef:=fW hv3.obj 0;clear hv3;rw [HKK.out] at hcode)
     go_roundw
     case rel => obtain ⟨pl2,ha2⟩:=HNX.out;exact ⟨pos + 1,hearW s 49,pl2,hp,HI3.out,HK3,⟨ha2⟩,⟨by rw [← HWG.out,HDR.out,walkG_step _ _ _ (.inl HKK.out)]⟩⟩
     case measure => rw [iterPos_at HI3.out,iterPos_at HIT.out];omega
    by_cases k1 : (hearW s 49).code = 1
    ·have HNX:=Lib.hid (step_next HST.out (.inr k1))
     have HKK:=Lib.hid k1
     clear k1
     go_wp2_with (go_at_call 134;refine HN.out.mono ?_;rintro e w3 ⟨rfl,hi3,hk3⟩;have HI3:=Lib.hid hi3;have HK3:=Aside0.mk hk3;clear hi3 hk3;obtain ⟨v3,hv3⟩:=HK3.out.at_;have hcode:=cW0 hv3.obj;have hcodef:=fW hv3.obj 0;clear hv3;rw [HKK.out] at hcode)
     go_roundw
     case rel => obtain ⟨pl2,ha2⟩:=HNX.out;exact ⟨pos + 1,hearW s 49,pl2,hp,HI3.out,HK3,⟨ha2⟩,⟨by rw [← HWG.out,HDR.out,walkG_step _ _ _ (.inr HKK.out)]⟩⟩
     case measure => rw [iterPos_at HI3.out,iterPos_at HIT.out];omega
    have HK0:=Lib.hid k0
    have HK1:=Lib.hid k1
    have b0 : ((hearW s 49).code == 0) = false:=by simp [k0]
    have b1 : ((hearW s 49).code == 1) = false:=by simp [k1]
    clear k0 k1
    by_cases hm : pos + 1 < a0.size
    ·have bm : decide ((pos : Int) < (a0.size : Int) - 1) = true:=decide_eq_true (by omega)
     have HM:=Lib.hid hm
     clear hm
     go_wp2_with (fail)
     (refine HN.out.mono ?_;rintro e w3 ⟨rfl,hi3,hk3⟩;have HK3:=Lib.hid hk3;clear hi3 hk3)
     obtain ⟨vz,hvz⟩:=HK3.out.at_
     obtain ⟨Az,cz,ez⟩:=Kd.R_slice hvz.row
     subst ez
     have HVZ:=Lib.hid hvz
     have hzo:=hvz.obj
     clear hvz
     have hz0:=cW0 hzo
     have hz1:=cW1 hzo
     have hz2:=cW2 hzo
     have hz3:=cW3 hzo
     have hz4:=cW4 hzo
     have hz5:=cW5 hzo
     have hz6:=cW6 hzo
     have hz7:=cW7 hzo
     have hz8:=cW8 hzo
     have hz9:=cW9 hzo
     have hz10:=cW10 hzo
     have hz11:=cW11 hzo
     have hzf0:=fW hzo 0
     have HZO:=Lib.hid hzo
     clear hzo
     have hzr:=HK3.out.res
     have hfr0:=fW hzr 0
     have hfr1:=fW hzr 1
     have hfr2:=fW hzr 2
     have hfr3:=fW hzr 3
     have hfr4:=fW hzr 4
     have hfr5:=fW hzr 5
     have hfr6:=fW hzr 6
     have hfr7:=fW hzr 7
     have hfr8:=fW hzr 8
     have hfr9:=fW hzr 9
     have hfr10:=fW hzr 10
     have hfr11:=fW hzr 11
     have hcr0:=cW0 hzr
     have hcr1:=cW1 hzr
     have hcr2:=cW2 hzr
     have hcr3:=cW3 hzr
     have hcr4:=cW4 hzr
     have hcr5:=cW5 hzr
     have hcr6:=cW6 hzr
     have hcr7:=cW7 hzr
     have hcr8:=cW8 hzr
     have hcr9:=cW9 hzr
     have hcr10:=cW10 hzr
     have hcr11:=cW11 hzr
     have HZR:=Lib.hid hzr
     clear hzr
     go_wp2_with (fail)
     have HV7:=Lib.hid (HVZ.out.put (u := .int .i64 7) (j:=0) (s' := { hearW s 49 with code:=7 }) (by have:=HRL2.out;omega) (by omega) (setW0 HZO.out 7) rfl)
     have HR7:=Lib.hid (((Tch.refl1 w3 (w.heap.size + 1)).one 0 (.int .i64 7)).block (Array.getElem?_eq_some_iff.1 HZR.out).1 (by omega) |>.trans HZR.out)
     rw [Exit.noGoto_ret]
     have HEQ : Hid (({ hearW s 49 with code:=7 } : WS) = walkG (bytesOf a0) startW):=Lib.hid (by rw [← HWG.out,HDR.out,walkG,if_neg (by rintro (h | h);exact HK0.out h;exact HK1.out h),if_neg (by intro h;have:=congrArg List.length h;rw [List.length_drop,bytesOf_length] at this;have:=HM.out;simp at *;omega)])
     have HT:=Lib.hid (put12_tch (w3.setCell ⟨w.heap.size + 1,0,none⟩ (.int .i64 7)) w.heap.size (({ hearW s 49 with code:=7 } : WS)) (.slice Az (({ hearW s 49 with code:=7 } : WS)).data.length cz))
     refine bodyPost_ret (results_cell_row rfl _ _ w.heap.size 116 (cellsW (({ hearW s 49 with code:=7 } : WS)) (.slice Az (({ hearW s 49 with code:=7 } : WS)).data.length cz)) (0,0) _ rfl (put12_obj HR7.out (({ hearW s 49 with code:=7 } : WS)) (.slice Az (({ hearW s 49 with code:=7 } : WS)).data.length cz)) Try.underlying116 rfl (by kernel_rfl)) rfl ?_
     rw [← HEQ.out]
     exact ⟨_,rfl,Kd.R_mono (HT.out.R HV7.out.row (by have:=HRL2.out;intro k hk;omega)) (fun _ _ => trivial),HT.out.below HV7.out.below (Below.size HV7.out.below) (fun k hk => Nat.le_of_eq hk.symm)⟩
    ·have bm : decide ((pos : Int) < (a0.size : Int) - 1) = false:=decide_eq_false (by omega)
     have HM:=Lib.hid hm
     clear hm
     go_wp2_with (fail)
     (refine HN.out.mono ?_;rintro e w3 ⟨rfl,hi3,hk3⟩;have HK3:=Lib.hid hk3;clear hi3 hk3)
     obtain ⟨vz,hvz⟩:=HK3.out.at_
     obtain ⟨Az,cz,ez⟩:=Kd.R_slice hvz.row
     subst ez
     have HVZ:=Lib.hid hvz
     have hzo:=hvz.obj
     clear hvz
     have hz0:=cW0 hzo
     have hz1:=cW1 hzo
     have hz2:=cW2 hzo
     have hz3:=cW3 hzo
     have hz4:=cW4 hzo
     have hz5:=cW5 hzo
     have hz6:=cW6 hzo
     have hz7:=cW7 hzo
     have hz8:=cW8 hzo
     have hz9:=cW9 hzo
     have hz10:=cW10 hzo
     have hz11:=cW11 hzo
     have hzf0:=fW hzo 0
     have HZO:=Lib.hid hzo
     clear hzo
     have hzr:=HK3.out.res
     have hfr0:=fW hzr 0
     have hfr1:=fW hzr 1
     have hfr2:=fW hzr 2
     have hfr3:=fW hzr 3
     have hfr4:=fW hzr 4
     have hfr5:=fW hzr 5
     have hfr6:=fW hzr 6
     have hfr7:=fW hzr 7
     have hfr8:=fW hzr 8
     have hfr9:=fW hzr 9
     have hfr10:=fW hzr 10
     have hfr11:=fW hzr 11
     have hcr0:=cW0 hzr
     have hcr1:=cW1 hzr
     have hcr2:=cW2 hzr
     have hcr3:=cW3 hzr
     have hcr4:=cW4 hzr
     have hcr5:=cW5 hzr
     have hcr6:=cW6 hzr
     have hcr7:=cW7 hzr
     have hcr8:=cW8 hzr
     have hcr9:=cW9 hzr
     have hcr10:=cW10 hzr
     have hcr11:=cW11 hzr
     have HZR:=Lib.hid hzr
     clear hzr
     go_wp2_with (fail)
     rw [Exit.noGoto_ret]
     have HEQ : Hid (hearW s 49 = walkG (bytesOf a0) startW):=Lib.hid (by rw [← HWG.out,HDR.out,walkG,if_neg (by rintro (h | h);exact HK0.out h;exact HK1.out h),if_pos (List.drop_eq_nil_of_le (by rw [bytesOf_length];have:=HM.out;omega))])
     have HT:=Lib.hid (put12_tch (w3) w.heap.size (hearW s 49) (.slice Az (hearW s 49).data.length cz))
     refine bodyPost_ret (results_cell_row rfl _ _ w.heap.size 116 (cellsW (hearW s 49) (.slice Az (hearW s 49).data.length cz)) (0,0) _ rfl (put12_obj HZR.out (hearW s 49) (.slice Az (hearW s 49).data.length cz)) Try.underlying116 rfl (by kernel_rfl)) rfl ?_
     rw [← HEQ.out]
     exact ⟨_,rfl,Kd.R_mono (HT.out.R HVZ.out.row (by have:=HRL2.out;intro k hk;omega)) (fun _ _ => trivial),HT.out.below HVZ.out.below (Below.size HVZ.out.below) (fun k hk => Nat.le_of_eq hk.symm)⟩
  ·have hnx:=fun ty => Lib.run_next_end_at (P:=Try.prog) _ _ a0 pos ty hit hp
   obtain rfl : pos = a0.size:=by omega
   obtain ⟨vz,hvz⟩:=HWO.out.at_
   obtain ⟨Az,cz,ez⟩:=Kd.R_slice hvz.row
   subst ez
   have HVZ:=Lib.hid hvz
   have hzo:=hvz.obj
   clear hvz
   have hz0:=cW0 hzo
   have hz1:=cW1 hzo
   have hz2:=cW2 hzo
   have hz3:=cW3 hzo
   have hz4:=cW4 hzo
   have hz5:=cW5 hzo
   have hz6:=cW6 hzo
   have hz7:=cW7 hzo
   have hz8:=cW8 hzo
   have hz9:=cW9 hzo
   have hz10:=cW10 hzo
   have hz11:=cW11 hzo
   have hzf0:=fW hzo 0
   have HZO:=Lib.hid hzo
   clear hzo
   have hzr:=HWO.out.res
   have hfr0:=fW hzr 0
   have hfr1:=fW hzr 1
   have hfr2:=fW hzr 2
   have hfr3:=fW hzr 3
   have hfr4:=fW hzr 4
   have hfr5:=fW hzr 5
   have hfr6:=fW hzr 6
   have hfr7:=fW hzr 7
   have hfr8:=fW hzr 8
   have hfr9:=fW hzr 9
   have hfr10:=fW hzr 10
   have hfr11:=fW hzr 11
   have hcr0:=cW0 hzr
   have hcr1:=cW1 hzr
   have hcr2:=cW2 hzr
   have hcr3:=cW3 hzr
   have hcr4:=cW4 hzr
   have hcr5:=cW5 hzr
   have hcr6:=cW6 hzr
   have hcr7:=cW7 hzr
   have hcr8:=cW8 hzr
   have hcr9:=cW9 hzr
   have hcr10:=cW10 hzr
   have hcr11:=cW11 hzr
   have HZR:=Lib.hid hzr
   clear hzr
   go_wp2_with (fail)
   rw [Exit.noGoto_ret]
   have HEQ : Hid (s = walkG (bytesOf a0) startW):=Lib.hid (by rw [← HWG.out,List.drop_eq_nil_of_le (by rw [bytesOf_length];exact Nat.le_refl _)];rfl)
   have HT:=Lib.hid (put12_tch (wr) w.heap.size (s) (.slice Az (s).data.length cz))
   refine bodyPost_ret (results_cell_row rfl _ _ w.heap.size 116 (cellsW (s) (.slice Az (s).data.length cz)) (0,0) _ rfl (put12_obj HZR.out (s) (.slice Az (s).data.length cz)) Try.underlying116 rfl (by kernel_rfl)) rfl ?_
   rw [← HEQ.out]
   exact ⟨_,rfl,Kd.R_mono (HT.out.R HVZ.out.row (by have:=HRL2.out;intro k hk;omega)) (fun _ _ => trivial),HT.out.below HVZ.out.below (Below.size HVZ.out.below) (fun k hk => Nat.le_of_eq hk.symm)⟩
theorem impl_walkOver.no (a0 : ByteArray) (w : World) (c : ¬ (a0.size ≤ 4000 ∧ isBits a0 = true)) :
  Calls Try.prog 81 #[.string a0] w fun e w' => ∃ v,e = .returned (.agg (cellsW { zeroW with code:=8 } v)) ∧ Kd.R (Kd.int .u8) 5 w' w.heap.size (fun _ => True) v [] ∧ Below w.heap.size w w':=by
 have hbt : Hid (impl_bitText.f a0 4000 = some false):=by
  refine Lib.hid ?_
  unfold impl_bitText.f
  congr 1
  rw [Bool.and_eq_false_iff]
  by_cases h : isBits a0 = true
  ·exact .inl (decide_eq_false fun h2 => c ⟨by omega,h⟩)
  ·exact .inr (by simpa using h)
 clear c
 go_enter Try.func81,Try.ntmps81
 go_wp2_with (fail)
 go_step3
 go_wp2_with (fail)
 (refine (impl_bitText.calls _ _ false _ hbt.out).mono ?_;rintro e w1 ⟨rfl,hb1⟩;have HRES : Hid (w1.heap[w.heap.size]? = some (objW zeroW (.slice none 0 0))):=Lib.hid (blk_below (blk_alloc (blk_new w _) _) hb1);have HOBJ : Hid (w1.heap[w.heap.size + 1]? = some (objW zeroW (.slice none 0 0))):=Lib.hid (by have h:=blk_below (blk_new (w.alloc (objW zeroW (.slice none 0 0))) _) hb1;rw [World.size_alloc] at h;exact h);have HB1 : Hid (Below w.heap.size w w1):=Lib.hid (Below.trans (((Below.refl _ _).alloc (Nat.le_refl _) _).alloc (by simp) _) (hb1.mono (by simp;omega)));clear hb1)
 have hzo:=HOBJ.out

 have hz0:=cW0 hzo
 have hz1:=cW1 hzo
 have hz2:=cW2 hzo
 have hz3:=cW3 hzo
 have hz4:=cW4 hzo
 have hz5:=cW5 hzo
 have hz6:=cW6 hzo
 have hz7:=cW7 hzo
 have hz8:=cW8 hzo
 have hz9:=cW9 hzo
 have hz10:=cW10 hzo
 have hz11:=cW11 hzo
 have hzf0:=fW hzo 0
 clear hzo
 have hzr:=HRES.out
 have hfr0:=fW hzr 0
 have hfr1:=fW hzr 1
 have hfr2:=fW hzr 2
 have hfr3:=fW hzr 3
 have hfr4:=fW hzr 4
 have hfr5:=fW hzr 5
 have hfr6:=fW hzr 6
 have hfr7:=fW hzr 7
 have hfr8:=fW hzr 8
 have hfr9:=fW hzr 9
 have hfr10:=fW hzr 10
 have hfr11:=fW hzr 11
 have hcr0:=cW0 hzr
 have hcr1:=cW1 hzr
 have hcr2:=cW2 hzr
 have hcr3:=cW3 hzr
 have hcr4:=cW4 hzr
 have hcr5:=cW5 hzr
 have hcr6:=cW6 hzr
 have hcr7:=cW7 hzr
 have hcr8:=cW8 hzr
 have hcr9:=cW9 hzr
 have hcr10:=cW10 hzr
 have hcr11:=cW11 hzr
 clear hzr
 simp only [zeroW] at hz0 hz1 hz2 hz3 hz4 hz5 hz6 hz7 hz8 hz9 hz10 hcr0 hcr1 hcr2 hcr3 hcr4 hcr5 hcr6 hcr7 hcr8 hcr9 hcr10
 go_wp2_with (fail)
 rw [Exit.noGoto_ret]
 have HR7:=Lib.hid (((Tch.refl1 w1 (w.heap.size + 1)).one 0 (.int .i64 8)).block (Array.getElem?_eq_some_iff.1 HRES.out).1 (by omega) |>.trans HRES.out)
 have HB7:=Lib.hid (((Tch.refl1 w1 (w.heap.size + 1)).one 0 (.int .i64 8)).below HB1.out HB1.out.size (fun k hk => by omega))
 have HT:=Lib.hid (put12_tch (w1.setCell ⟨w.heap.size + 1,0,none⟩ (.int .i64 8)) w.heap.size ({ zeroW with code:=8 }) (.slice none 0 0))
 refine bodyPost_ret (results_cell_row rfl _ _ w.heap.size 116 (cellsW ({ zeroW with code:=8 }) (.slice none 0 0)) (0,0) _ rfl (put12_obj HR7.out ({ zeroW with code:=8 }) (.slice none 0 0)) Try.underlying116 rfl (by kernel_rfl)) rfl ?_
 exact ⟨_,rfl,Kd.R_nil _ _ _ _ _,HT.out.below HB7.out (Below.size HB7.out) (fun k hk => Nat.le_of_eq hk.symm)⟩
theorem impl_walkOver.whole (a0 : ByteArray) (w : World) :
  Calls Try.prog 81 #[.string a0] w fun e w' => ∃ v,e = .returned (.agg (cellsW (walkV a0) v)) ∧ Kd.R (Kd.int .u8) 5 w' w.heap.size (fun _ => True) v (walkV a0).data ∧ Below w.heap.size w w':=by
 unfold walkV
 by_cases c : a0.size ≤ 4000 ∧ isBits a0 = true
 ·rw [if_pos c];exact impl_walkOver.yes a0 w c.1 c.2
 ·rw [if_neg c];exact impl_walkOver.no a0 w c
def impl_walkOver.f (a0 : ByteArray) : Option (Int × Int × Int × Int × Int × Int × Int × Bool × Int × Bool × Int × List Int):=some ((walkV a0).code,(walkV a0).field,(walkV a0).left,(walkV a0).run,(walkV a0).level,(walkV a0).sum,(walkV a0).got,(walkV a0).ext,(walkV a0).id,(walkV a0).rtr,(walkV a0).dlc,(walkV a0).data)
theorem impl_walkOver.calls (a0 : ByteArray) (r1 r2 r3 r4 r5 r6 r7 : Int) (r8 : Bool) (r9 : Int) (r10 : Bool) (r11 : Int) (r12 : List Int) (w : World) (h : impl_walkOver.f a0 = some (r1,r2,r3,r4,r5,r6,r7,r8,r9,r10,r11,r12)) :
  Calls Try.prog 81 #[.string a0] w fun e w' => ∃ v12_ : Value,e = .returned (.agg #[.int .i64 r1, .int .i64 r2, .int .i64 r3, .int .i64 r4, .int .i32 r5, .int .i64 r6, .int .i64 r7, .bool r8, .int .u32 r9, .bool r10, .int .i64 r11,v12_]) ∧ Kd.R (Kd.int .u8) 5 w' w.heap.size (fun _ => True) v12_ r12 ∧ Below w.heap.size w w':=by
 unfold impl_walkOver.f at h
 simp only [Option.some.injEq,Prod.mk.injEq] at h
 obtain ⟨rfl,rfl,rfl,rfl,rfl,rfl,rfl,rfl,rfl,rfl,rfl,rfl⟩:=h
 exact impl_walkOver.whole a0 w
end Go.Proofs.Ytdoclpgciadjaaa.P

namespace Go.Proofs.Ytdoclpgciadjaaa.P
open Go.RowKit Go.Proofs.YtdoclpgciadjaaaW.PrintWords Go.Proofs.YtdoclpgciadjaaaW.PrintLast Go.Proofs.YtdoclpgciadjaaaW.PrintMore
set_option linter.unusedVariables false
set_option linter.unusedSimpArgs false
def judgeV (a0 : ByteArray) : Int × Int × Bool × Bool:=if (walkV a0).code = 0 ∨ (walkV a0).code = 1 then ((walkV a0).code,(walkV a0).field,dueW (walkV a0),crcOkW (walkV a0)) else ((walkV a0).code,0,false,false)
def impl_Judge.f (a0 : ByteArray) : Option (Int × Int × Bool × Bool):=some (judgeV a0)
def objV (a b : Int) (c d : Bool) : Obj := .cells #[.int .i64 a, .int .i64 b, .bool c, .bool d] 32 (0,0)
theorem setV0 {w : World} {p : Nat} {a b : Int} {c d : Bool} (h : w.heap[p]? = some (objV a b c d)) (x : Int) : (w.setCell ⟨p,0,none⟩ (.int .i64 x)).heap[p]? = some (objV x b c d):=by simp only [World.setCell,Array.getElem?_modify,h];rfl
theorem setV1 {w : World} {p : Nat} {a b : Int} {c d : Bool} (h : w.heap[p]? = some (objV a b c d)) (x : Int) : (w.setCell ⟨p,1,none⟩ (.int .i64 x)).heap[p]? = some (objV a x c d):=by simp only [World.setCell,Array.getElem?_modify,h];rfl
theorem setV2 {w : World} {p : Nat} {a b : Int} {c d : Bool} (h : w.heap[p]? = some (objV a b c d)) (x : Bool) : (w.setCell ⟨p,2,none⟩ (.bool x)).heap[p]? = some (objV a b x d):=by simp only [World.setCell,Array.getElem?_modify,h];rfl
theorem setV3 {w : World} {p : Nat} {a b : Int} {c d : Bool} (h : w.heap[p]? = some (objV a b c d)) (x : Bool) : (w.setCell ⟨p,3,none⟩ (.bool x)).heap[p]? = some (objV a b c x):=by simp only [World.setCell,Array.getElem?_modify,h];rfl
theorem cV0 {w : World} {p : Nat} {a b : Int} {c d : Bool} (h : w.heap[p]? = some (objV a b c d)) : w.cell? ⟨p,0,none⟩ = some (.int .i64 a):=blk_cell h 0
theorem cV1 {w : World} {p : Nat} {a b : Int} {c d : Bool} (h : w.heap[p]? = some (objV a b c d)) : w.cell? ⟨p,1,none⟩ = some (.int .i64 b):=blk_cell h 1
theorem cV2 {w : World} {p : Nat} {a b : Int} {c d : Bool} (h : w.heap[p]? = some (objV a b c d)) : w.cell? ⟨p,2,none⟩ = some (.bool c):=blk_cell h 2
theorem cV3 {w : World} {p : Nat} {a b : Int} {c d : Bool} (h : w.heap[p]? = some (objV a b c d)) : w.cell? ⟨p,3,none⟩ = some (.bool d):=blk_cell h 3
theorem fV {w : World} {p : Nat} {a b : Int} {c d : Bool} (h : w.heap[p]? = some (objV a b c d)) (j : Nat) : w.frozen? ⟨p,j,none⟩ = false:=blk_frozen h j
set_option maxHeartbeats 2000000 in
theorem impl_Judge.other (a0 : ByteArray) (w : World) (h0 : ¬ (walkV a0).code = 0) (h1 : ¬ (walkV a0).code = 1) :
  Calls Try.prog 19 #[.string a0] w fun e w' => e = .returned (.agg #[.int .i64 (walkV a0).code, .int .i64 0, .bool false, .bool false]) ∧ Below w.heap.size w w':=by
 have b0 : ((walkV a0).code == 0) = false:=by simp [h0]
 have b1 : ((walkV a0).code == 1) = false:=by simp [h1]
 clear h0 h1
 go_enter Try.func19,Try.ntmps19
 go_wp2_with (fail)
 (refine (impl_walkOver.calls a0 _ _ _ _ _ _ _ _ _ _ _ _ _ rfl).mono ?_;rintro e w1 ⟨v,rfl,hr,hb⟩;obtain ⟨A,c,ev⟩:=Kd.R_slice hr;subst ev;have HRES : Hid (w1.heap[w.heap.size]? = some (objV 0 0 false false)):=Lib.hid (blk_below (blk_new w _) hb);have HB1 : Hid (Below w.heap.size w w1):=Lib.hid (Below.trans ((Below.refl _ _).alloc (Nat.le_refl _) _) (hb.mono (by simp)));clear hr hb)
 have hrl : w.heap.size < w1.heap.size:=(Array.getElem?_eq_some_iff.1 HRES.out).1
 have hne1 : w.heap.size ≠ w1.heap.size:=by omega
 have hne2 : w.heap.size ≠ w1.heap.size + 1:=by omega
 have hrl2 : w.heap.size < w1.heap.size + 1:=by omega
 have hr0:=cV0 HRES.out
 have hr1:=cV1 HRES.out
 have hr2:=cV2 HRES.out
 have hr3:=cV3 HRES.out
 have hf0:=fV HRES.out 0
 have hf1:=fV HRES.out 1
 have hf2:=fV HRES.out 2
 have hf3:=fV HRES.out 3
 go_wp2_with (fail)
 have HRS:=Lib.hid (blk_alloc (blk_alloc (setV3 (setV2 (setV1 (setV0 HRES.out (walkV a0).code) 0) false) false) (objW (walkV a0) (.slice A (walkV a0).data.length c))) (objV (walkV a0).code 0 false false))
 have HB2:=Lib.hid ((((((HB1.out.setCell (p:=⟨w.heap.size,0,none⟩) (Nat.le_refl _) (.int .i64 (walkV a0).code)).setCell (p:=⟨w.heap.size,1,none⟩) (Nat.le_refl _) (.int .i64 0)).setCell (p:=⟨w.heap.size,2,none⟩) (Nat.le_refl _) (.bool false)).setCell (p:=⟨w.heap.size,3,none⟩) (Nat.le_refl _) (.bool false)).alloc (by simp [World.setCell];omega) (objW (walkV a0) (.slice A (walkV a0).data.length c))).alloc (by simp [World.setCell];omega) (objV (walkV a0).code 0 false false))
 refine bodyPost_ret (results_cell_row rfl _ _ w.heap.size 32 #[.int .i64 (walkV a0).code, .int .i64 0, .bool false, .bool false] (0,0) _ rfl HRS.out Try.underlying32 rfl (by kernel_rfl)) rfl ?_
 exact ⟨rfl,HB2.out⟩
theorem blk_new2 (w : World) (X Y : Obj) : ((w.alloc X).alloc Y).heap[w.heap.size + 1]? = some Y:=by
 have h:=blk_new (w.alloc X) Y
 rwa [World.size_alloc] at h
theorem judge_below {w w1 : World} {p : Nat} (h : Below w.heap.size w w1) (hp : w.heap.size ≤ p) (j : Nat) (u : Value) : Below w.heap.size w (w1.setCell ⟨p,j,none⟩ u):=h.setCell hp u
theorem judge_rel (w w1 : World) (X : Obj) (k f : Int) (d c : Bool) (m : Nat) (W : World) (hW : W = ((((((w1.alloc X).alloc (.cells #[.int .i64 k, .int .i64 0, .bool false, .bool false] 32)).drewN m).setCell ⟨w1.heap.size + 1,1,none⟩ (.int .i64 f)).setCell ⟨w1.heap.size + 1,2,none⟩ (.bool d)).setCell ⟨w1.heap.size + 1,3,none⟩ (.bool c))) (hres : w1.heap[w.heap.size]? = some (objV 0 0 false false)) (hB : Below w.heap.size w w1) :
  Aside0 (W.heap[w1.heap.size + 1]? = some (objV k f d c)) ∧ Aside0 (W.heap[w.heap.size]? = some (objV 0 0 false false)) ∧ Aside0 (Below w.heap.size w W):=by
 subst hW
 have hlt : w.heap.size < w1.heap.size:=(Array.getElem?_eq_some_iff.1 hres).1
 have hne : w.heap.size ≠ w1.heap.size + 1:=by omega
 have h1 : (((w1.alloc X).alloc (objV k 0 false false)).drewN m).heap[w1.heap.size + 1]? = some (objV k 0 false false):=blk_drewN (blk_new2 w1 X _) m
 have h2 : (((w1.alloc X).alloc (objV k 0 false false)).drewN m).heap[w.heap.size]? = some (objV 0 0 false false):=blk_drewN (blk_alloc (blk_alloc hres X) _) m
 have h3 : Below w.heap.size w (((w1.alloc X).alloc (objV k 0 false false)).drewN m):=pw_below_drewN ((hB.alloc (Nat.le_of_lt hlt) X).alloc (by rw [World.size_alloc];omega) _) m
 have e : (((w1.alloc X).alloc (.cells #[.int .i64 k, .int .i64 0, .bool false, .bool false] 32)).drewN m) = (((w1.alloc X).alloc (objV k 0 false false)).drewN m):=rfl
 rw [e]
 generalize (((w1.alloc X).alloc (objV k 0 false false)).drewN m) = U at h1 h2 h3 ⊢
 exact ⟨⟨setV3 (setV2 (setV1 h1 f) d) c⟩,⟨(Below.heap_setCell _ _ _ _ hne).trans ((Below.heap_setCell _ _ _ _ hne).trans ((Below.heap_setCell _ _ _ _ hne).trans h2))⟩,⟨judge_below (judge_below (judge_below h3 (by omega) _ _) (by omega) _ _) (by omega) _ _⟩⟩
set_option maxHeartbeats 4000000 in
theorem impl_Judge.runs0 (a0 : ByteArray) (w : World) (h01 : (walkV a0).code = 0) :
  Calls Try.prog 19 #[.string a0] w fun e w' => e = .returned (.agg #[.int .i64 0, .int .i64 (walkV a0).field, .bool (dueW (walkV a0)), .bool (crcOkW (walkV a0))]) ∧ Below w.heap.size w w':=by
 have HKC:=Lib.hid h01
 clear h01
 go_enter Try.func19,Try.ntmps19
 go_wp2_with (fail)
 (refine (impl_walkOver.calls a0 _ _ _ _ _ _ _ _ _ _ _ _ _ rfl).mono ?_;rintro e w1 ⟨v,rfl,hr,hb⟩;obtain ⟨A,c,ev⟩:=Kd.R_slice hr;subst ev;have HRES : Hid (w1.heap[w.heap.size]? = some (objV 0 0 false false)):=Lib.hid (blk_below (blk_new w _) hb);have HB1 : Hid (Below w.heap.size w w1):=Lib.hid (Below.trans ((Below.refl _ _).alloc (Nat.le_refl _) _) (hb.mono (by simp)));clear hr hb)
 rw [HKC.out]
 have hrl : w.heap.size < w1.heap.size:=(Array.getElem?_eq_some_iff.1 HRES.out).1
 have hne1 : w.heap.size ≠ w1.heap.size:=by omega
 have hne2 : w.heap.size ≠ w1.heap.size + 1:=by omega
 have hrl2 : w.heap.size < w1.heap.size + 1:=by omega
 go_upto_region 5 with (fail)
 go_cut [] (fun wc => Aside0 (wc.heap[w1.heap.size + 1]? = some (objV 0 (walkV a0).field (dueW ({ walkV a0 with code:=0 } : WS)) (crcOkW ({ walkV a0 with code:=0 } : WS)))) ∧ Aside0 (wc.heap[w.heap.size]? = some (objV 0 0 false false)) ∧ Aside0 (Below w.heap.size w wc))
 case first =>
  go_region_with (first | (go_at_call 82;refine (impl_walk_due.calls w1.heap.size (.slice A (walkV a0).data.length c) ({ walkV a0 with code:=0 } : WS) _ (by repeat (first | exact blk_alloc (blk_new _ _) _ | refine (Below.heap_setCell _ _ _ _ (show w1.heap.size ≠ w1.heap.size + 1 by omega)).trans ?_ | refine blk_drewN ?_ _ | refine blk_drew ?_))).mono ?_;rintro e w' ⟨rfl,rfl⟩) | (go_at_call 83;refine (impl_walk_crcOk.calls w1.heap.size (.slice A (walkV a0).data.length c) ({ walkV a0 with code:=0 } : WS) _ (by repeat (first | exact blk_alloc (blk_new _ _) _ | refine (Below.heap_setCell _ _ _ _ (show w1.heap.size ≠ w1.heap.size + 1 by omega)).trans ?_ | refine blk_drewN ?_ _ | refine blk_drew ?_))).mono ?_;rintro e w' ⟨rfl,n,rfl⟩))
  all_goals
   go_wp2_with (fail)
   go_meet
   case rel => exact judge_rel w w1 _ _ _ _ _ _ _ rfl HRES.out HB1.out
 case rest =>
  obtain ⟨HO,HR,HB⟩:=hcut
  have hc0:=cV0 HO.out
  have hc1:=cV1 HO.out
  have hc2:=cV2 HO.out
  have hc3:=cV3 HO.out
  have hr0:=cV0 HR.out
  have hr1:=cV1 HR.out
  have hr2:=cV2 HR.out
  have hr3:=cV3 HR.out
  have hf0:=fV HR.out 0
  have hf1:=fV HR.out 1
  have hf2:=fV HR.out 2
  have hf3:=fV HR.out 3
  go_wp2_with (fail)
  refine bodyPost_ret (results_cell_row rfl _ _ w.heap.size 32 #[.int .i64 0, .int .i64 (walkV a0).field, .bool (dueW (walkV a0)), .bool (crcOkW (walkV a0))] (0,0) _ rfl (setV3 (setV2 (setV1 (setV0 HR.out 0) (walkV a0).field) (dueW (walkV a0))) (crcOkW (walkV a0))) Try.underlying32 rfl (by kernel_rfl)) rfl ?_
  exact ⟨rfl,(((HB.out.setCell (p:=⟨w.heap.size,0,none⟩) (Nat.le_refl _) _).setCell (p:=⟨w.heap.size,1,none⟩) (Nat.le_refl _) _).setCell (p:=⟨w.heap.size,2,none⟩) (Nat.le_refl _) _).setCell (p:=⟨w.heap.size,3,none⟩) (Nat.le_refl _) _⟩
set_option maxHeartbeats 4000000 in
theorem impl_Judge.runs1 (a0 : ByteArray) (w : World) (h01 : (walkV a0).code = 1) :
  Calls Try.prog 19 #[.string a0] w fun e w' => e = .returned (.agg #[.int .i64 1, .int .i64 (walkV a0).field, .bool (dueW (walkV a0)), .bool (crcOkW (walkV a0))]) ∧ Below w.heap.size w w':=by
 have HKC:=Lib.hid h01
 clear h01
 go_enter Try.func19,Try.ntmps19
 go_wp2_with (fail)
 (refine (impl_walkOver.calls a0 _ _ _ _ _ _ _ _ _ _ _ _ _ rfl).mono ?_;rintro e w1 ⟨v,rfl,hr,hb⟩;obtain ⟨A,c,ev⟩:=Kd.R_slice hr;subst ev;have HRES : Hid (w1.heap[w.heap.size]? = some (objV 0 0 false false)):=Lib.hid (blk_below (blk_new w _) hb);have HB1 : Hid (Below w.heap.size w w1):=Lib.hid (Below.trans ((Below.refl _ _).alloc (Nat.le_refl _) _) (hb.mono (by simp)));clear hr hb)
 rw [HKC.out]
 have hrl : w.heap.size < w1.heap.size:=(Array.getElem?_eq_some_iff.1 HRES.out).1
 have hne1 : w.heap.size ≠ w1.heap.size:=by omega
 have hne2 : w.heap.size ≠ w1.heap.size + 1:=by omega
 have hrl2 : w.heap.size < w1.heap.size + 1:=by omega
 go_upto_region 5 with (fail)
 go_cut [] (fun wc => Aside0 (wc.heap[w1.heap.size + 1]? = some (objV 1 (walkV a0).field (dueW ({ walkV a0 with code:=1 } : WS)) (crcOkW ({ walkV a0 with code:=1 } : WS)))) ∧ Aside0 (wc.heap[w.heap.size]? = some (objV 0 0 false false)) ∧ Aside0 (Below w.heap.size w wc))
 case first =>
  go_region_with (first | (go_at_call 82;refine (impl_walk_due.calls w1.heap.size (.slice A (walkV a0).data.length c) ({ walkV a0 with code:=1 } : WS) _ (by repeat (first | exact blk_alloc (blk_new _ _) _ | refine (Below.heap_setCell _ _ _ _ (show w1.heap.size ≠ w1.heap.size + 1 by omega)).trans ?_ | refine blk_drewN ?_ _ | refine blk_drew ?_))).mono ?_;rintro e w' ⟨rfl,rfl⟩) | (go_at_call 83;refine (impl_walk_crcOk.calls w1.heap.size (.slice A (walkV a0).data.length c) ({ walkV a0 with code:=1 } : WS) _ (by repeat (first | exact blk_alloc (blk_new _ _) _ | refine (Below.heap_setCell _ _ _ _ (show w1.heap.size ≠ w1.heap.size + 1 by omega)).trans ?_ | refine blk_drewN ?_ _ | refine blk_drew ?_))).mono ?_;rintro e w' ⟨rfl,n,rfl⟩))
  all_goals
   go_wp2_with (fail)
   go_meet
   case rel => exact judge_rel w w1 _ _ _ _ _ _ _ rfl HRES.out HB1.out
 case rest =>
  obtain ⟨HO,HR,HB⟩:=hcut
  have hc0:=cV0 HO.out
  have hc1:=cV1 HO.out
  have hc2:=cV2 HO.out
  have hc3:=cV3 HO.out
  have hr0:=cV0 HR.out
  have hr1:=cV1 HR.out
  have hr2:=cV2 HR.out
  have hr3:=cV3 HR.out
  have hf0:=fV HR.out 0
  have hf1:=fV HR.out 1
  have hf2:=fV HR.out 2
  have hf3:=fV HR.out 3
  go_wp2_with (fail)
  refine bodyPost_ret (results_cell_row rfl _ _ w.heap.size 32 #[.int .i64 1, .int .i64 (walkV a0).field, .bool (dueW (walkV a0)), .bool (crcOkW (walkV a0))] (0,0) _ rfl (setV3 (setV2 (setV1 (setV0 HR.out 1) (walkV a0).field) (dueW (walkV a0))) (crcOkW (walkV a0))) Try.underlying32 rfl (by kernel_rfl)) rfl ?_
  exact ⟨rfl,(((HB.out.setCell (p:=⟨w.heap.size,0,none⟩) (Nat.le_refl _) _).setCell (p:=⟨w.heap.size,1,none⟩) (Nat.le_refl _) _).setCell (p:=⟨w.heap.size,2,none⟩) (Nat.le_refl _) _).setCell (p:=⟨w.heap.size,3,none⟩) (Nat.le_refl _) _⟩
theorem impl_Judge.calls (a0 : ByteArray) (r1 r2 : Int) (r3 r4 : Bool) (w : World) (h : impl_Judge.f a0 = some (r1,r2,r3,r4)) :
  Calls Try.prog 19 #[.string a0] w fun e w' => e = .returned (.agg #[.int .i64 r1, .int .i64 r2, .bool r3, .bool r4]) ∧ Below w.heap.size w w':=by
 unfold impl_Judge.f judgeV at h
 have h:=Option.some.inj h
 by_cases h0 : (walkV a0).code = 0
 ·rw [if_pos (.inl h0),h0] at h
  simp only [Prod.mk.injEq] at h
  obtain ⟨rfl,rfl,rfl,rfl⟩:=h
  exact impl_Judge.runs0 a0 w h0
 by_cases h1 : (walkV a0).code = 1
 ·rw [if_pos (.inr h1),h1] at h
  simp only [Prod.mk.injEq] at h
  obtain ⟨rfl,rfl,rfl,rfl⟩:=h
  exact impl_Judge.runs1 a0 w h1
 ·rw [if_neg (by rintro (a | a);exact h0 a;exact h1 a)] at h
  simp only [Prod.mk.injEq] at h
  obtain ⟨rfl,rfl,rfl,rfl⟩:=h
  exact impl_Judge.other a0 w h0 h1
end Go.Proofs.Ytdoclpgciadjaaa.P

namespace Go.Proofs.Ytdoclpgciadjaaa.P
open Go.RowKit Go.Proofs.YtdoclpgciadjaaaW.PrintWords Go.Proofs.YtdoclpgciadjaaaW.PrintLast Go.Proofs.YtdoclpgciadjaaaW.PrintMore
set_option linter.unusedVariables false
set_option linter.unusedSimpArgs false
def flipS (a0 : ByteArray) (j : Nat) : ByteArray:=(a0.extract 0 j ++ (if bt a0 (j : Int) = 49 then (⟨#[48]⟩ : ByteArray) else ⟨#[49]⟩)) ++ a0.extract (j + 1) a0.size
def laws_wFlip.f (a0 : ByteArray) (a1 : Int) : Option (ByteArray):=if 0 ≤ a1 ∧ a1 < (a0.size : Int) ∧ a0.size ≤ 1000000 then some (flipS a0 a1.toNat) else none
theorem laws_wFlip.at_ (a0 : ByteArray) (j : Nat) (w : World) (hj : j < a0.size) (hs : a0.size ≤ 1000000) :
  Calls Try.prog 23 #[.string a0, .int .i64 (j : Int)] w fun e w' => e = .returned (.string (flipS a0 j)) ∧ Drawn0 w w':=by
 have hx : ∀ h : j < a0.size,(((a0[j]'h).toNat : Nat) : Int) = bt a0 (j : Int):=fun h => by have:=bt_at a0 (j : Int) (by rw [Int.toNat_natCast];exact h);simpa using this
 have p5 : (0 ≤ (j : Int)) = True:=eq_true (by omega)
 have q5 : ((j : Int) < (a0.size : Int)) = True:=eq_true (by omega)
 have q6 : ((j : Int) ≤ (a0.size : Int)) = True:=eq_true (by omega)
 have qn : (j < a0.size) = True:=eq_true hj
 have qm : (j ≤ a0.size) = True:=eq_true (by omega)
 obtain ⟨t,ht⟩ : ∃ t : Int,t = (j : Int) + 1:=⟨_,rfl⟩
 have w1 : wrap64 ((j : Int) + 1) = t:=by unfold wrap64;omega
 have w2 : IntKind.i64.wrap ((j : Int) + 1) = t:=by have h:=w1;unfold wrap64 at h;rw [IntKind.wrap_i64];exact h
 have t0 : (0 ≤ t) = True:=eq_true (by omega)
 have t1 : (t ≤ (a0.size : Int)) = True:=eq_true (by omega)
 have t2 : t.toNat = j + 1:=by omega
 obtain ⟨X,hX⟩ : ∃ X,X = a0.extract 0 j:=⟨_,rfl⟩
 obtain ⟨Y,hY⟩ : ∃ Y,Y = a0.extract (j + 1) a0.size:=⟨_,rfl⟩
 have sX : X.size = j:=by rw [hX,ByteArray.size_extract];omega
 have sY : Y.size = a0.size - (j + 1):=by rw [hY,ByteArray.size_extract];omega
 have HF : Hid (flipS a0 j = (X ++ (if bt a0 (j : Int) = 49 then (⟨#[48]⟩ : ByteArray) else ⟨#[49]⟩)) ++ Y):=Lib.hid (by unfold flipS;rw [← hX, ← hY])
 have hX':=hX.symm
 have hY':=hY.symm
 have HT:=Lib.hid ht
 clear hX hY ht
 rw [HF.out]
 have z1 : (9223372036854775807 < X.size + 1) = False:=eq_false (by omega)
 have z2 : (9223372036854775807 < X.size + 1 + Y.size) = False:=eq_false (by omega)
 by_cases hb : bt a0 (j : Int) = 49
 ·have hb0 : (bt a0 (j : Int) == 49) = true:=beq_iff_eq.mpr hb
  rw [if_pos hb]
  clear hb
  go_enter Try.func23,Try.ntmps23
  go_wp2_with (fail)
  go_region_with (fail)
  go_wp2_with (fail)
  go_ret
  exact ⟨rfl,⟨⟨_,rfl⟩⟩⟩
 ·have hb0 : (bt a0 (j : Int) == 49) = false:=beq_eq_false_iff_ne.mpr hb
  rw [if_neg hb]
  clear hb
  go_enter Try.func23,Try.ntmps23
  go_wp2_with (fail)
  go_region_with (fail)
  go_wp2_with (fail)
  go_ret
  exact ⟨rfl,⟨⟨_,rfl⟩⟩⟩
theorem laws_wFlip.calls (a0 : ByteArray) (a1 : Int) (r : ByteArray) (w : World) (h : laws_wFlip.f a0 a1 = some r) :
  Calls Try.prog 23 #[.string a0, .int .i64 a1] w fun e w' => e = .returned (.string r) ∧ Drawn0 w w':=by
 unfold laws_wFlip.f at h
 by_cases c : 0 ≤ a1 ∧ a1 < (a0.size : Int) ∧ a0.size ≤ 1000000
 ·rw [if_pos c] at h
  obtain rfl:=Option.some.inj h
  obtain ⟨j,rfl⟩ : ∃ j : Nat,a1 = (j : Int):=⟨a1.toNat,by omega⟩
  rw [Int.toNat_natCast]
  exact laws_wFlip.at_ a0 j w (by omega) c.2.2
 ·rw [if_neg c] at h;cases h
end Go.Proofs.Ytdoclpgciadjaaa.P

namespace Go.Proofs.Ytdoclpgciadjaaa.P
open Go.RowKit Go.Proofs.YtdoclpgciadjaaaW.PrintWords Go.Proofs.YtdoclpgciadjaaaW.PrintLast Go.Proofs.YtdoclpgciadjaaaW.PrintMore
set_option linter.unusedVariables false
set_option linter.unusedSimpArgs false
def impl_copyFrame.f (a0_0 : Bool) (a0_1 : Int) (a0_2 : Bool) (a0_3 : Int) (l0_4 : List Int) : Option (Bool × Int × Bool × Int × List Int):=(some (([] : List Int) : List Int)).bind fun y198 => (if y198.length + l0_4.length < 140737488355328 then (some (a0_0,a0_1,a0_2,a0_3,(y198 ++ l0_4))) else (none))
set_option maxHeartbeats 8000000 in
set_option maxRecDepth 100000 in
theorem impl_copyFrame.calls (a0_0 : Bool) (a0_1 : Int) (a0_2 : Bool) (a0_3 : Int) (A0_4 : Option Addr) (c0_4 : Nat) (l0_4 : List Int) (r1 : Bool) (r2 : Int) (r3 : Bool) (r4 : Int) (r5 : List Int) (w : World) (hr0_4 : Kd.C (Kd.int .u8) w A0_4 l0_4.length l0_4) (hc0_4 : l0_4.length ≤ c0_4) (h : impl_copyFrame.f a0_0 a0_1 a0_2 a0_3 l0_4 = some (r1,r2,r3,r4,r5)) :
  Calls Try.prog 84 #[.agg #[.bool a0_0, .int .u32 a0_1, .bool a0_2, .int .i64 a0_3, .slice A0_4 l0_4.length c0_4]] w fun e w' => ∃ v4_ : Value,e = .returned (.agg #[.bool r1, .int .u32 r2, .bool r3, .int .i64 r4,v4_]) ∧ Kd.R (Kd.int .u8) 5 w' w.heap.size (fun _ => True) v4_ r5 ∧ Below w.heap.size w w':=by
 have hu25:=Try.underlying25
 have HR0_4:=Aside0.mk hr0_4
 have HC0_4:=Aside0.mk hc0_4
 clear hr0_4 hc0_4
 have HB:=Aside0.mk (Below.refl w.heap.size w)
 have H : ((some (([] : List Int) : List Int)).bind fun y198 => (if y198.length + l0_4.length < 140737488355328 then (some (a0_0,a0_1,a0_2,a0_3,(y198 ++ l0_4))) else (none))) = some (r1,r2,r3,r4,r5):=h
 clear h
 obtain ⟨y198,hy198⟩ : ∃ y_ : List Int,y_ = (([] : List Int)):=⟨_,rfl⟩
 replace H : (if y198.length + l0_4.length < 140737488355328 then (some (a0_0,a0_1,a0_2,a0_3,(y198 ++ l0_4))) else (none)) = some (r1,r2,r3,r4,r5):=by first | (rw [hy198];with_reducible exact H) | (have H2_:=(Option.bind_some _ _).symm.trans H;rw [hy198];with_reducible exact H2_) | (have H2_:=(Option.bind_some _ _).symm.trans H;with_reducible exact H2_) | with_reducible exact H | (rw [hy198];exact H) | exact H
 have Ny198:=Aside0.mk hy198
 clear hy198
 by_cases c2 : y198.length + l0_4.length < 140737488355328
 ·rw [if_pos c2] at H
  have LMc2:=Aside0.mk c2
  clear c2
  obtain ⟨y201,hy201⟩ : ∃ y_ : List Int,y_ = (y198 ++ l0_4):=⟨_,rfl⟩
  replace H : (some (a0_0,a0_1,a0_2,a0_3,y201)) = some (r1,r2,r3,r4,r5):=by first | (rw [hy201];with_reducible exact H) | (have H2_:=(Option.bind_some _ _).symm.trans H;rw [hy201];with_reducible exact H2_) | (have H2_:=(Option.bind_some _ _).symm.trans H;with_reducible exact H2_) | with_reducible exact H | (rw [hy201];exact H) | exact H
  have Ny201:=Aside0.mk hy201
  clear hy201
  simp only [Option.some.injEq,Prod.mk.injEq] at H
  obtain ⟨rfl,rfl,rfl,rfl,rfl⟩:=H
  go_enter Try.func84,Try.ntmps84
  go_wp2_with (first | ((with_reducible refine gate_dst (N:=1) rfl ?_);refine box_event ?hg (N:=1) ?hd (cs := #[.bool a0_0, .int .u32 a0_1, .bool a0_2, .int .i64 a0_3, .slice A0_4 l0_4.length c0_4]) (t:=25) ?hr ?_;(case hd => rfl);(case hg => rfl);(case hr => first | (go_simp;done) | (go_simp;rfl));intro gb196 hg w3 hbox hb;have n0_:=Aside0.mk (below_step (by repeat (first | (with_reducible first | exact HB.out | apply below_alloc | apply pw_below_drewN | apply below_drew1) | exact HB.out)) hb);have n1_:=Aside0.mk (hbox);have n2_:=Aside0.mk ((by rw [hg];exact (below_size (by repeat (first | (with_reducible first | exact HB.out | apply below_alloc | apply pw_below_drewN | apply below_drew1) | exact HB.out))) : w.heap.size ≤ gb196));have n3_:=Aside0.mk ((by rw [hg];exact (below_size (by repeat (first | (with_reducible first | exact HB.out | apply below_alloc | apply pw_below_drewN | apply below_drew1) | exact HB.out))) : w.heap.size ≤ gb196));clear HB;have HB:=n0_;have BK196:=n1_;have GW196:=n2_;have GE196:=n3_;clear n0_ n1_ n2_ n3_;clear hb hbox hg) | ((with_reducible refine gate_dst (N:=2) rfl ?_);refine box_event ?hg (N:=2) ?hd (cs := #[.bool false, .int .u32 0, .bool false, .int .i64 0, .slice none 0 0]) (t:=25) ?hr ?_;(case hd => rfl);(case hg => rfl);(case hr => first | (go_simp;done) | (go_simp;rfl));intro gb197 hg w4 hbox hb;have n0_:=Aside0.mk (blk_below (g:=gb196) (o := .cells #[.bool a0_0, .int .u32 a0_1, .bool a0_2, .int .i64 a0_3, .slice A0_4 l0_4.length c0_4] 25 (0,0)) (by (with_reducible repeat (first | refine blk_drewN ?_ _ | refine blk_drew ?_ | refine blk_alloc ?_ _));exact BK196.out) hb);have n1_:=Aside0.mk (below_step (by repeat (first | (with_reducible first | exact HB.out | apply below_alloc | apply pw_below_drewN | apply below_drew1 | refine below_set ?_ GE196.out) | exact HB.out)) hb);have n2_:=Aside0.mk (hbox);have n3_:=Aside0.mk ((by rw [hg];exact (below_size (by repeat (first | (with_reducible first | exact HB.out | apply below_alloc | apply pw_below_drewN | apply below_drew1 | refine below_set ?_ GE196.out) | exact HB.out))) : w.heap.size ≤ gb197));have n4_:=Aside0.mk ((by rw [hg];exact (below_size (by repeat (first | (with_reducible first | exact HB.out | apply below_alloc | apply pw_below_drewN | apply below_drew1 | refine below_set ?_ GE196.out) | exact HB.out))) : w.heap.size ≤ gb197));have n5_:=Aside0.mk ((by rw [hg];exact Nat.ne_of_lt (blk_lt (g:=gb196) (o := .cells #[.bool a0_0, .int .u32 a0_1, .bool a0_2, .int .i64 a0_3, .slice A0_4 l0_4.length c0_4] 25 (0,0)) (by (with_reducible repeat (first | refine blk_drewN ?_ _ | refine blk_drew ?_ | refine blk_alloc ?_ _));exact BK196.out)) : gb196 ≠ gb197));have n6_:=Aside0.mk ((by rw [hg];exact Nat.ne_of_gt (blk_lt (g:=gb196) (o := .cells #[.bool a0_0, .int .u32 a0_1, .bool a0_2, .int .i64 a0_3, .slice A0_4 l0_4.length c0_4] 25 (0,0)) (by (with_reducible repeat (first | refine blk_drewN ?_ _ | refine blk_drew ?_ | refine blk_alloc ?_ _));exact BK196.out)) : gb197 ≠ gb196));clear BK196;clear HB;have BK196:=n0_;have HB:=n1_;have BK197:=n2_;have GW197:=n3_;have GE197:=n4_;have NB196_197:=n5_;have NB197_196:=n6_;clear n0_ n1_ n2_ n3_ n4_ n5_ n6_;clear hb hbox hg) | ((with_reducible refine gate_dst (N:=3) rfl ?_);refine Kd.R_lit (Kd.int .u8) _ 5 ?hg (N:=3) ?hd (xs:=([] : List Int)) (inner := []) (ok:=fun _ => True) (okp:=fun _ => True) ?hr ?hp (fun _ hk => hk) trivial (Below.refl _ _) (Nat.le_refl _) (by simp) ?_;(case hd => rfl);(case hg => rfl);(case hr => first | (go_simp;done) | (go_simp;rfl));(case hp => exact (Reps.none _ _));intro v199 w5 ho6 hb hg_ hnew_;clear hg_ hnew_;(first | rw [← Ny198.out] at ho6 | (simp only [Int.reduceToNat] at ho6;rw [← Ny198.out] at ho6));have n0_:=Aside0.mk (Kd.R_lower ho6 (below_size (by repeat (first | (with_reducible first | exact HB.out | apply below_alloc | apply pw_below_drewN | apply below_drew1 | refine below_set ?_ GE196.out | refine below_set ?_ GE197.out) | exact HB.out))));have n1_:=Aside0.mk (blk_below (g:=gb196) (o := .cells #[.bool a0_0, .int .u32 a0_1, .bool a0_2, .int .i64 a0_3, .slice A0_4 l0_4.length c0_4] 25 (0,0)) (by (with_reducible repeat (first | refine blk_drewN ?_ _ | refine blk_drew ?_ | refine blk_alloc ?_ _));exact BK196.out) hb);have n2_:=Aside0.mk (blk_below (g:=gb197) (o := .cells #[.bool false, .int .u32 0, .bool false, .int .i64 0, .slice none 0 0] 25 (0,0)) (by (with_reducible repeat (first | refine blk_drewN ?_ _ | refine blk_drew ?_ | refine blk_alloc ?_ _));exact BK197.out) hb);have n3_:=Aside0.mk (below_step (by repeat (first | (with_reducible first | exact HB.out | apply below_alloc | apply pw_below_drewN | apply below_drew1 | refine below_set ?_ GE196.out | refine below_set ?_ GE197.out) | exact HB.out)) hb);clear BK196;clear BK197;clear HB;have HO200:=n0_;have BK196:=n1_;have BK197:=n2_;have HB:=n3_;clear n0_ n1_ n2_ n3_;clear hb ho6;have hnb7:=NB196_197.out;have hnc7:=NB197_196.out;have hcz8_0 : w5.cell? ⟨gb196,0,none⟩ = some (.bool a0_0):=(blk_cell BK196.out 0).trans rfl;have hcz8_1 : w5.cell? ⟨gb196,1,none⟩ = some (.int .u32 a0_1):=(blk_cell BK196.out 1).trans rfl;have hcz8_2 : w5.cell? ⟨gb196,2,none⟩ = some (.bool a0_2):=(blk_cell BK196.out 2).trans rfl;have hcz8_3 : w5.cell? ⟨gb196,3,none⟩ = some (.int .i64 a0_3):=(blk_cell BK196.out 3).trans rfl;have hcz8_4 : w5.cell? ⟨gb196,4,none⟩ = some (.slice A0_4 l0_4.length c0_4):=(blk_cell BK196.out 4).trans rfl;have hfz8_0:=blk_frozen BK196.out 0;have hfz8_1:=blk_frozen BK196.out 1;have hfz8_2:=blk_frozen BK196.out 2;have hfz8_3:=blk_frozen BK196.out 3;have hfz8_4:=blk_frozen BK196.out 4) | ((with_reducible refine gate_builtin (b := .append) (xs := #[.tmp 3, .tmp 5]) rfl ?_);at_builtin;refine Kd.R_append_rows (Kd.int .u8) (w0:=w) w.heap.size rfl (.tmp 3) (.tmp 5) 22 5 (.int .u8 0) 1 rfl Try.underlying22 info5 rfl (by decide) (by omega) v199 y198 l0_4 _ _ _ (fun _ => True) (fun _ => False) rfl rfl ?aO ?aR (fun _ _ h => h) (fun _ h => h.elim) ?aF ?aB ?aS ?aL ?_;(case aR => repeat (first | exact (Kd.C_below HR0_4.out HB.out) | (with_reducible refine Kd.C_alloc ?_ _) | (with_reducible refine Kd.C_drewN ?_ _) | (with_reducible refine Kd.C_drew ?_)));(case aB => exact (by repeat (first | (with_reducible first | exact HB.out | apply below_alloc | apply pw_below_drewN | apply below_drew1 | refine below_set ?_ GE196.out | refine below_set ?_ GE197.out) | exact HB.out)));(case aF => exact (fun _ _ => trivial));(case aO => exact (by (with_reducible repeat (first | apply Kd.R_alloc | apply Kd.R_drewN | apply Kd.R_drew));exact HO200.out));(case aS => exact (below_size (by repeat (first | (with_reducible first | exact HB.out | apply below_alloc | apply pw_below_drewN | apply below_drew1 | refine below_set ?_ GE196.out | refine below_set ?_ GE197.out) | exact HB.out))));(case aL => have:=LMc2.out;omega);intro v202 w9 ho hb hg hat;rw [← Ny201.out] at ho;have n0_:=Aside0.mk (blk_grown (g:=gb196) (o := .cells #[.bool a0_0, .int .u32 a0_1, .bool a0_2, .int .i64 a0_3, .slice A0_4 l0_4.length c0_4] 25 (0,0)) (by (with_reducible repeat (first | refine blk_drewN ?_ _ | refine blk_drew ?_ | refine blk_alloc ?_ _));exact BK196.out) hg (Kd.R_ne HO200.out BK196.out (by decide)));have n1_:=Aside0.mk (blk_grown (g:=gb197) (o := .cells #[.bool false, .int .u32 0, .bool false, .int .i64 0, .slice none 0 0] 25 (0,0)) (by (with_reducible repeat (first | refine blk_drewN ?_ _ | refine blk_drew ?_ | refine blk_alloc ?_ _));exact BK197.out) hg (Kd.R_ne HO200.out BK197.out (by decide)));have n2_:=Aside0.mk (hb);have n3_:=Aside0.mk (ho);clear BK196;clear BK197;clear HB;clear HO200;have BK196:=n0_;have BK197:=n1_;have HB:=n2_;have HO203:=n3_;clear n0_ n1_ n2_ n3_;clear ho hb hg hat;obtain ⟨Ao10,co10,eo10⟩:=Kd.R_slice HO203.out;subst eo10;have hcz11_0 : w9.cell? ⟨gb196,0,none⟩ = some (.bool a0_0):=(blk_cell BK196.out 0).trans rfl;have hcz11_1 : w9.cell? ⟨gb196,1,none⟩ = some (.int .u32 a0_1):=(blk_cell BK196.out 1).trans rfl;have hcz11_2 : w9.cell? ⟨gb196,2,none⟩ = some (.bool a0_2):=(blk_cell BK196.out 2).trans rfl;have hcz11_3 : w9.cell? ⟨gb196,3,none⟩ = some (.int .i64 a0_3):=(blk_cell BK196.out 3).trans rfl;have hcz11_4 : w9.cell? ⟨gb196,4,none⟩ = some (.slice A0_4 l0_4.length c0_4):=(blk_cell BK196.out 4).trans rfl;have hfz11_0:=blk_frozen BK196.out 0;have hfz11_1:=blk_frozen BK196.out 1;have hfz11_2:=blk_frozen BK196.out 2;have hfz11_3:=blk_frozen BK196.out 3;have hfz11_4:=blk_frozen BK196.out 4;have hcz12_0 : w9.cell? ⟨gb197,0,none⟩ = some (.bool false):=(blk_cell BK197.out 0).trans rfl;have hcz12_1 : w9.cell? ⟨gb197,1,none⟩ = some (.int .u32 0):=(blk_cell BK197.out 1).trans rfl;have hcz12_2 : w9.cell? ⟨gb197,2,none⟩ = some (.bool false):=(blk_cell BK197.out 2).trans rfl;have hcz12_3 : w9.cell? ⟨gb197,3,none⟩ = some (.int .i64 0):=(blk_cell BK197.out 3).trans rfl;have hcz12_4 : w9.cell? ⟨gb197,4,none⟩ = some (.slice none 0 0):=(blk_cell BK197.out 4).trans rfl;have hfz12_0:=blk_frozen BK197.out 0;have hfz12_1:=blk_frozen BK197.out 1;have hfz12_2:=blk_frozen BK197.out 2;have hfz12_3:=blk_frozen BK197.out 3;have hfz12_4:=blk_frozen BK197.out 4))
  refine bodyPost_ret (results_cell_row rfl _ _ gb197 25 #[.bool a0_0, .int .u32 a0_1, .bool a0_2, .int .i64 a0_3, .slice Ao10 y201.length co10] (0,0) _ rfl (by (with_reducible repeat (first | refine blk_drewN ?_ _ | refine blk_drew ?_ | refine blk_alloc ?_ _));refine blk_put (cs := #[.bool a0_0, .int .u32 a0_1, .bool a0_2, .int .i64 a0_3, .slice none 0 0]) ?_ 4 _ rfl;(with_reducible repeat (first | refine blk_drewN ?_ _ | refine blk_drew ?_ | refine blk_alloc ?_ _));refine blk_put (cs := #[.bool a0_0, .int .u32 a0_1, .bool a0_2, .int .i64 0, .slice none 0 0]) ?_ 3 _ rfl;(with_reducible repeat (first | refine blk_drewN ?_ _ | refine blk_drew ?_ | refine blk_alloc ?_ _));refine blk_put (cs := #[.bool a0_0, .int .u32 a0_1, .bool false, .int .i64 0, .slice none 0 0]) ?_ 2 _ rfl;(with_reducible repeat (first | refine blk_drewN ?_ _ | refine blk_drew ?_ | refine blk_alloc ?_ _));refine blk_put (cs := #[.bool a0_0, .int .u32 0, .bool false, .int .i64 0, .slice none 0 0]) ?_ 1 _ rfl;(with_reducible repeat (first | refine blk_drewN ?_ _ | refine blk_drew ?_ | refine blk_alloc ?_ _));refine blk_put (cs := #[.bool false, .int .u32 0, .bool false, .int .i64 0, .slice none 0 0]) ?_ 0 _ rfl;(with_reducible repeat (first | refine blk_drewN ?_ _ | refine blk_drew ?_ | refine blk_alloc ?_ _));refine blk_far ?_ NB197_196.out _;(with_reducible repeat (first | refine blk_drewN ?_ _ | refine blk_drew ?_ | refine blk_alloc ?_ _));exact BK197.out) Try.underlying25 rfl (by kernel_rfl)) rfl ?_
  exact ⟨_,by first | rfl | (simp [errW_none,errW_some] <;> rfl) | (simp [*,errW_none,errW_some] <;> rfl),by (with_reducible repeat (first | apply Kd.R_alloc | apply Kd.R_drewN | apply Kd.R_drew));exact Kd.R_mono (Kd.R_far (p:=⟨gb197,4,none⟩) (Kd.R_far (p:=⟨gb197,3,none⟩) (Kd.R_far (p:=⟨gb197,2,none⟩) (Kd.R_far (p:=⟨gb197,1,none⟩) (Kd.R_far (p:=⟨gb197,0,none⟩) (Kd.R_far (p:=⟨gb196,4,none⟩) (Kd.R_types (Kd.R_types HO203.out BK196.out (by decide)) BK197.out (by decide)) (fun _ hk => hk.1.2) (.slice Ao10 y201.length co10)) (fun _ hk => hk.2) (.bool a0_0)) (fun _ hk => hk.2) (.int .u32 a0_1)) (fun _ hk => hk.2) (.bool a0_2)) (fun _ hk => hk.2) (.int .i64 a0_3)) (fun _ hk => hk.2) (.slice Ao10 y201.length co10)) (fun _ hk => trivial),by repeat (first | (with_reducible first | exact HB.out | apply below_alloc | apply pw_below_drewN | apply below_drew1 | refine below_set ?_ GE196.out | refine below_set ?_ GE197.out) | exact HB.out)⟩
 ·rw [if_neg c2] at H
  exact absurd H (by simp)
end Go.Proofs.Ytdoclpgciadjaaa.P
