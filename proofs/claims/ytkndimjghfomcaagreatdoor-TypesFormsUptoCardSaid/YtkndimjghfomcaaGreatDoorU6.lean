/- The claim's texts, part U6: contracts of the functions that the statement reaches, and what they say of the data. -/
import Derived.Test.YtkndimjghfomcaaGreatDoorU5
set_option maxRecDepth 100000
set_option maxHeartbeats 8000000
set_option linter.all false
namespace Go.Proofs.YtkndimjghfomcaaGreatDoor
open Go.Proofs.Tryz
open Go.RowKit
def gTy:Typ:=⟨aS,⟨⟨#[]⟩,[pL]⟩⟩
def gUy:Typ:=⟨aS,⟨⟨#[]⟩,[]⟩⟩
def sTy:Typ:=⟨iS,⟨⟨#[]⟩,[tL]⟩⟩
def sUy:Typ:=⟨iS,⟨⟨#[]⟩,[]⟩⟩
theorem sch3_open {S:Blk} {w:World} {cs:List Value} (h:RSch.rd S w cs as3):∃ p c t d q e,cs=[.slice p 1 c,.string aS,.string ⟨#[]⟩,.slice t 0 d,.slice q 0 e]∧Sl RTyp S w p 1 c [gTy]∧Sl RLin S w t 0 d []∧Sl RLin S w q 0 e []:=by
 obtain ⟨_,_,_,rfl,⟨p1,c1,rfl,hp1⟩,⟨t1,d1,rfl,ht1⟩,⟨q1,e1,rfl,hq1⟩⟩:=h;exact ⟨p1,c1,t1,d1,q1,e1,rfl,hp1,ht1,hq1⟩
theorem sch4_open {S:Blk} {w:World} {cs:List Value} (h:RSch.rd S w cs as4):∃ p c t d q e,cs=[.slice p 1 c,.string iS,.string ⟨#[]⟩,.slice t 0 d,.slice q 0 e]∧Sl RTyp S w p 1 c [sTy]∧Sl RLin S w t 0 d []∧Sl RLin S w q 0 e []:=by
 obtain ⟨_,_,_,rfl,⟨p1,c1,rfl,hp1⟩,⟨t1,d1,rfl,ht1⟩,⟨q1,e1,rfl,hq1⟩⟩:=h;exact ⟨p1,c1,t1,d1,q1,e1,rfl,hp1,ht1,hq1⟩
theorem app_nothing {P:Program} {T E:TypeId} {size bytes:Nat} (he:ElemOf P T E size bytes) {ops:Array Oper} {rest:List Oper} {o:Oper} {a:Act} {Q:Exit→Act→World→Prop} {w:World} (hgd:o.guard=none) (s x:Operand)
 (ho:o.op= .call { callee:=.builtin .append,args:=#[s,x],argTypes:=#[T,T] }) (b:Option Addr) (n c:Nat) (hle:n≤c) (hs:a.eval s= .slice b n c) (ao:Option Addr) (c':Nat)
 (hx:a.eval x= .slice ao 0 c') (h:wpList P ops Q rest (a.put o.dst (.slice b n c)) w):wpList P ops Q (o :: rest) a w:=by
 obtain ⟨i0,z0,hi,hz,hsz,hb,hzs⟩:=he.parts
 have h1:(Builtin.append_ #[T,T] o.type #[.slice b n c,.slice ao 0 c']).run P w= .ok (.slice b n c) w:=by
  refine run_append_nothing w T T o.type E i0 he.slice hi b n c hle _ ?_;cases ao with
  | none=>exact Src.ofNil _ he.slice c'
  | some ad=>exact Src.ofSlice _ he.slice ad 0 c' [] (by simp) (fun j u e=>by simp at e) (fun u hu=>by cases hu)
 refine wpList_plain hgd fun K hK=>?_
 unfold Oper.wp;simp [execOp,ho,resolve,invoke,builtin,hs,hx,h1,Result.andThen];exact hK _ _ h
theorem kDU {w w':World} {g:Nat} {a:Addr} {v:Value} (h:w.cell? a=some v) (hk:Kb g w w') (hne:a.block≠g):w'.cell? a=some v:=kCU h (fun hlt=>hk.block _ hlt hne)
theorem inst_ex {S T:Blk} {w:World} {cs ds:List Value} (h:RSch.rd S w cs as3) (h2:RSch.rd T w ds as4) (E:Env w) :
 Calls Tryz.prog 39 #[.agg cs.toArray,.agg ds.toArray] w fun e w'=>(∃ a c,e= .returned (.tuple #[.slice a 2 c,.int .i64 0])∧Sl RBnd (fun q=>w.heap.size≤q) w' a 2 c [bd3,bA])∧Below w.heap.size w w':=by
 have HV1:=hJ (fun (W:World) (hW:Below w.heap.size w W)=>kA6 (RSch.below h hW) (kJP av3) (E.below hW));have HV2:=hJ (fun (W:World) (hW:Below w.heap.size w W)=>kA6 (RSch.below h2 hW) (kJP av4) (E.below hW));rw [av3] at HV1;rw [av4] at HV2;have HE:=hJ (fun (W:World) (hW:Below w.heap.size w W)=>E.below hW);have HR1:=hJ h;obtain ⟨p1,c1,t1,d1,q1,e1,rfl,hp1,ht1,_⟩:=sch3_open h;obtain ⟨p2,c2,t2,d2,q2,e2,rfl,hp2,ht2,hq2⟩:=sch4_open h2;clear h h2;have HP1:=hJ (hp1.mono (S':=fun q=>q<w.heap.size) fun q _ hq=>hq);have HP2:=hJ (hp2.mono (S':=fun q=>q<w.heap.size) fun q _ hq=>hq);have HT1:=hJ (ht1.mono (S':=fun q=>q<w.heap.size) fun q _ hq=>hq);have HT2:=hJ (ht2.mono (S':=fun q=>q<w.heap.size) fun q _ hq=>hq);have HQ2:=hJ (fun W=>clone_lin0 q2 e2 W (hq2.void (S':=All) (w':=W)));clear hp1 hp2 ht1 ht2 hq2 E;obtain ⟨B0,ya,yb,hW0⟩:=box2 w 29 [.slice p1 1 c1,.string aS,.string ⟨#[]⟩,.slice t1 0 d1,.slice q1 0 e1] 29 [.slice p2 1 c2,.string iS,.string ⟨#[]⟩,.slice t2 0 d2,.slice q2 0 e2];have xa0:=box0 ya 0 _ rfl;have xa1:=box0 ya 1 _ rfl;have xa2:=box0 ya 2 _ rfl;have xa3:=box0 ya 3 _ rfl;have xa4:=box0 ya 4 _ rfl;have xb0:=box0 yb 0 _ rfl;have xb1:=box0 yb 1 _ rfl;have xb2:=box0 yb 2 _ rfl;have xb3:=box0 yb 3 _ rfl;have xb4:=box0 yb 4 _ rfl;have bka:Bx _ _ _ _:=ya;have bkb:Bx _ _ _ _:=yb;clear ya yb;have HA0:=hJ bka;have HB0:=hJ bkb;clear bka bkb;go_enter func39,ntmps39
 go_wp2_with fail
 generalize ((w.alloc (.cells #[.slice p1 1 c1,.string aS,.string ⟨#[]⟩,.slice t1 0 d1,.slice q1 0 e1] 29)).alloc (.cells #[.slice p2 1 c2,.string iS,.string ⟨#[]⟩,.slice t2 0 d2,.slice q2 0 e2] 29))=W1 at *;refine ((HV1.out _ B0.out)).mono ?_;rintro e w2 ⟨rfl,hb2⟩;have HW2:=hJ (B0.out.trans (hb2.mono B0.out.size));have HA2:=hJ (HA0.out.below hb2 HA0.out.lt);have HB2:=hJ (HB0.out.below hb2 HB0.out.lt);clear hb2 HA0 HB0 xa0 xa1 xa2 xa3 xa4 xb0 xb1 xb2 xb3 xb4 HV1;have xb0:=HB2.out.cell 0 _ rfl;have xb1:=HB2.out.cell 1 _ rfl;have xb2:=HB2.out.cell 2 _ rfl;have xb3:=HB2.out.cell 3 _ rfl;have xb4:=HB2.out.cell 4 _ rfl
 go_wp2_with fail
 refine ((HV2.out _ HW2.out)).mono ?_;rintro e w3 ⟨rfl,hb3⟩;have HW3:=hJ (HW2.out.trans (hb3.mono HW2.out.size));have HA3:=hJ (HA2.out.below hb3 HA2.out.lt);have HB3:=hJ (HB2.out.below hb3 HB2.out.lt);clear hb3 HA2 HB2 xb0 xb1 xb2 xb3 xb4 HV2 HW2;have xa0:=HA3.out.cell 0 _ rfl;have xb0:=HB3.out.cell 0 _ rfl;have hal:=HA3.out.lt;have hbl:=HB3.out.lt;have xb4:=HB3.out.cell 4 _ rfl
 go_wp2_with fail
 have HM3:=hJ (Bx.fresh w3 113 [.slice none 0 0,.slice none 0 0,.slice none 0 0]);have HX3:Hid (Below w3.heap.size w3 (w3.alloc (.cells #[.slice none 0 0,.slice none 0 0,.slice none 0 0] 113))):=hJ ((Below.refl _ _).alloc (Nat.le_refl _) _);have hz3:(w3.alloc (.cells #[.slice none 0 0,.slice none 0 0,.slice none 0 0] 113)).heap.size=w3.heap.size+1:=by simp
 refine (HQ2.out _).mono ?_;rintro e w4 ⟨⟨v7,rfl,hv7⟩,hb4⟩;obtain ⟨a7,c7,e7,_⟩:=hv7.sl;have e7:v7= .slice a7 0 c7:=e7;subst e7;have HOb:Hid (∀ k,(Value.slice a7 0 c7).ownBlock=some k→w3.heap.size+1≤k∧k<w4.heap.size):=hJ (fun k e=>by have:=hv7.block e;rw [hz3] at this;exact this);have HX4:=hJ (HX3.out.trans (hb4.mono HX3.out.size));have HM4:=hJ (HM3.out.below hb4 HM3.out.lt);have HO7:=hJ (hv7.lower (base':=w3.heap.size+1) (by rw [hz3];exact Nat.le_refl _));have HW4:=hJ (HW3.out.trans (HX4.out.mono HW3.out.size));have HA4:=hJ (HA3.out.below HX4.out hal);have HB4:=hJ (HB3.out.below HX4.out hbl);have h4:w3.heap.size+1≤w4.heap.size:=by rw [← hz3];exact hb4.size
 clear hb4 HX3 HX4 HM3 hz3 hv7 xa0 xb0 xb4 HA3 HB3 HQ2;have xb0:=HB4.out.cell 0 _ rfl;have xb1:=HB4.out.cell 1 _ rfl;have xb2:=HB4.out.cell 2 _ rfl;have xb3:=HB4.out.cell 3 _ rfl;have HC2:=hJ (cat_rd (S:=fun q=>q<w.heap.size) (ps:=[sTy]) (r:=sUy) w4 (HP2.out.below HW4.out) (HT2.out.below HW4.out) (by decide) w4.heap.size (w4.heap.size+1) rfl rfl)
 change Hid (Calls _ _ _ ((w4.alloc (.cells #[.string iS,.string ⟨#[]⟩,.slice t2 0 d2] 26)).alloc (.cells #[.slice p2 1 c2,.slice (some ⟨w4.heap.size,0,none⟩) 1 1] 27)) _) at HC2
 go_wp2_with fail
 refine HC2.out.mono ?_;rintro e w5 ⟨⟨a8,c8,rfl,hs8⟩,hb5⟩;have hs8:Sl RTyp _ w5 a8 2 c8 [sTy,sUy]:=hs8;have HS8:=hJ (hs8.mono (S':=fun q=>q<w3.heap.size∨w4.heap.size≤q) (fun q hq _=>hq.elim (fun h=>.inl (by have:=HW3.out.size;omega)) (fun h=>.inr (by omega))));have HM5:=hJ (HM4.out.below hb5 HM4.out.lt);have HO75:=hJ (HO7.out.below hb5);have HW5:=hJ (HW4.out.trans (hb5.mono HW4.out.size));have HA5:=hJ (HA4.out.below hb5 HA4.out.lt);have h5:=hb5.size;clear hb5 hs8 HM4 HO7 HW4 HA4 HB4 HC2 xb0 xb1 xb2 xb3;have xa0:=HA5.out.cell 0 _ rfl;have xa1:=HA5.out.cell 1 _ rfl;have xa2:=HA5.out.cell 2 _ rfl;have xa3:=HA5.out.cell 3 _ rfl;have HC1:=hJ (cat_rd (S:=fun q=>q<w.heap.size) (ps:=[gTy]) (r:=gUy) w5 (HP1.out.below HW5.out) (HT1.out.below HW5.out) (by decide) w5.heap.size (w5.heap.size+1) rfl rfl)
 change Hid (Calls _ _ _ ((w5.alloc (.cells #[.string aS,.string ⟨#[]⟩,.slice t1 0 d1] 26)).alloc (.cells #[.slice p1 1 c1,.slice (some ⟨w5.heap.size,0,none⟩) 1 1] 27)) _) at HC1
 go_wp2_with fail
 refine HC1.out.mono ?_;rintro e w6 ⟨⟨a9,c9,rfl,hs9⟩,hb6⟩;have hs9:Sl RTyp _ w6 a9 2 c9 [gTy,gUy]:=hs9;have HS9:=hJ (hs9.mono (S':=fun q=>q<w3.heap.size∨w4.heap.size≤q) (fun q hq _=>hq.elim (fun h=>.inl (by have:=HW3.out.size;omega)) (fun h=>.inr (by omega))));have HS86:=hJ (HS8.out.below hb6);have HM6:=hJ (HM5.out.below hb6 HM5.out.lt);have HO76:=hJ (HO75.out.below hb6);have HW6:=hJ (HW5.out.trans (hb6.mono HW5.out.size));have HA6:=hJ (HA5.out.below hb6 HA5.out.lt);have h6:=hb6.size;clear hb6 hs9 HM5 HO75 HW5 HA5 HC1 HS8 xa0 xa1 xa2 xa3
 go_wp2_with fail
 refine wp_loop_rounds 3 ?_;rw [rounds_succ];obtain ⟨b9,o9,rfl,hb9,hi9⟩:=HS9.out.form 0 (by decide);obtain ⟨_,_,⟨ga,gc,rfl,hga⟩,g0,g1,g2⟩:=HS9.out.typ 0 (by decide);have HGa:Hid (Sl RLin (fun q=>q<w3.heap.size∨w4.heap.size≤q) w6 ga 1 gc [pL]):=hJ hga;have x0:w6.cell? ⟨b9,o9,none⟩=some (.string aS):=g0;have x1:w6.cell? ⟨b9,o9+1,none⟩=some (.string ⟨#[]⟩):=g1;have x2:w6.cell? ⟨b9,o9+2,none⟩=some (.slice ga 1 gc):=g2;obtain ⟨b8,o8,rfl,hb8,hi8⟩:=HS86.out.form 0 (by decide);obtain ⟨_,_,⟨sa,sc,rfl,hsa⟩,s0,s1,s2⟩:=HS86.out.typ 0 (by decide);have HSa:Hid (Sl RLin (fun q=>q<w3.heap.size∨w4.heap.size≤q) w6 sa 1 sc [tL]):=hJ hsa;have y0:w6.cell? ⟨b8,o8,none⟩=some (.string iS):=s0;have y1:w6.cell? ⟨b8,o8+1,none⟩=some (.string ⟨#[]⟩):=s1;have y2:w6.cell? ⟨b8,o8+2,none⟩=some (.slice sa 1 sc):=s2;clear hga hsa g0 g1 g2 s0 s1 s2
 go_upto_region 11 with fail
 obtain ⟨HB7,hk7,hz7⟩:=box1 w6 26 [.string aS,.string ⟨#[]⟩,.slice ga 1 gc];have k0:=box0 hk7 0 _ rfl;have k1:=box0 hk7 1 _ rfl;have k2:=box0 hk7 2 _ rfl;clear hk7 x0 x1 x2;generalize w6.alloc (.cells [.string aS,.string ⟨#[]⟩,.slice ga 1 gc].toArray 26)=W7 at *;have y0:=kAE y0 _ HB7.out;have y1:=kAE y1 _ HB7.out;have y2:=kAE y2 _ HB7.out;have HP:Hid (∀ W,Below w6.heap.size w6 W→_):=hJ (fun W hW=>mat_pair1 (HM6.out.below hW HM6.out.lt) (HGa.out.below hW) (HSa.out.below hW) (fun q hq=>by omega) (fun q hq=>by omega))
 go_cut [11] (fun v W=>v= .int .i64 0∧∃ ab cb ap cp at_ ct,Hid (Bx W w3.heap.size 113 [.slice ab 1 cb,.slice ap 1 cp,.slice at_ 1 ct])∧Hid (Own RBnd 47 (fun _=>False) W W7.heap.size (.slice ab 1 cb) [bA])∧Hid (Sl RLin (fun q=>q<w3.heap.size∨w4.heap.size≤q) W ap 1 cp [pL])∧Hid (Sl RLin (fun q=>q<w3.heap.size∨w4.heap.size≤q) W at_ 1 ct [tL])∧Hid (Kb w3.heap.size W7 W))
 case first =>
  go_region_held3 (fun W=>W.cell? ⟨w6.heap.size,0,none⟩=some (.string aS)∧W.cell? ⟨w6.heap.size,1,none⟩=some (.string ⟨#[]⟩)∧W.cell? ⟨w6.heap.size,2,none⟩=some (.slice ga 1 gc)∧W.cell? ⟨b8,o8,none⟩=some (.string iS)∧W.cell? ⟨b8,o8+1,none⟩=some (.string ⟨#[]⟩)∧W.cell? ⟨b8,o8+2,none⟩=some (.slice sa 1 sc)) (first | (with_reducible exact ⟨z0,z1,z2,z3,z4,z5⟩) | (with_reducible exact ⟨k0,k1,k2,y0,y1,y2⟩) | go_keep) (first
   | (go_at_call 97
      refine (HP.out W7.drew HB7.out.drew).mono ?_;rintro e w8 ⟨rfl,⟨ab,cb,ap,cp,at_,ct,hM8,hO8,hP8,hT8⟩,hK8⟩;have z0:=kDU (w:=W7.drew) k0 hK8 (by show w6.heap.size≠w3.heap.size;omega);have z1:=kDU (w:=W7.drew) k1 hK8 (by show w6.heap.size≠w3.heap.size;omega);have z2:=kDU (w:=W7.drew) k2 hK8 (by show w6.heap.size≠w3.heap.size;omega);have z3:=kDU (w:=W7.drew) y0 hK8 (fun e=>by have e:b8=w3.heap.size:=e;rcases hi8 with h | h <;> omega);have z4:=kDU (w:=W7.drew) y1 hK8 (fun e=>by have e:b8=w3.heap.size:=e;rcases hi8 with h | h <;> omega);have z5:=kDU (w:=W7.drew) y2 hK8 (fun e=>by have e:b8=w3.heap.size:=e;rcases hi8 with h | h <;> omega)))
  all_goals
   have hz8:W7.drew.heap.size=W7.heap.size:=rfl;have HPa:=hJ (hP8.mono (S':=fun q=>q<w3.heap.size∨w4.heap.size≤q) fun q hq _=>hq.1.elim id (fun h=>.inr (by omega)));have HTa:=hJ (hT8.mono (S':=fun q=>q<w3.heap.size∨w4.heap.size≤q) fun q hq _=>hq.1.elim id (fun h=>.inr (by omega)));have HRa:=hJ (And.intro hM8 (And.intro hO8 hK8));clear hP8 hT8 hM8 hO8 hK8 hz8
   go_wp2_with fail
   go_meet
   exact ⟨rfl,ab,cb,ap,cp,at_,ct,hJ HRa.out.1,hJ HRa.out.2.1,HPa,HTa,hJ ⟨HRa.out.2.2.os,HRa.out.2.2.tape,HRa.out.2.2.output,HRa.out.2.2.size,HRa.out.2.2.block⟩⟩
 case rest =>
  obtain ⟨rfl,ab,cb,ap,cp,at_,ct,HMc,HOc,HPc,HTc,HKc⟩:=hcut;have hi8':b8≠w3.heap.size:=fun e=>by rcases hi8 with h | h <;> omega
  have y2c:=kDU y2 HKc.out hi8';have hzc:=HKc.out.size;have HOv:=hJ (((HO76.out.below HB7.out).kb HKc.out (fun _ h=>h.elim) (Nat.lt_succ_self _)).mono (S':=fun q=>q<w3.heap.size∨w4.heap.size≤q) (fun _ h _=>h.elim));have HSv:=hJ (((HSa.out.below HB7.out).kb HKc.out (fun q hq e=>by rcases hq with h | h <;> omega)).mono (S':=fun k=>(k<w3.heap.size∨w4.heap.size≤k)∧(Value.slice a7 0 c7).ownBlock≠some k) (fun k hk _=>⟨hk,fun e=>by have:=HOb.out k e;rcases hk with h | h <;> omega⟩));clear y0 y1 y2 k0 k1 k2 HP
  go_wp2_with (at_builtin;refine app_sl kCA rfl _ _ rfl (w3.heap.size+1) (.slice a7 0 c7) [] [tL] rfl HOv.out sa 1 sc rfl HSv.out (by simp;done) (by unfold maxLen;simp;done) (by omega) ?_;intro v9 w9 hown9 hb9 hk9)
  obtain ⟨a10,c10,e10,hs10⟩:=hown9.sl;have e10:v9= .slice a10 1 c10:=e10;subst e10;have hc10:1≤c10:=hs10.cap;clear hs10;have HKp:=hJ (fun k (hlt:k<wc.heap.size) (h:k<w3.heap.size+1∨w4.heap.size≤k)=>hk9.block k hlt (fun e=>by have:=HOb.out k e;omega));have hzz:=hb9.size;have HM9:Hid (Bx w9 w3.heap.size 113 [.slice ab 1 cb,.slice ap 1 cp,.slice at_ 1 ct]):=hJ ((HKp.out w3.heap.size HMc.out.lt (.inl (Nat.lt_succ_self _))).trans HMc.out);have HO9:=hJ (HOc.out.frame (w':=w9) (fun k hlt h=>HKp.out k hlt (.inr (h.elim False.elim (fun e=>by have:=HOc.out.base_le k e;omega)))) hzz);have HPp9:=hJ (HPc.out.frame (w':=w9) (fun k hk hlt=>HKp.out k hlt (hk.imp (fun h=>by omega) id)));have HTt9:=hJ (HTc.out.frame (w':=w9) (fun k hk hlt=>HKp.out k hlt (hk.imp (fun h=>by omega) id)));have HS99:=hJ (((HS9.out.below HB7.out).kb HKc.out (fun q hq e=>by rcases hq with h | h <;> omega)).frame (w':=w9) (fun k hk hlt=>HKp.out k hlt (hk.imp (fun h=>by omega) id)));have HS89:=hJ (((HS86.out.below HB7.out).kb HKc.out (fun q hq e=>by rcases hq with h | h <;> omega)).frame (w':=w9) (fun k hk hlt=>HKp.out k hlt (hk.imp (fun h=>by omega) id)));have HA9:Hid (Bx w9 w.heap.size 29 [.slice p1 1 c1,.string aS,.string ⟨#[]⟩,.slice t1 0 d1,.slice q1 0 e1]):=hJ ((HKp.out w.heap.size (by omega) (.inl (by omega))).trans (((HA6.out.below HB7.out HA6.out.lt).kb HKc.out (by omega))));have hw6:=HW6.out.size;have hw3:=HW3.out.size;have HW9:=hJ (HW6.out.trans ((HB7.out.mono hw6).trans ((HKc.out.below hw3 (by omega)).trans (hb9.mono (by omega)))));clear hb9 hk9 HKp HMc HOc HPc HTc HKc HOv HSv HB7 HM6 HO76 HS9 HS86 HA6 HW6 HGa HSa y2c;clear hown9;rw [rounds_succ];obtain ⟨_,_,⟨gb,gd,rfl,_⟩,g0,g1,g2⟩:=HS99.out.typ 1 (by decide);have x0:w9.cell? ⟨b9,o9+3,none⟩=some (.string aS):=g0;have x1:w9.cell? ⟨b9,o9+3+1,none⟩=some (.string ⟨#[]⟩):=g1;have x2:w9.cell? ⟨b9,o9+3+2,none⟩=some (.slice gb 0 gd):=g2;have x3:w9.cell? ⟨b9,o9+4,none⟩=some (.string ⟨#[]⟩):=g1;have x4:w9.cell? ⟨b9,o9+5,none⟩=some (.slice gb 0 gd):=g2;obtain ⟨_,_,⟨sb,sd,rfl,_⟩,s0,s1,s2⟩:=HS89.out.typ 1 (by decide);have y0:w9.cell? ⟨b8,o8+3,none⟩=some (.string iS):=s0;have y1:w9.cell? ⟨b8,o8+4,none⟩=some (.string ⟨#[]⟩):=s1;have y2:w9.cell? ⟨b8,o8+5,none⟩=some (.slice sb 0 sd):=s2
  clear g0 g1 g2 s0 s1 s2
  have HBs:Hid (Sl RBnd (fun q=>q≠w3.heap.size) w9 ab 1 cb [bA]):=by
   obtain ⟨a',c',e',hs'⟩:=HO9.out.sl;rw [Value.slice.injEq] at e';obtain ⟨rfl,_,rfl⟩:=e';exact hJ (hs'.mono (fun q hq _=>by have hq:W7.heap.size≤q:=hq.elim False.elim id;omega))
  go_upto_region 11 with fail
  obtain ⟨HB10,hk10,hz10⟩:=box1 w9 26 [.string aS,.string ⟨#[]⟩,.slice gb 0 gd];have k0:=box0 hk10 0 _ rfl;have k1:=box0 hk10 1 _ rfl;have k2:=box0 hk10 2 _ rfl;clear hk10 x0 x1 x2 x3 x4;generalize w9.alloc (.cells [.string aS,.string ⟨#[]⟩,.slice gb 0 gd].toArray 26)=W10 at *;have y0:=kAE y0 _ HB10.out;have y1:=kAE y1 _ HB10.out;have y2:=kAE y2 _ HB10.out;have hcp:=HPp9.out.cap;have hct:=HTt9.out.cap;have hm9:=HM9.out.lt;have HP:Hid (∀ W,Below w9.heap.size w9 W→_):=hJ (fun W hW=>mat_pair2 (ag:=gb) (as_:=sb) (cg:=gd) (cs:=sd) (HM9.out.below hW HM9.out.lt) (HBs.out.below hW) hcp hct)
  go_cut [11] (fun v W=>v= .int .i64 0∧Hid (Bx W w3.heap.size 113 [.slice ab 1 cb,.slice ap 1 cp,.slice at_ 1 ct])∧Hid (Kb w3.heap.size W10 W))
  case first =>
   go_region_held3 (fun W=>W.cell? ⟨w9.heap.size,0,none⟩=some (.string aS)∧W.cell? ⟨w9.heap.size,1,none⟩=some (.string ⟨#[]⟩)∧W.cell? ⟨w9.heap.size,2,none⟩=some (.slice gb 0 gd)∧W.cell? ⟨b8,o8+3,none⟩=some (.string iS)∧W.cell? ⟨b8,o8+4,none⟩=some (.string ⟨#[]⟩)∧W.cell? ⟨b8,o8+5,none⟩=some (.slice sb 0 sd)) (first | (with_reducible exact ⟨z0,z1,z2,z3,z4,z5⟩) | (with_reducible exact ⟨k0,k1,k2,y0,y1,y2⟩) | go_keep) (first
    | (go_at_call 97
       refine (HP.out W10.drew HB10.out.drew).mono ?_;rintro e w11 ⟨rfl,hM11,hK11⟩;have z0:=kDU (w:=W10.drew) k0 hK11 (by show w9.heap.size≠w3.heap.size;omega);have z1:=kDU (w:=W10.drew) k1 hK11 (by show w9.heap.size≠w3.heap.size;omega);have z2:=kDU (w:=W10.drew) k2 hK11 (by show w9.heap.size≠w3.heap.size;omega);have z3:=kDU (w:=W10.drew) y0 hK11 (fun e=>by have e:b8=w3.heap.size:=e;rcases hi8 with h | h <;> omega);have z4:=kDU (w:=W10.drew) y1 hK11 (fun e=>by have e:b8=w3.heap.size:=e;rcases hi8 with h | h <;> omega);have z5:=kDU (w:=W10.drew) y2 hK11 (fun e=>by have e:b8=w3.heap.size:=e;rcases hi8 with h | h <;> omega)))
   all_goals
    have HRa:=hJ (And.intro hM11 hK11);clear hM11 hK11 z0 z1 z2 z3 z4 z5
    go_wp2_with fail
    go_meet
    exact ⟨rfl,hJ HRa.out.1,hJ ⟨HRa.out.2.os,HRa.out.2.tape,HRa.out.2.output,HRa.out.2.size,HRa.out.2.block⟩⟩
  case rest =>
   obtain ⟨rfl,HMd,HKd⟩:=hcut;have y2c:=kDU y2 HKd.out hi8';have hzd:=HKd.out.size;have HA12:=hJ ((HA9.out.below HB10.out HA9.out.lt).kb HKd.out (by omega));have HO12:=hJ ((HO9.out.below HB10.out).kb HKd.out (fun _ h=>h.elim) (by omega));have HPp12:=hJ ((HPp9.out.below HB10.out).kb HKd.out (fun q hq e=>by rcases hq with h | h <;> omega));have HTt12:=hJ ((HTt9.out.below HB10.out).kb HKd.out (fun q hq e=>by rcases hq with h | h <;> omega));have HW12:=hJ (HW9.out.trans ((HB10.out.mono HW9.out.size).trans (HKd.out.below hw3 (by omega))));clear y0 y1 y2 k0 k1 k2 HP HBs HM9 HO9 HPp9 HTt9 HS99 HS89 HA9 HW9 HB10 HKd
   go_wp2_with (at_builtin;refine app_nothing kCA rfl _ _ rfl a10 1 c10 hc10 rfl sb sd rfl ?_)
   rw [rounds_succ];have xa0:=HA12.out.cell 0 _ rfl;have xa1:=HA12.out.cell 1 _ rfl;have xa2:=HA12.out.cell 2 _ rfl;have xa3:=HA12.out.cell 3 _ rfl;have xa4:=HA12.out.cell 4 _ rfl;have hbs:W7.heap.size≤wc.heap.size:=by omega
   have HD:=hJ (mat_dims HMd.out HO12.out hbs (by omega) HPp12.out HTt12.out (RSch.below HR1.out HW12.out) (HE.out _ HW12.out))
   change Hid (Calls _ _ #[_,.agg #[.slice p1 1 c1,.string aS,.string ⟨#[]⟩,.slice t1 0 d1,.slice q1 0 e1]] _ _) at HD
   go_wp2_with fail
   refine HD.out.mono ?_;rintro e w13 ⟨rfl,⟨ad,cd,hM13,hO13⟩,hK13⟩;have HM13:=hJ hM13;have HA13:Hid (Bx w13 w.heap.size 29 [.slice p1 1 c1,.string aS,.string ⟨#[]⟩,.slice t1 0 d1,.slice q1 0 e1]):=hJ ((hK13.block w.heap.size (by omega) (by omega)).trans HA12.out);have HW13:Hid (Below w.heap.size w w13):=hJ (HW12.out.trans ⟨hK13.os,hK13.tape,hK13.output,hK13.size,fun k hk=>hK13.block k (by omega) (by omega)⟩);have hz13:=hK13.size;have HSo:=hJ (sortFunc_Bnd hO13 (by omega) (by decide) 101 (kBA func101 rfl rfl) cmpK preB (fun S' T' W x y cs ds h1 h2=>inst_cmp h1 h2));clear hM13 hO13 hK13 HD xa0 xa1 xa2 xa3 xa4 HMd HO12 HPp12 HTt12 HW12 HA12;have xa2:=HA13.out.cell 4 _ rfl;have m0:=HM13.out.cell 0 _ rfl
   go_wp2_with fail
   refine wp_loop_rounds 1 ?_;rw [rounds_succ]
   go_wp2_with fail
   refine wp_loop_rounds 1 ?_;rw [rounds_succ]
   go_wp2_with fail
   refine HSo.out.mono ?_;rintro e w14 ⟨⟨rfl,m,hpm,hle,hom,_⟩,hb14⟩;rw [two_sorted hpm hle] at hom;have HM14:=hJ (HM13.out.below hb14 (by omega));have HW14:=hJ (HW13.out.trans (hb14.mono (by omega)));obtain ⟨a',c',e',hs'⟩:=hom.sl;rw [Value.slice.injEq] at e';obtain ⟨rfl,_,rfl⟩:=e';have HF:Hid (Sl RBnd (fun q=>w.heap.size≤q) w14 ad 2 cd [bd3,bA]):=hJ (hs'.mono (fun q hq _=>by have hq:W7.heap.size≤q:=hq.elim False.elim id;omega));clear hs' hom hpm hle hb14 m0 xa2;have m0:=HM14.out.cell 0 _ rfl
   go_wp2_with fail
   go_returns
   exact ⟨⟨ad,cd,rfl,HF.out⟩,HW14.out⟩
theorem types_Canonical {S:Blk} {s:Sch} {cs:List Value} {w:World} (h:RSch.rd S w cs s) (hz:szS s) (hwl:kAI s=true→s.wh.length≤12) (E:Env w) :
 Calls Tryz.prog 38 #[.agg cs.toArray] w fun e w'=>(∃ ds,e= .returned (.tuple #[.agg ds.toArray,.int .i64 (canErr s)])∧RSch.rd (fun q=>w.heap.size≤q) w' ds (can s))∧Below w.heap.size w w':=by
 have HV:Hid (∀ W,Below w.heap.size w W→Calls Tryz.prog 30 #[.agg cs.toArray] W fun e w'=>e= .returned (.bool (kAI s))∧Below W.heap.size W w') :=
  hJ (fun W hW=>kA6 (RSch.below h hW) hz (E.below hW))
 have HE:=hJ (fun (W:World) (hW:Below w.heap.size w W)=>E.below hW);have HSc:=hJ (fun (W:World) (hW:Below w.heap.size w W)=>RSch.below h hW);cases hv:kAI s with
 | false =>
   rw [hv] at HV;have HBd:=hJ (can_no hv);obtain ⟨p,t,q,rfl,⟨ap,cp,rfl,_⟩,⟨at_,ct,rfl,_⟩,⟨aq,cq,rfl,_⟩⟩:=h;clear hv;obtain ⟨B0,ya,yb,hW0⟩:=box2 w 29 [.slice ap s.params.length cp,.string s.result.elem,.string s.result.shape.row,.slice at_ s.result.shape.dims.length ct,.slice aq s.wh.length cq] 29 [.slice none 0 0,.string ⟨#[]⟩,.string ⟨#[]⟩,.slice none 0 0,.slice none 0 0];have xa0:=box0 ya 0 _ rfl;have xa1:=box0 ya 1 _ rfl;have xa2:=box0 ya 2 _ rfl;have xa3:=box0 ya 3 _ rfl;have xa4:=box0 ya 4 _ rfl;have xb0:=box0 yb 0 _ rfl;have xb1:=box0 yb 1 _ rfl;have xb2:=box0 yb 2 _ rfl;have xb3:=box0 yb 3 _ rfl;have xb4:=box0 yb 4 _ rfl;have bka:Bx _ _ _ _:=ya;have bkb:Bx _ _ _ _:=yb;clear ya yb;have HR0:=hJ bkb;clear bka bkb;go_enter func38,ntmps38
   go_wp2_with fail
   refine (HV.out _ B0.out).mono ?_;rintro e w1 ⟨rfl,hb1⟩;have HRw:=hJ (HR0.out.below hb1 HR0.out.lt);have HWw:Hid (Below w.heap.size w w1):=hJ (B0.out.trans (hb1.mono B0.out.size));clear xa0 xa1 xa2 xa3 xa4 xb0 xb1 xb2 xb3 xb4 hb1 HR0 B0 HV;have v0:=HRw.out.cell 0 _ rfl;have v1:=HRw.out.cell 1 _ rfl;have v2:=HRw.out.cell 2 _ rfl;have v3:=HRw.out.cell 3 _ rfl;have v4:=HRw.out.cell 4 _ rfl;have u0:=HRw.out.fz 0;have u1:=HRw.out.fz 1;have u2:=HRw.out.fz 2;have u3:=HRw.out.fz 3;have u4:=HRw.out.fz 4;have hlr:=HRw.out.lt;have HX60:=hJ (((((HRw.out.set 0 (.slice none 0 0)).set 1 (.string ⟨#[]⟩)).set 2 (.string ⟨#[]⟩)).set 3 (.slice none 0 0)).set 4 (.slice none 0 0));have s0:=HX60.out.cell 0 _ rfl;have s1:=HX60.out.cell 1 _ rfl;have s2:=HX60.out.cell 2 _ rfl;have s3:=HX60.out.cell 3 _ rfl;have s4:=HX60.out.cell 4 _ rfl
   go_wp2_with fail
   refine bodyPost_ret (v:=.tuple #[.agg #[.slice none 0 0,.string ⟨#[]⟩,.string ⟨#[]⟩,.slice none 0 0,.slice none 0 0],.int .i64 1]) (by simp [results,results38,go_sem,s0,s1,s2,s3,s4,hlr]) rfl ?_;refine ⟨⟨[.slice none 0 0,.string ⟨#[]⟩,.string ⟨#[]⟩,.slice none 0 0,.slice none 0 0],by rw [HBd.out.1],by rw [HBd.out.2];exact (kIW.no _ _).rd⟩,?_⟩
   repeat (first | exact HWw.out | refine Below.setCell ?_ (by show _≤w.heap.size+1;omega) _)
 | true =>
   rw [hv] at HV
   have HCV:Hid (∀ W,Below w.heap.size w W→Calls Tryz.prog 32 #[.agg cs.toArray] W fun e w'=>(∃ v,e= .returned v∧Own RBnd 47 (fun _=>False) w' W.heap.size v (kBD s))∧Below W.heap.size W w') :=
    hJ (fun W hW=>types_Vars (HSc.out W hW) hv (HE.out W hW))
   have HInv:=hJ (kIX hv);have HLen:=hJ (varsSch_len (s:=s));have HCS:=hJ (fun (W:World) (hW:Below w.heap.size w W) (T:Blk) (a:Option Addr) (nb cb:Nat) (hbs:Sl RBnd T W a nb cb (ren (kBD s)))=>types_SubstScheme (HSc.out W hW) hv (ren (kBD s)) a nb cb hbs (canon_binds hv) (ren_plain (kIX hv)) (HE.out W hW));have HBad:=hJ (fun q=>can_bad hv q);have HGood:=hJ (fun q=>can_good hv q);have HWL:Hid (s.wh.length≤12):=hJ (hwl hv);obtain ⟨p,t,q,rfl,⟨ap,cp,rfl,_⟩,⟨at_,ct,rfl,_⟩,⟨aq,cq,rfl,_⟩⟩:=h;clear hv hwl HSc E;generalize kBD s=L at *;obtain ⟨B0,ya,yb,hW0⟩:=box2 w 29 [.slice ap s.params.length cp,.string s.result.elem,.string s.result.shape.row,.slice at_ s.result.shape.dims.length ct,.slice aq s.wh.length cq] 29 [.slice none 0 0,.string ⟨#[]⟩,.string ⟨#[]⟩,.slice none 0 0,.slice none 0 0];have xa0:=box0 ya 0 _ rfl;have xa1:=box0 ya 1 _ rfl;have xa2:=box0 ya 2 _ rfl;have xa3:=box0 ya 3 _ rfl;have xa4:=box0 ya 4 _ rfl;have xb0:=box0 yb 0 _ rfl;have xb1:=box0 yb 1 _ rfl;have xb2:=box0 yb 2 _ rfl;have xb3:=box0 yb 3 _ rfl;have xb4:=box0 yb 4 _ rfl;have bka:Bx _ _ _ _:=ya;have bkb:Bx _ _ _ _:=yb;clear ya yb;have HA0:=hJ bka;have HR0:=hJ bkb;clear bka bkb;go_enter func38,ntmps38
   go_wp2_with fail
   refine (HV.out _ B0.out).mono ?_;rintro e w1 ⟨rfl,hb1⟩;have HA1:=hJ (HA0.out.below hb1 HA0.out.lt);have HR1:=hJ (HR0.out.below hb1 HR0.out.lt);have HW1:Hid (Below w.heap.size w w1):=hJ (B0.out.trans (hb1.mono B0.out.size));have hz1:w.heap.size+2≤w1.heap.size:=by have:=hb1.size;simpa using this
   clear xa0 xa1 xa2 xa3 xa4 xb0 xb1 xb2 xb3 xb4 hb1 HR0 HA0 B0 HV hW0;have y0:=HA1.out.cell 0 _ rfl;have y1:=HA1.out.cell 1 _ rfl;have y2:=HA1.out.cell 2 _ rfl;have y3:=HA1.out.cell 3 _ rfl;have y4:=HA1.out.cell 4 _ rfl;have hl1:=HA1.out.lt;have HBa:Hid (Below w1.heap.size w1 (w1.alloc (.cells #[.int .i64 0,.int .i64 0,.int .i64 0,.int .i64 0] 100))):=hJ ((Below.refl _ _).alloc (Nat.le_refl _) _)
   go_wp2_with fail
   refine (HCV.out _ (HW1.out.trans (HBa.out.mono HW1.out.size))).mono ?_;rintro e w2 ⟨⟨v,rfl,hown⟩,hb2⟩;obtain ⟨a5,c5,rfl,_⟩:=hown.sl;have HB2:=hJ (HBa.out.trans (hb2.mono HBa.out.size));have HG2:Hid (Bx w2 w1.heap.size 100 (cntV L 0)):=hJ (by rw [cntV_zero];exact (Bx.fresh w1 100 [.int .i64 0,.int .i64 0,.int .i64 0,.int .i64 0]).below hb2 (by simp));have HA2:=hJ (HA1.out.below HB2.out HA1.out.lt);have HR2:=hJ (HR1.out.below HB2.out HR1.out.lt);have HW2:=hJ (HW1.out.trans (HB2.out.mono HW1.out.size));have hz2:w1.heap.size+1≤w2.heap.size:=by have:=hb2.size;simpa using this
   have HO2:Hid (Own RBnd 47 (fun q=>w2.heap.size≤q) w2 (w1.heap.size+1) (.slice a5 L.length c5) (kGT L 0)):=hJ (by have:=hown.mono (S':=fun q=>w2.heap.size≤q) (fun k hk _=>hk.elim);simpa [renUp_zero] using this);have HSm:L.length≤3000:=HLen.out;clear hown hb2 y0 y1 y2 y3 y4 HCV HA1 HR1 hl1 HBa;generalize hn:L.length=n at *;have HN:=hJ hn;clear hn
   go_wp2_with fail
   go_loopw [19] (fun iv wr=>∃ k:Nat,k≤n∧iv= .int .i64 k∧Hid (Own RBnd 47 (fun q=>w2.heap.size≤q) wr (w1.heap.size+1) (.slice a5 n c5) (kGT L k))∧Hid (Bx wr w1.heap.size 100 (cntV L k))∧Hid (∀ q,q<w2.heap.size→q≠w1.heap.size→(Value.slice a5 n c5).ownBlock≠some q→wr.heap[q]? =w2.heap[q]?)∧Below w.heap.size w wr∧w2.heap.size≤wr.heap.size) (fun iv _=>n - (intOf iv).toNat)
   case atStart=>exact ⟨0,Nat.zero_le _,rfl,HO2,HG2,hJ (fun _ _ _ _=>rfl),HW2.out,Nat.le_refl _⟩
   case round =>
    obtain ⟨k,hk,rfl,HO,HG,HK,hB,hsz⟩:=hrel;by_cases hlt:k<n
    · have hkl:k<L.length:=by rw [HN.out];exact hlt
      obtain ⟨gb,c',css,rest,hv,hgb,hR,hL,hlc,hcm,hsl⟩:=HO.out.raw (by rw [kEH (by omega)];omega);rw [Value.slice.injEq] at hv;obtain ⟨rfl,-,rfl⟩:=hv;rw [kEH (by omega),HN.out] at hlc;obtain ⟨cs,hi,hr⟩:=hL.2 k _ (renUp_at hkl);have HGood2:=hJ (HInv.out.good _ (kAJ hkl));have HRen:=hJ (renAt1 hkl HGood2.out.1);have HNext:=hJ (renUp_next hkl);have hL3:L.length≤3000:=by rw [HN.out];exact HSm
      have hc1:=cnt_bd hL3 1 k;have hc2:=cnt_bd hL3 2 k;have hc3:=cnt_bd hL3 3 k;have HCV0:Hid (cntV L k=[.int .i64 0,.int .i64 (cntK 1 (L.take k)),.int .i64 (cntK 2 (L.take k)),.int .i64 (cntK 3 (L.take k))]):=hJ rfl;obtain ⟨kd,nv,hx⟩:∃ kd nv,L.getD k default=⟨kd,nv,⟨0,[]⟩,⟨⟨#[]⟩,[]⟩,⟨#[]⟩⟩:=⟨_,_,HGood2.out.1⟩
      rw [hx] at HRen HGood2 hr;obtain ⟨t,d,rfl,⟨ta,tc,rfl,hta⟩,⟨da,dc,rfl,hda⟩⟩:=hr;have hi:css[k]? =some [.int .i64 kd,.string nv,.int .i64 0,.slice ta 0 tc,.string ⟨#[]⟩,.slice da 0 dc,.string ⟨#[]⟩]:=hi;have HI:=hJ hi;have HTa:Hid (tc≤maxLen∧(ta=none→tc=0)):=hJ ⟨hta.max,hta.nil⟩;have HDa:Hid (dc≤maxLen∧(da=none→dc=0)):=hJ ⟨hda.max,hda.nil⟩;have hok:=HGood2.out.2;have HR:Hid (Raw 7 47 wr gb css rest):=hJ hR;have HL:=hJ hL;have HSl:Hid (css.length * 7+rest.length=c5 * 7):=hJ hsl;have hgl:=hR.lt;have hgne:w1.heap.size≠gb:=by omega
      obtain ⟨y,hy⟩:∃ y,renAt L k=y:=⟨_,rfl⟩
      have HYe:=hJ hy;rw [hy] at HNext;obtain ⟨n1,hn1⟩:∃ q,cntK 1 (L.take k)=q:=⟨_,rfl⟩
      obtain ⟨n2,hn2⟩:∃ q,cntK 2 (L.take k)=q:=⟨_,rfl⟩
      obtain ⟨n3,hn3'⟩:∃ q,cntK 3 (L.take k)=q:=⟨_,rfl⟩
      have HCe:Hid (cntK 1 (L.take k)=n1∧cntK 2 (L.take k)=n2∧cntK 3 (L.take k)=n3):=hJ ⟨hn1,hn2,hn3'⟩;rw [hn1] at hc1;rw [hn2] at hc2;rw [hn3'] at hc3;rw [hn1,hn2,hn3'] at HCV0;have HGq:=hJ (HCV0.out ▸ HG.out);have HOl:Hid (∀ q,q<w2.heap.size→(Value.slice (some ⟨gb,0,none⟩) n c5).ownBlock≠some q→q≠gb):=hJ (fun q _ h e=>h (by rw [e];rfl));clear hn1 hn2 hn3' hx hkl hta hda hR hL hsl hi hL3 HGood2 hy HO HG;rcases hok with ⟨hok,hnm⟩ | ⟨hok,hnm⟩ | ⟨hok,hnm⟩
      · skip
        have hkd:kd=1:=hok;subst hkd;have HR1':=hJ (HRen.out.at1 rfl);rw [HCe.out.1] at HR1';clear HRen;have e0:=HR.out.cell HI.out 0 _ rfl;rw [Nat.add_zero] at e0;have g1:=HGq.out.cell 1 _ rfl;have v1:=HGq.out.fz 1;have HGb:=hJ (HGq.out.set 1 (.int .i64 ((n1:Int)+1)));have HRb:Hid (Raw 7 47 (wr.setCell ⟨w1.heap.size,1,none⟩ (.int .i64 ((n1:Int)+1))) gb css rest):=hJ (HR.out.other (by show w1.heap.size≠gb;exact hgne));have HKb:Hid (∀ q,q<wr.heap.size→q≠w1.heap.size→(wr.setCell ⟨w1.heap.size,1,none⟩ (.int .i64 ((n1:Int)+1))).heap[q]? =wr.heap[q]?):=hJ (fun q hq hne=>kAB (fun e=>hne e.symm));have HBb:Hid (Below w.heap.size w (wr.setCell ⟨w1.heap.size,1,none⟩ (.int .i64 ((n1:Int)+1)))):=hJ (hB.setCell (by show w.heap.size≤w1.heap.size;omega) _);have HZb:Hid ((wr.setCell ⟨w1.heap.size,1,none⟩ (.int .i64 ((n1:Int)+1))).heap.size=wr.heap.size):=hJ (by simp)
        go_wp2_with fail
        have f0:=HRb.out.cell HI.out 0 _ rfl;have h1:=HGb.out.cell 1 _ rfl;rw [Nat.add_zero] at f0;clear e0 g1 v1;generalize (wr.setCell ⟨w1.heap.size,1,none⟩ (.int .i64 ((n1:Int)+1)))=wb at *
        have HIt:Hid (∀ t:Later wb,Calls Tryz.prog 88 #[.int .i64 ((n1:Int)+1)] t.w fun e w'=>e= .returned (.string (decS (n1+1)))∧Below t.w.heap.size t.w w'):=hJ (fun t=>by
         have h:=itoa_nat (n1+1) (by omega) t.w ((HE.out wb HBb.out).at_ t)
         rwa [Int.natCast_add,Int.natCast_one] at h)
        have hds:(decS (n1+1)).size≤6:=by
         show (Lib.decDigits (n1+1)).length≤6
         exact dec_len 5 _ (by omega)
        have HNm:Hid (∀ c:UInt8,(⟨#[c]⟩:Str)++decS (n1+1)=nm c (n1+1)):=hJ (fun c=>rfl);generalize decS (n1+1)=dd at *;have F0:=Later.cell f0;have H1:=Later.cell h1;clear f0 h1;have hix:∀ W:World,(Instr.index 102 (.agg #[.string ⟨#[]⟩,.string ⟨#[110]⟩,.string ⟨#[114]⟩,.string ⟨#[65]⟩]) (.int .i64 1)).run Tryz.prog W= .ok (.string ⟨#[110]⟩) W:=fun W=>by kernel_rfl
        refine kAA (by kernel_rfl) (by kernel_rfl) ?_
        repeat (go_big_quiet_step (first | fail | exact Later.call (HIt.out _)))
        refine wpQuiet_nil ?_;rintro _ ⟨t9,rfl⟩;have HBq:Hid (Below wb.heap.size wb t9.w):=hJ t9.b;generalize t9.w=wq at *;clear F0 H1 HIt;have hzb:wb.heap.size=wr.heap.size:=HZb.out;have hzq:=HBq.out.size;rw [hzb] at hzq;have HRq:=hJ (HRb.out.below HBq.out HRb.out.lt);have HGq2:=hJ (HGb.out.below HBq.out HGb.out.lt);have HKq:Hid (∀ q,q<wr.heap.size→q≠w1.heap.size→wq.heap[q]? =wr.heap[q]?):=hJ (fun q hq hne=>(HBq.out.block q (by rw [HZb.out];exact hq)).trans (HKb.out q hq hne));have HBw:Hid (Below w.heap.size w wq):=hJ (HBb.out.trans (HBq.out.mono HBb.out.size));have p0:=HRq.out.cell HI.out 0 _ rfl;rw [Nat.add_zero] at p0;clear hzb HRb HGb HKb HBb HBq HZb HR HGq
        go_wp2_with fail
        refine (linear_Var ((⟨#[110]⟩:Str)++dd) wq).mono ?_;rintro e w5 ⟨⟨_,rfl,hr5⟩,hb5⟩;obtain ⟨_,rfl,a9,c9,rfl,hs9⟩:=hr5;have HS9:=hJ hs9;have HR5:=hJ (HRq.out.below hb5 HRq.out.lt);have c2:=HR5.out.cell HI.out 2 _ rfl;have c3:=HR5.out.cell HI.out 3 _ rfl;have v2:=HR5.out.fz (k * 7+2);have v3:=HR5.out.fz (k * 7+3);have hz5:=hb5.size;have HRd:Hid (Raw 7 47 ((w5.setCell ⟨gb,k * 7+2,none⟩ (.int .i64 0)).setCell ⟨gb,k * 7+3,none⟩ (.slice a9 1 c9)) gb (css.set k [.int .i64 1,.string nv,.int .i64 0,.slice a9 1 c9,.string ⟨#[]⟩,.slice da 0 dc,.string ⟨#[]⟩]) rest):=hJ (HR5.out.set2 HI.out (by decide) (by decide) (.int .i64 0) (.slice a9 1 c9));have HGd:=hJ (((HGq2.out.below hb5 HGq2.out.lt).other (a:=⟨gb,k * 7+2,none⟩) (u:=.int .i64 0) (by show gb≠w1.heap.size;omega)).other (a:=⟨gb,k * 7+3,none⟩) (u:=.slice a9 1 c9) (by show gb≠w1.heap.size;omega));have HKd:Hid (∀ q,q<wr.heap.size→q≠w1.heap.size→q≠gb→((w5.setCell ⟨gb,k * 7+2,none⟩ (.int .i64 0)).setCell ⟨gb,k * 7+3,none⟩ (.slice a9 1 c9)).heap[q]? =wr.heap[q]?):=hJ (fun q hq hne hg=>(kAB (fun e=>hg e.symm)).trans ((kAB (fun e=>hg e.symm)).trans ((hb5.block q (by omega)).trans (HKq.out q hq hne))));have HBd:Hid (Below w.heap.size w ((w5.setCell ⟨gb,k * 7+2,none⟩ (.int .i64 0)).setCell ⟨gb,k * 7+3,none⟩ (.slice a9 1 c9))):=hJ (((HBw.out.trans (hb5.mono HBw.out.size)).setCell (by show w.heap.size≤gb;omega) _).setCell (by show w.heap.size≤gb;omega) _);have HZd:Hid (w2.heap.size≤((w5.setCell ⟨gb,k * 7+2,none⟩ (.int .i64 0)).setCell ⟨gb,k * 7+3,none⟩ (.slice a9 1 c9)).heap.size):=hJ (by simp;omega)
        have HRY:Hid (RBnd.rd (fun q=>w2.heap.size≤q∧q≠gb) ((w5.setCell ⟨gb,k * 7+2,none⟩ (.int .i64 0)).setCell ⟨gb,k * 7+3,none⟩ (.slice a9 1 c9)) [.int .i64 1,.string nv,.int .i64 0,.slice a9 1 c9,.string ⟨#[]⟩,.slice da 0 dc,.string ⟨#[]⟩] y):=hJ (by
         rw [← HYe.out,HR1'.out.1,← HNm.out];refine ⟨_,_,rfl,⟨a9,c9,rfl,?_⟩,⟨da,dc,rfl,Sl.zero HDa.out.1 HDa.out.2⟩⟩;have hne:∀ q,wq.heap.size≤q→gb≠q:=fun q hq=>by omega
         exact ((HS9.out.set (hne)).set hne).mono (fun q hq _=>⟨by have hq:wq.heap.size≤q:=hq;omega,fun e=>hne q hq e.symm⟩))
        clear hs9
        have HLz:Hid (Lies RBnd (fun q=>w2.heap.size≤q) ((w5.setCell ⟨gb,k * 7+2,none⟩ (.int .i64 0)).setCell ⟨gb,k * 7+3,none⟩ (.slice a9 1 c9)) gb (css.set k [.int .i64 1,.string nv,.int .i64 0,.slice a9 1 c9,.string ⟨#[]⟩,.slice da 0 dc,.string ⟨#[]⟩]) (kGT L (k+1))):=hJ (by
         rw [HNext.out];exact (HL.out.frame (w':=((w5.setCell ⟨gb,k * 7+2,none⟩ (.int .i64 0)).setCell ⟨gb,k * 7+3,none⟩ (.slice a9 1 c9))) (fun q hq hne hlt=>HKd.out q hlt (by have:w2.heap.size≤q:=hq;omega) hne)).set k HRY.out)
        have HOz:Hid (Own RBnd 47 (fun q=>w2.heap.size≤q) ((w5.setCell ⟨gb,k * 7+2,none⟩ (.int .i64 0)).setCell ⟨gb,k * 7+3,none⟩ (.slice a9 1 c9)) (w1.heap.size+1) (.slice (some ⟨gb,0,none⟩) n c5) (kGT L (k+1))):=hJ (by
         have h:=HRd.out.own HLz.out hgb (by rw [kEH (by rw [HN.out];omega),HN.out];exact hlc) hcm (by rw [List.length_set];exact HSl.out)
         rwa [kEH (by rw [HN.out];omega),HN.out] at h)
        have HGz:Hid (Bx ((w5.setCell ⟨gb,k * 7+2,none⟩ (.int .i64 0)).setCell ⟨gb,k * 7+3,none⟩ (.slice a9 1 c9)) w1.heap.size 100 (cntV L (k+1))):=hJ (by rw [HR1'.out.2,HCV0.out];exact HGd.out);have HKz:Hid (∀ q,q<w2.heap.size→q≠w1.heap.size→(Value.slice (some ⟨gb,0,none⟩) n c5).ownBlock≠some q→((w5.setCell ⟨gb,k * 7+2,none⟩ (.int .i64 0)).setCell ⟨gb,k * 7+3,none⟩ (.slice a9 1 c9)).heap[q]? =w2.heap[q]?):=hJ (fun q hq hne ho=>(HKd.out q (by omega) hne (HOl.out q hq ho)).trans (HK.out q hq hne ho))
        go_wp2_with fail
        go_roundw
        case rel=>exact ⟨k+1,by omega,by go_num,HOz,HGz,HKz,HBd.out,HZd.out⟩
        case measure=>simp [intOf];omega
      · skip
        have hkd:kd=2:=hok;subst hkd;have HR1':=hJ (HRen.out.at2 rfl);rw [HCe.out.2.1] at HR1';clear HRen;have e0:=HR.out.cell HI.out 0 _ rfl;rw [Nat.add_zero] at e0;have g1:=HGq.out.cell 2 _ rfl;have v1:=HGq.out.fz 2;have HGb:=hJ (HGq.out.set 2 (.int .i64 ((n2:Int)+1)));have HRb:Hid (Raw 7 47 (wr.setCell ⟨w1.heap.size,2,none⟩ (.int .i64 ((n2:Int)+1))) gb css rest):=hJ (HR.out.other (by show w1.heap.size≠gb;exact hgne));have HKb:Hid (∀ q,q<wr.heap.size→q≠w1.heap.size→(wr.setCell ⟨w1.heap.size,2,none⟩ (.int .i64 ((n2:Int)+1))).heap[q]? =wr.heap[q]?):=hJ (fun q hq hne=>kAB (fun e=>hne e.symm));have HBb:Hid (Below w.heap.size w (wr.setCell ⟨w1.heap.size,2,none⟩ (.int .i64 ((n2:Int)+1)))):=hJ (hB.setCell (by show w.heap.size≤w1.heap.size;omega) _);have HZb:Hid ((wr.setCell ⟨w1.heap.size,2,none⟩ (.int .i64 ((n2:Int)+1))).heap.size=wr.heap.size):=hJ (by simp)
        go_wp2_with fail
        have f0:=HRb.out.cell HI.out 0 _ rfl;have h1:=HGb.out.cell 2 _ rfl;rw [Nat.add_zero] at f0;clear e0 g1 v1;generalize (wr.setCell ⟨w1.heap.size,2,none⟩ (.int .i64 ((n2:Int)+1)))=wb at *
        have HIt:Hid (∀ t:Later wb,Calls Tryz.prog 88 #[.int .i64 ((n2:Int)+1)] t.w fun e w'=>e= .returned (.string (decS (n2+1)))∧Below t.w.heap.size t.w w'):=hJ (fun t=>by
         have h:=itoa_nat (n2+1) (by omega) t.w ((HE.out wb HBb.out).at_ t)
         rwa [Int.natCast_add,Int.natCast_one] at h)
        have hds:(decS (n2+1)).size≤6:=by
         show (Lib.decDigits (n2+1)).length≤6
         exact dec_len 5 _ (by omega)
        have HNm:Hid (∀ c:UInt8,(⟨#[c]⟩:Str)++decS (n2+1)=nm c (n2+1)):=hJ (fun c=>rfl);generalize decS (n2+1)=dd at *;have F0:=Later.cell f0;have H1:=Later.cell h1;clear f0 h1;have hix:∀ W:World,(Instr.index 102 (.agg #[.string ⟨#[]⟩,.string ⟨#[110]⟩,.string ⟨#[114]⟩,.string ⟨#[65]⟩]) (.int .i64 2)).run Tryz.prog W= .ok (.string ⟨#[114]⟩) W:=fun W=>by kernel_rfl
        refine kAA (by kernel_rfl) (by kernel_rfl) ?_
        repeat (go_big_quiet_step (first | fail | exact Later.call (HIt.out _)))
        refine wpQuiet_nil ?_;rintro _ ⟨t9,rfl⟩;have HBq:Hid (Below wb.heap.size wb t9.w):=hJ t9.b;generalize t9.w=wq at *;clear F0 H1 HIt;have hzb:wb.heap.size=wr.heap.size:=HZb.out;have hzq:=HBq.out.size;rw [hzb] at hzq;have HRq:=hJ (HRb.out.below HBq.out HRb.out.lt);have HGq2:=hJ (HGb.out.below HBq.out HGb.out.lt);have HKq:Hid (∀ q,q<wr.heap.size→q≠w1.heap.size→wq.heap[q]? =wr.heap[q]?):=hJ (fun q hq hne=>(HBq.out.block q (by rw [HZb.out];exact hq)).trans (HKb.out q hq hne));have HBw:Hid (Below w.heap.size w wq):=hJ (HBb.out.trans (HBq.out.mono HBb.out.size));have p0:=HRq.out.cell HI.out 0 _ rfl;rw [Nat.add_zero] at p0;clear hzb HRb HGb HKb HBb HBq HZb HR HGq;have c4:=HRq.out.cell HI.out 4 _ rfl;have v4:=HRq.out.fz (k * 7+4);have HRd:Hid (Raw 7 47 (wq.setCell ⟨gb,k * 7+4,none⟩ (.string ((⟨#[114]⟩:Str)++dd))) gb (css.set k [.int .i64 2,.string nv,.int .i64 0,.slice ta 0 tc,.string ((⟨#[114]⟩:Str)++dd),.slice da 0 dc,.string ⟨#[]⟩]) rest):=hJ (HRq.out.set HI.out (j:=4) (by decide) _);have HGd:=hJ (HGq2.out.other (a:=⟨gb,k * 7+4,none⟩) (u:=.string ((⟨#[114]⟩:Str)++dd)) (by show gb≠w1.heap.size;omega));have HKd:Hid (∀ q,q<wr.heap.size→q≠w1.heap.size→q≠gb→(wq.setCell ⟨gb,k * 7+4,none⟩ (.string ((⟨#[114]⟩:Str)++dd))).heap[q]? =wr.heap[q]?):=hJ (fun q hq hne hg=>(kAB (fun e=>hg e.symm)).trans (HKq.out q hq hne));have HBd:Hid (Below w.heap.size w (wq.setCell ⟨gb,k * 7+4,none⟩ (.string ((⟨#[114]⟩:Str)++dd)))):=hJ (HBw.out.setCell (by show w.heap.size≤gb;omega) _);have HZd:Hid (w2.heap.size≤(wq.setCell ⟨gb,k * 7+4,none⟩ (.string ((⟨#[114]⟩:Str)++dd))).heap.size):=hJ (by simp;omega)
        have HRY:Hid (RBnd.rd (fun q=>w2.heap.size≤q∧q≠gb) (wq.setCell ⟨gb,k * 7+4,none⟩ (.string ((⟨#[114]⟩:Str)++dd))) [.int .i64 2,.string nv,.int .i64 0,.slice ta 0 tc,.string ((⟨#[114]⟩:Str)++dd),.slice da 0 dc,.string ⟨#[]⟩] y):=hJ (by
         rw [← HYe.out,HR1'.out.1,← HNm.out];exact ⟨_,_,rfl,⟨ta,tc,rfl,Sl.zero HTa.out.1 HTa.out.2⟩,⟨da,dc,rfl,Sl.zero HDa.out.1 HDa.out.2⟩⟩)
        have HLz:Hid (Lies RBnd (fun q=>w2.heap.size≤q) (wq.setCell ⟨gb,k * 7+4,none⟩ (.string ((⟨#[114]⟩:Str)++dd))) gb (css.set k [.int .i64 2,.string nv,.int .i64 0,.slice ta 0 tc,.string ((⟨#[114]⟩:Str)++dd),.slice da 0 dc,.string ⟨#[]⟩]) (kGT L (k+1))):=hJ (by
         rw [HNext.out];exact (HL.out.frame (w':=(wq.setCell ⟨gb,k * 7+4,none⟩ (.string ((⟨#[114]⟩:Str)++dd)))) (fun q hq hne hlt=>HKd.out q hlt (by have:w2.heap.size≤q:=hq;omega) hne)).set k HRY.out)
        have HOz:Hid (Own RBnd 47 (fun q=>w2.heap.size≤q) (wq.setCell ⟨gb,k * 7+4,none⟩ (.string ((⟨#[114]⟩:Str)++dd))) (w1.heap.size+1) (.slice (some ⟨gb,0,none⟩) n c5) (kGT L (k+1))):=hJ (by
         have h:=HRd.out.own HLz.out hgb (by rw [kEH (by rw [HN.out];omega),HN.out];exact hlc) hcm (by rw [List.length_set];exact HSl.out)
         rwa [kEH (by rw [HN.out];omega),HN.out] at h)
        have HGz:Hid (Bx (wq.setCell ⟨gb,k * 7+4,none⟩ (.string ((⟨#[114]⟩:Str)++dd))) w1.heap.size 100 (cntV L (k+1))):=hJ (by rw [HR1'.out.2,HCV0.out];exact HGd.out);have HKz:Hid (∀ q,q<w2.heap.size→q≠w1.heap.size→(Value.slice (some ⟨gb,0,none⟩) n c5).ownBlock≠some q→(wq.setCell ⟨gb,k * 7+4,none⟩ (.string ((⟨#[114]⟩:Str)++dd))).heap[q]? =w2.heap[q]?):=hJ (fun q hq hne ho=>(HKd.out q (by omega) hne (HOl.out q hq ho)).trans (HK.out q hq hne ho))
        go_wp2_with fail
        go_roundw
        case rel=>exact ⟨k+1,by omega,by go_num,HOz,HGz,HKz,HBd.out,HZd.out⟩
        case measure=>simp [intOf];omega
      · skip
        have hkd:kd=3:=hok;subst hkd;have HR1':=hJ (HRen.out.at3 rfl);rw [HCe.out.2.2] at HR1';clear HRen;have e0:=HR.out.cell HI.out 0 _ rfl;rw [Nat.add_zero] at e0;have g1:=HGq.out.cell 3 _ rfl;have v1:=HGq.out.fz 3;have HGb:=hJ (HGq.out.set 3 (.int .i64 ((n3:Int)+1)));have HRb:Hid (Raw 7 47 (wr.setCell ⟨w1.heap.size,3,none⟩ (.int .i64 ((n3:Int)+1))) gb css rest):=hJ (HR.out.other (by show w1.heap.size≠gb;exact hgne));have HKb:Hid (∀ q,q<wr.heap.size→q≠w1.heap.size→(wr.setCell ⟨w1.heap.size,3,none⟩ (.int .i64 ((n3:Int)+1))).heap[q]? =wr.heap[q]?):=hJ (fun q hq hne=>kAB (fun e=>hne e.symm));have HBb:Hid (Below w.heap.size w (wr.setCell ⟨w1.heap.size,3,none⟩ (.int .i64 ((n3:Int)+1)))):=hJ (hB.setCell (by show w.heap.size≤w1.heap.size;omega) _);have HZb:Hid ((wr.setCell ⟨w1.heap.size,3,none⟩ (.int .i64 ((n3:Int)+1))).heap.size=wr.heap.size):=hJ (by simp)
        go_wp2_with fail
        have f0:=HRb.out.cell HI.out 0 _ rfl;have h1:=HGb.out.cell 3 _ rfl;rw [Nat.add_zero] at f0;clear e0 g1 v1;generalize (wr.setCell ⟨w1.heap.size,3,none⟩ (.int .i64 ((n3:Int)+1)))=wb at *
        have HIt:Hid (∀ t:Later wb,Calls Tryz.prog 88 #[.int .i64 ((n3:Int)+1)] t.w fun e w'=>e= .returned (.string (decS (n3+1)))∧Below t.w.heap.size t.w w'):=hJ (fun t=>by
         have h:=itoa_nat (n3+1) (by omega) t.w ((HE.out wb HBb.out).at_ t)
         rwa [Int.natCast_add,Int.natCast_one] at h)
        have hds:(decS (n3+1)).size≤6:=by
         show (Lib.decDigits (n3+1)).length≤6
         exact dec_len 5 _ (by omega)
        have HNm:Hid (∀ c:UInt8,(⟨#[c]⟩:Str)++decS (n3+1)=nm c (n3+1)):=hJ (fun c=>rfl);generalize decS (n3+1)=dd at *;have F0:=Later.cell f0;have H1:=Later.cell h1;clear f0 h1;have hix:∀ W:World,(Instr.index 102 (.agg #[.string ⟨#[]⟩,.string ⟨#[110]⟩,.string ⟨#[114]⟩,.string ⟨#[65]⟩]) (.int .i64 3)).run Tryz.prog W= .ok (.string ⟨#[65]⟩) W:=fun W=>by kernel_rfl
        refine kAA (by kernel_rfl) (by kernel_rfl) ?_
        repeat (go_big_quiet_step (first | fail | exact Later.call (HIt.out _)))
        refine wpQuiet_nil ?_;rintro _ ⟨t9,rfl⟩;have HBq:Hid (Below wb.heap.size wb t9.w):=hJ t9.b;generalize t9.w=wq at *;clear F0 H1 HIt;have hzb:wb.heap.size=wr.heap.size:=HZb.out;have hzq:=HBq.out.size;rw [hzb] at hzq;have HRq:=hJ (HRb.out.below HBq.out HRb.out.lt);have HGq2:=hJ (HGb.out.below HBq.out HGb.out.lt);have HKq:Hid (∀ q,q<wr.heap.size→q≠w1.heap.size→wq.heap[q]? =wr.heap[q]?):=hJ (fun q hq hne=>(HBq.out.block q (by rw [HZb.out];exact hq)).trans (HKb.out q hq hne));have HBw:Hid (Below w.heap.size w wq):=hJ (HBb.out.trans (HBq.out.mono HBb.out.size));have p0:=HRq.out.cell HI.out 0 _ rfl;rw [Nat.add_zero] at p0;clear hzb HRb HGb HKb HBb HBq HZb HR HGq;have c6:=HRq.out.cell HI.out 6 _ rfl;have v6:=HRq.out.fz (k * 7+6);have HRd:Hid (Raw 7 47 (wq.setCell ⟨gb,k * 7+6,none⟩ (.string ((⟨#[65]⟩:Str)++dd))) gb (css.set k [.int .i64 3,.string nv,.int .i64 0,.slice ta 0 tc,.string ⟨#[]⟩,.slice da 0 dc,.string ((⟨#[65]⟩:Str)++dd)]) rest):=hJ (HRq.out.set HI.out (j:=6) (by decide) _);have HGd:=hJ (HGq2.out.other (a:=⟨gb,k * 7+6,none⟩) (u:=.string ((⟨#[65]⟩:Str)++dd)) (by show gb≠w1.heap.size;omega));have HKd:Hid (∀ q,q<wr.heap.size→q≠w1.heap.size→q≠gb→(wq.setCell ⟨gb,k * 7+6,none⟩ (.string ((⟨#[65]⟩:Str)++dd))).heap[q]? =wr.heap[q]?):=hJ (fun q hq hne hg=>(kAB (fun e=>hg e.symm)).trans (HKq.out q hq hne));have HBd:Hid (Below w.heap.size w (wq.setCell ⟨gb,k * 7+6,none⟩ (.string ((⟨#[65]⟩:Str)++dd)))):=hJ (HBw.out.setCell (by show w.heap.size≤gb;omega) _);have HZd:Hid (w2.heap.size≤(wq.setCell ⟨gb,k * 7+6,none⟩ (.string ((⟨#[65]⟩:Str)++dd))).heap.size):=hJ (by simp;omega)
        have HRY:Hid (RBnd.rd (fun q=>w2.heap.size≤q∧q≠gb) (wq.setCell ⟨gb,k * 7+6,none⟩ (.string ((⟨#[65]⟩:Str)++dd))) [.int .i64 3,.string nv,.int .i64 0,.slice ta 0 tc,.string ⟨#[]⟩,.slice da 0 dc,.string ((⟨#[65]⟩:Str)++dd)] y):=hJ (by
         rw [← HYe.out,HR1'.out.1,← HNm.out];exact ⟨_,_,rfl,⟨ta,tc,rfl,Sl.zero HTa.out.1 HTa.out.2⟩,⟨da,dc,rfl,Sl.zero HDa.out.1 HDa.out.2⟩⟩)
        have HLz:Hid (Lies RBnd (fun q=>w2.heap.size≤q) (wq.setCell ⟨gb,k * 7+6,none⟩ (.string ((⟨#[65]⟩:Str)++dd))) gb (css.set k [.int .i64 3,.string nv,.int .i64 0,.slice ta 0 tc,.string ⟨#[]⟩,.slice da 0 dc,.string ((⟨#[65]⟩:Str)++dd)]) (kGT L (k+1))):=hJ (by
         rw [HNext.out];exact (HL.out.frame (w':=(wq.setCell ⟨gb,k * 7+6,none⟩ (.string ((⟨#[65]⟩:Str)++dd)))) (fun q hq hne hlt=>HKd.out q hlt (by have:w2.heap.size≤q:=hq;omega) hne)).set k HRY.out)
        have HOz:Hid (Own RBnd 47 (fun q=>w2.heap.size≤q) (wq.setCell ⟨gb,k * 7+6,none⟩ (.string ((⟨#[65]⟩:Str)++dd))) (w1.heap.size+1) (.slice (some ⟨gb,0,none⟩) n c5) (kGT L (k+1))):=hJ (by
         have h:=HRd.out.own HLz.out hgb (by rw [kEH (by rw [HN.out];omega),HN.out];exact hlc) hcm (by rw [List.length_set];exact HSl.out)
         rwa [kEH (by rw [HN.out];omega),HN.out] at h)
        have HGz:Hid (Bx (wq.setCell ⟨gb,k * 7+6,none⟩ (.string ((⟨#[65]⟩:Str)++dd))) w1.heap.size 100 (cntV L (k+1))):=hJ (by rw [HR1'.out.2,HCV0.out];exact HGd.out);have HKz:Hid (∀ q,q<w2.heap.size→q≠w1.heap.size→(Value.slice (some ⟨gb,0,none⟩) n c5).ownBlock≠some q→(wq.setCell ⟨gb,k * 7+6,none⟩ (.string ((⟨#[65]⟩:Str)++dd))).heap[q]? =w2.heap[q]?):=hJ (fun q hq hne ho=>(HKd.out q (by omega) hne (HOl.out q hq ho)).trans (HK.out q hq hne ho))
        go_wp2_with fail
        go_roundw
        case rel=>exact ⟨k+1,by omega,by go_num,HOz,HGz,HKz,HBd.out,HZd.out⟩
        case measure=>simp [intOf];omega
    · obtain rfl:k=n:=by omega
      have HAll:kGT L k=ren L:=by rw [← HN.out];exact renUp_all L
      have hO:=HO.out;rw [HAll] at hO;obtain ⟨_,_,hv,hsl⟩:=hO.sl;rw [Value.slice.injEq] at hv;obtain ⟨rfl,hkr,rfl⟩:=hv;have HCw:=hJ (HCS.out wr hB _ a5 _ c5 hsl);rw [← hkr] at HCw;have hne1:(Value.slice a5 k c5).ownBlock≠some w.heap.size:=HO.out.ne (by omega);have hne2:(Value.slice a5 k c5).ownBlock≠some (w.heap.size+1):=HO.out.ne (by omega);have HAr:Hid (Bx wr _ _ _):=hJ ((HK.out w.heap.size (by omega) (by omega) hne1).trans HA2.out);have HRr:Hid (Bx wr _ _ _):=hJ ((HK.out (w.heap.size+1) (by omega) (by omega) hne2).trans HR2.out);have y0:=HAr.out.cell 0 _ rfl;have y1:=HAr.out.cell 1 _ rfl;have y2:=HAr.out.cell 2 _ rfl;have y3:=HAr.out.cell 3 _ rfl;have y4:=HAr.out.cell 4 _ rfl;have HBr:=hJ hB;have hzr:w.heap.size+2≤wr.heap.size:=by omega
      clear HAll hO hsl hkr hne1 hne2 HO HG HK hB HO2 HG2 HCS HA2 HR2 HB2;generalize hbb:ren L=b at *;clear hbb;cases hok:kC6 b s with
      | false =>
        have HBd:=hJ (HBad.out hok);rw [(sch_no hok).2,(sch_no hok).1] at HCw;clear hok HGood HBad
        go_wp2_with fail
        refine HCw.out.mono ?_;rintro e w3 ⟨⟨ds,rfl,hos⟩,hb3⟩;obtain ⟨base,p,t,q,hb0,rfl,⟨ap3,cp3,rfl,_⟩,⟨at3,ct3,rfl,_⟩,hq⟩:=hos;obtain ⟨aq3,cq3,rfl,_⟩:=hq.sl;obtain ⟨w7,hfold7⟩:∃ q,w3.alloc (.cells #[.slice ap3 kEP.params.length cp3,.string kEP.result.elem,.string kEP.result.shape.row,.slice at3 kEP.result.shape.dims.length ct3,.slice aq3 kEP.wh.length cq3] 29)=q:=⟨_,rfl⟩
        have HRw:=hJ ((HRr.out.below hb3 HRr.out.lt).alloc (.cells #[.slice ap3 kEP.params.length cp3,.string kEP.result.elem,.string kEP.result.shape.row,.slice at3 kEP.result.shape.dims.length ct3,.slice aq3 kEP.wh.length cq3] 29));rw [hfold7] at HRw;have HWw:Hid (Below w.heap.size w w7):=hJ (by rw [← hfold7];exact (HBr.out.trans (hb3.mono HBr.out.size)).alloc (by have:=hb3.size;omega) _);clear hq;have v0:=HRw.out.cell 0 _ rfl;have v1:=HRw.out.cell 1 _ rfl;have v2:=HRw.out.cell 2 _ rfl;have v3:=HRw.out.cell 3 _ rfl;have v4:=HRw.out.cell 4 _ rfl;have u0:=HRw.out.fz 0;have u1:=HRw.out.fz 1;have u2:=HRw.out.fz 2;have u3:=HRw.out.fz 3;have u4:=HRw.out.fz 4;have hlr:=HRw.out.lt;have HX60:=hJ (((((HRw.out.set 0 (.slice none 0 0)).set 1 (.string ⟨#[]⟩)).set 2 (.string ⟨#[]⟩)).set 3 (.slice none 0 0)).set 4 (.slice none 0 0));have s0:=HX60.out.cell 0 _ rfl;have s1:=HX60.out.cell 1 _ rfl;have s2:=HX60.out.cell 2 _ rfl;have s3:=HX60.out.cell 3 _ rfl;have s4:=HX60.out.cell 4 _ rfl
        go_wp2_with fail
        refine bodyPost_ret (v:=.tuple #[.agg #[.slice none 0 0,.string ⟨#[]⟩,.string ⟨#[]⟩,.slice none 0 0,.slice none 0 0],.int .i64 3]) (by simp [results,results38,go_sem,s0,s1,s2,s3,s4,hlr]) rfl ?_;refine ⟨⟨[.slice none 0 0,.string ⟨#[]⟩,.string ⟨#[]⟩,.slice none 0 0,.slice none 0 0],by rw [HBd.out.1],by rw [HBd.out.2];exact (kIW.no _ _).rd⟩,?_⟩
        repeat (first | exact HWw.out | refine Below.setCell ?_ (by show _≤w.heap.size+1;omega) _)
      | true =>
        obtain ⟨hg0,hg1⟩:=HGood.out hok;have HG0:=hJ hg0;have HG1:=hJ hg1;have HE0:kD1 b s=0:=by unfold kD1;rw [hok];rfl
        have HS1:kIN b s=kGP b s:=by unfold kIN;rw [hok];rfl
        rw [HE0,HS1] at HCw;have HSw:Hid ((kGP b s).wh=s.wh.map (kAM b)):=hJ rfl;have HSp:Hid (can s=⟨(kGP b s).params,(kGP b s).result,tidy (kGP b s).wh⟩):=hJ hg1;have hwl12:(kGP b s).wh.length≤12:=by rw [HSw.out,List.length_map];exact HWL.out
        clear hok HGood HBad hg0 hg1 HE0 HS1 HG1 HSw;generalize kGP b s=s' at *
        go_wp2_with fail
        refine HCw.out.mono ?_;rintro e w3 ⟨⟨ds,rfl,hos⟩,hb3⟩;obtain ⟨base,p,t,q,hb0,rfl,⟨ap3,cp3,rfl,hp3⟩,⟨at3,ct3,rfl,ht3⟩,hq⟩:=hos;obtain ⟨aq3,cq3,rfl,_⟩:=hq.sl;obtain ⟨w7,hfold7⟩:∃ q,w3.alloc (.cells #[.slice ap3 s'.params.length cp3,.string s'.result.elem,.string s'.result.shape.row,.slice at3 s'.result.shape.dims.length ct3,.slice aq3 s'.wh.length cq3] 29)=q:=⟨_,rfl⟩
        have HB7:Hid (Below w3.heap.size w3 w7):=hJ (by rw [← hfold7];exact (Below.refl _ _).alloc (Nat.le_refl _) _);have HP7:Hid (Bx w7 w3.heap.size 29 [.slice ap3 s'.params.length cp3,.string s'.result.elem,.string s'.result.shape.row,.slice at3 s'.result.shape.dims.length ct3,.slice aq3 s'.wh.length cq3]):=hJ (by rw [← hfold7];exact Bx.fresh _ _ _);have hz3:=hb3.size;have hz7:w3.heap.size<w7.heap.size:=HP7.out.lt;have HR7:=hJ ((HRr.out.below hb3 HRr.out.lt).below HB7.out (by have:=HRr.out.lt;omega));have HW7:Hid (Below w.heap.size w w7):=hJ ((HBr.out.trans (hb3.mono HBr.out.size)).trans (HB7.out.mono (by omega)));have HOB:Hid (∀ q,(Value.slice aq3 s'.wh.length cq3).ownBlock=some q→base≤q∧q<w3.heap.size):=hJ (fun q h=>hq.block h);have HOq:Hid (Own RLin 45 (fun k=>wr.heap.size≤k∧k≠w3.heap.size) w7 wr.heap.size (.slice aq3 s'.wh.length cq3) s'.wh):=hJ ((((hq.lower hb0).mono (S':=fun k=>wr.heap.size≤k∧k≠w3.heap.size) (fun k hk hlt=>⟨by have hk:base≤k:=hk;omega,by omega⟩))).below HB7.out);have HPs:=hJ hp3;have HTs:=hJ ht3;have HDel:=hJ (delete_Lin HOq.out (by omega) (by omega) 91 (kBA func91 rfl rfl) dropL (fun S' W x cs hr=>canonical_1 hr));have p4:=HP7.out.cell 4 _ rfl;clear hp3 ht3 hq HCw
        go_wp2_with fail
        refine HDel.out.mono ?_;rintro e w8 ⟨⟨v1,rfl,hown8,hk8⟩,hb8⟩;clear HDel;have hz8:w7.heap.size≤w8.heap.size:=hb8.size;have HN8:Hid (v1.ownBlock≠some w3.heap.size):=hJ (fun e=>(hk8.own _ e).elim (fun e=>by have:=(HOB.out _ e).2;omega) (fun e=>by omega));have HK8:Hid (∀ q,q<w7.heap.size→q≠w3.heap.size→(Value.slice aq3 s'.wh.length cq3).ownBlock≠some q→w8.heap[q]? =w7.heap[q]?):=hJ (fun q hq _ hne=>hk8.block q hq hne);have HV8:Hid (∀ q,v1.ownBlock=some q→(Value.slice aq3 s'.wh.length cq3).ownBlock=some q∨w7.heap.size≤q):=hJ hk8.own;have HP8:Hid (Bx w8 w3.heap.size _ _):=hJ ((hk8.block w3.heap.size hz7 (fun e=>by have:=(HOB.out _ e).2;omega)).trans HP7.out);have HB8:=hJ hb8;have hl8:(s'.wh.filter (fun x=> !dropL x)).length≤12:=Nat.le_trans (List.length_filter_le _ _) hwl12;obtain ⟨a8,m8,c8,rfl⟩:=hown8.shape;have HO8:=hJ hown8;clear hown8 hk8 hb8;have q4:=HP8.out.cell 4 _ rfl;have f4:=HP8.out.fz 4;obtain ⟨w9,hfold9⟩:∃ q,w8.setCell ⟨w3.heap.size,4,none⟩ (.slice a8 m8 c8)=q:=⟨_,rfl⟩
        have HP9:Hid (Bx w9 w3.heap.size 29 [.slice ap3 s'.params.length cp3,.string s'.result.elem,.string s'.result.shape.row,.slice at3 s'.result.shape.dims.length ct3,.slice a8 m8 c8]):=hJ (by rw [← hfold9];exact HP8.out.set 4 _);have HH9:Hid (∀ q,q≠w3.heap.size→w9.heap[q]? =w8.heap[q]?):=hJ (fun q hq=>by rw [← hfold9];exact kAB (fun e=>hq e.symm));have hz9:w9.heap.size=w8.heap.size:=by rw [← hfold9];simp
        have HO9:Hid (Own RLin 45 (fun k=>wr.heap.size≤k∧k≠w3.heap.size) w9 wr.heap.size (.slice a8 m8 c8) (s'.wh.filter (fun x=> !dropL x))):=hJ (HO8.out.frame (fun k hk h=>HH9.out k (by rcases h with h | h;exact h.2;exact fun e=>HN8.out (by rw [← e];exact h))) (by omega));have HB9:Hid (Below wr.heap.size w7 w9):=hJ (by rw [← hfold9];exact HB8.out.setCell (by show wr.heap.size≤w3.heap.size;omega) _);have HSrt:=hJ (sortFunc_Lin HO9.out (by omega) hl8 94 (kBA func94 rfl rfl) kCI totLin.pre (fun S' T' W x y cs ds h1 h2=>linear_Compare h1 h2));have r4:=HP9.out.cell 4 _ rfl;have HZ9:=hJ hz9;clear hz9
        go_wp2_with fail
        refine HSrt.out.mono ?_;rintro e w10 ⟨⟨rfl,m,hperm,hle,hown10,hk10⟩,hb10⟩;clear HSrt;have hz10:w8.heap.size≤w10.heap.size:=by have:=hb10.size;rw [HZ9.out] at this;exact this
        have HP10:Hid (Bx w10 w3.heap.size _ _):=hJ ((hk10.block w3.heap.size HP9.out.lt HN8.out).trans HP9.out);have HK10:Hid (∀ q,q<w7.heap.size→q≠w3.heap.size→(Value.slice aq3 s'.wh.length cq3).ownBlock≠some q→w10.heap[q]? =w7.heap[q]?):=hJ (fun q hq hn ho=>(hk10.block q (by rw [HZ9.out];omega) (fun e=>(HV8.out q e).elim ho (fun e=>by omega))).trans ((HH9.out q hn).trans (HK8.out q hq hn ho)));have HB10:Hid (Below wr.heap.size w7 w10):=hJ (HB9.out.trans hb10);have hl10:m.length≤12:=by rw [hperm.length_eq];exact hl8
        have HTd:Hid (kept (newB kCY m) m m.length=tidy s'.wh):=hJ (by
         rw [← compG_kept kGK];exact comp_tidy totLin kGK dropL s'.wh m hle (fun z=>hperm.mem_iff))
        have HCpt:=hJ (compact_Lin hown10 (by omega) (by omega) 80 (kBA func80 rfl rfl) kCY (fun S' T' W x y cs ds h1 h2=>types_same h1 h2));rw [HTd.out] at HCpt;have t4:=HP10.out.cell 4 _ rfl;clear hperm hle hown10 hk10 hb10 hl8 hl10 HTd
        go_wp2_with fail
        refine HCpt.out.mono ?_;rintro e w11 ⟨⟨v2,rfl,hown11,hk11⟩,hb11⟩;clear HCpt;have hz11:w10.heap.size≤w11.heap.size:=hb11.size;obtain ⟨a11,c11,rfl,hs11⟩:=hown11.sl;have HP11:Hid (Bx w11 w3.heap.size _ _):=hJ ((hk11.block w3.heap.size HP10.out.lt HN8.out).trans HP10.out);have HK11:Hid (∀ q,q<w7.heap.size→q≠w3.heap.size→(Value.slice aq3 s'.wh.length cq3).ownBlock≠some q→w11.heap[q]? =w7.heap[q]?):=hJ (fun q hq hn ho=>(hk11.block q (by omega) (fun e=>(HV8.out q e).elim ho (fun e=>by omega))).trans (HK10.out q hq hn ho));have HN11:Hid ((Value.slice a11 (tidy s'.wh).length c11).ownBlock≠some w3.heap.size):=hJ (fun e=>(hk11.own _ e).elim HN8.out (fun e=>by omega));have HO11:=hJ hown11;have HB11:Hid (Below wr.heap.size w7 w11):=hJ (HB10.out.trans hb11);clear hown11 hk11 hb11 hs11;have u4:=HP11.out.cell 4 _ rfl;have g4:=HP11.out.fz 4;have HP12:=hJ (HP11.out.set 4 (.slice a11 (tidy s'.wh).length c11));have p0:=HP12.out.cell 0 _ rfl;have p1:=HP12.out.cell 1 _ rfl;have p2:=HP12.out.cell 2 _ rfl;have p3:=HP12.out.cell 3 _ rfl;have p4':=HP12.out.cell 4 _ rfl;have HRw:Hid (Bx (w11.setCell ⟨w3.heap.size,4,none⟩ (.slice a11 (tidy s'.wh).length c11)) (w.heap.size+1) 29 _):=hJ ((HR7.out.below HB11.out (by omega)).other (by show w3.heap.size≠w.heap.size+1;omega));have v0:=HRw.out.cell 0 _ rfl;have v1:=HRw.out.cell 1 _ rfl;have v2:=HRw.out.cell 2 _ rfl;have v3:=HRw.out.cell 3 _ rfl;have v4:=HRw.out.cell 4 _ rfl;have u0:=HRw.out.fz 0;have u1:=HRw.out.fz 1;have u2:=HRw.out.fz 2;have u3:=HRw.out.fz 3;have u4':=HRw.out.fz 4;have hlr:=HRw.out.lt;have HX60:=hJ (((((HRw.out.set 0 (.slice ap3 s'.params.length cp3)).set 1 (.string s'.result.elem)).set 2 (.string s'.result.shape.row)).set 3 (.slice at3 s'.result.shape.dims.length ct3)).set 4 (.slice a11 (tidy s'.wh).length c11));have s0:=HX60.out.cell 0 _ rfl;have s1:=HX60.out.cell 1 _ rfl;have s2:=HX60.out.cell 2 _ rfl;have s3:=HX60.out.cell 3 _ rfl;have s4:=HX60.out.cell 4 _ rfl
        go_wp2_with fail
        refine bodyPost_ret (v:=.tuple #[.agg #[.slice ap3 s'.params.length cp3,.string s'.result.elem,.string s'.result.shape.row,.slice at3 s'.result.shape.dims.length ct3,.slice a11 (tidy s'.wh).length c11],.int .i64 0]) (by simp [results,results38,go_sem,s0,s1,s2,s3,s4,hlr]) rfl ?_;have hF:∀ q,q≠w3.heap.size→q≠w.heap.size+1→((((((w11.setCell ⟨w3.heap.size,4,none⟩ (.slice a11 (tidy s'.wh).length c11)).setCell ⟨w.heap.size+1,0,none⟩ (.slice ap3 s'.params.length cp3)).setCell ⟨w.heap.size+1,1,none⟩ (.string s'.result.elem)).setCell ⟨w.heap.size+1,2,none⟩ (.string s'.result.shape.row)).setCell ⟨w.heap.size+1,3,none⟩ (.slice at3 s'.result.shape.dims.length ct3)).setCell ⟨w.heap.size+1,4,none⟩ (.slice a11 (tidy s'.wh).length c11)).heap[q]? =w11.heap[q]? :=fun q h1 h2=>(kAB (fun e=>h2 e.symm)).trans ((kAB (fun e=>h2 e.symm)).trans ((kAB (fun e=>h2 e.symm)).trans ((kAB (fun e=>h2 e.symm)).trans ((kAB (fun e=>h2 e.symm)).trans (kAB (fun e=>h1 e.symm))))))
        have hFp:∀ q,(wr.heap.size≤q∧q<base)→q<w3.heap.size→((((((w11.setCell ⟨w3.heap.size,4,none⟩ (.slice a11 (tidy s'.wh).length c11)).setCell ⟨w.heap.size+1,0,none⟩ (.slice ap3 s'.params.length cp3)).setCell ⟨w.heap.size+1,1,none⟩ (.string s'.result.elem)).setCell ⟨w.heap.size+1,2,none⟩ (.string s'.result.shape.row)).setCell ⟨w.heap.size+1,3,none⟩ (.slice at3 s'.result.shape.dims.length ct3)).setCell ⟨w.heap.size+1,4,none⟩ (.slice a11 (tidy s'.wh).length c11)).heap[q]? =w3.heap[q]? :=fun q h1 h2=>(hF q (by omega) (by omega)).trans ((HK11.out q (by omega) (by omega) (fun e=>by have:=(HOB.out q e).1;omega)).trans (HB7.out.block q h2))
        refine ⟨⟨[.slice ap3 s'.params.length cp3,.string s'.result.elem,.string s'.result.shape.row,.slice at3 s'.result.shape.dims.length ct3,.slice a11 (tidy s'.wh).length c11],by rw [HG0.out],?_⟩,?_⟩
        · rw [HSp.out]
          obtain ⟨a12,c12,e12,hs12⟩:=HO11.out.sl;rw [Value.slice.injEq] at e12;obtain ⟨rfl,-,rfl⟩:=e12;refine ⟨_,_,_,rfl,⟨ap3,cp3,rfl,(HPs.out.frame hFp).mono (fun k hk _=>by omega)⟩,⟨at3,ct3,rfl,(HTs.out.frame hFp).mono (fun k hk _=>by omega)⟩,⟨a11,c11,rfl,?_⟩⟩;obtain ⟨a13,c13,e13,hs13,_⟩:=HO11.out.slAt;rw [Value.slice.injEq] at e13;obtain ⟨rfl,-,rfl⟩:=e13;have hA:∀ k,At a11 k→wr.heap.size≤k∧k≠w3.heap.size:=fun k hk=>⟨HO11.out.base_le k (at_own hk),fun e=>HN11.out (by rw [← e];exact at_own hk)⟩
          exact (hs13.frame (fun k hk _=>hF k (by rcases hk with hk | hk;exact hk.2;exact (hA k hk).2) (by rcases hk with hk | hk;exact (by have:=hk.1;omega);exact (by have:=(hA k hk).1;omega)))).mono (fun k hk _=>by rcases hk with hk | hk;exact (by have:=hk.1;omega);exact (by have:=(hA k hk).1;omega))
        · have hB':=HW7.out.trans (HB11.out.mono (B':=w.heap.size) (by omega))
          exact (((((hB'.setCell (by show w.heap.size≤w3.heap.size;omega) _).setCell (by show w.heap.size≤w.heap.size+1;omega) _).setCell (by show w.heap.size≤w.heap.size+1;omega) _).setCell (by show w.heap.size≤w.heap.size+1;omega) _).setCell (by show w.heap.size≤w.heap.size+1;omega) _).setCell (by show w.heap.size≤w.heap.size+1;omega) _
theorem sch_open {S:Blk} {w:World} {cs:List Value} {x:Sch} (h:RSch.rd S w cs x):∃ p c t d q e,cs=[.slice p x.params.length c,.string x.result.elem,.string x.result.shape.row,.slice t x.result.shape.dims.length d,.slice q x.wh.length e]:=by
 obtain ⟨_,_,_,rfl,⟨p1,c1,rfl,hp1⟩,⟨t1,d1,rfl,ht1⟩,⟨q1,e1,rfl,hq1⟩⟩:=h;exact ⟨p1,c1,t1,d1,q1,e1,rfl⟩
theorem parse_ex {s:Str} {x:Sch} (hs:s.size≤300) (hr:kC8 s=some x) (w:World) (E:EnvM w) :
 Calls Tryz.prog 24 #[.string s] w fun e w'=>(∃ p c t d q e2,e= .returned (.tuple #[.agg #[.slice p x.params.length c,.string x.result.elem,.string x.result.shape.row,.slice t x.result.shape.dims.length d,.slice q x.wh.length e2],.int .i64 0])∧RSch.rd All w' [.slice p x.params.length c,.string x.result.elem,.string x.result.shape.row,.slice t x.result.shape.dims.length d,.slice q x.wh.length e2] x)∧Below w.heap.size w w':=by
 refine (kDZ s (small_SOk hs) w E).mono ?_;rintro e w' ⟨⟨ds,rfl,h⟩,hb⟩;rw [hr] at h ⊢;obtain ⟨p,c,t,d,q,e2,rfl⟩:=sch_open h;exact ⟨⟨p,c,t,d,q,e2,rfl,RSch.mono h (fun _ _ _=>trivial)⟩,hb⟩
theorem canon_ex {S:Blk} {cs:List Value} (w:World) (h:RSch.rd S w cs as1) (E:Env w) :
 Calls Tryz.prog 38 #[.agg cs.toArray] w fun e w'=>(∃ p c t d q e2,e= .returned (.tuple #[.agg #[.slice p as2.params.length c,.string as2.result.elem,.string as2.result.shape.row,.slice t as2.result.shape.dims.length d,.slice q as2.wh.length e2],.int .i64 0])∧RSch.rd All w' [.slice p as2.params.length c,.string as2.result.elem,.string as2.result.shape.row,.slice t as2.result.shape.dims.length d,.slice q as2.wh.length e2] as2)∧Below w.heap.size w w':=by
 refine (types_Canonical h (kJP av1) (fun _=>by decide) E).mono ?_;rintro e w' ⟨⟨ds,rfl,h⟩,hb⟩;rw [ac1.1] at h;rw [ac1.2];obtain ⟨p,c,t,d,q,e2,rfl⟩:=sch_open h;exact ⟨⟨p,c,t,d,q,e2,rfl,RSch.mono h (fun _ _ _=>trivial)⟩,hb⟩
theorem kDL (w:World) (E:EnvM w):Calls Tryz.prog 7 #[] w fun e w'=>e= .returned (.bool true)∧Below w.heap.size w w':=by
 have HE:=hJ (fun (W:World) (hW:Below w.heap.size w W)=>E.below hW);have HP1:=hJ (fun (W:World) (hW:Below w.heap.size w W)=>parse_ex (s:=ax1) (by decide) ar1 W (E.below hW));have HP3:=hJ (fun (W:World) (hW:Below w.heap.size w W)=>parse_ex (s:=ax3) (by decide) ar3 W (E.below hW));have HP4:=hJ (fun (W:World) (hW:Below w.heap.size w W)=>parse_ex (s:=ax4) (by decide) ar4 W (E.below hW));clear E;go_enter func7,ntmps7
 go_wp2_with fail
 refine (HP1.out w (Below.refl _ _)).mono ?_;rintro e w1 ⟨⟨p1,c1,t1,d1,q1,e1,rfl,h1⟩,hb1⟩;have HW1:=hJ hb1;clear hb1;have HR1:=hJ h1;clear h1;obtain ⟨HB1,hx1,hz1⟩:=box1 w1 29 [.slice p1 as1.params.length c1,.string as1.result.elem,.string as1.result.shape.row,.slice t1 as1.result.shape.dims.length d1,.slice q1 as1.wh.length e1];have HX1:Hid (Bx _ _ _ _):=hJ hx1;have HV1:=hJ (HW1.out.trans (HB1.out.mono HW1.out.size));have HS1:=hJ (RSch.below HR1.out HB1.out);clear hx1 HR1 HW1;have x0:=HX1.out.cell 0 _ rfl;have x1:=HX1.out.cell 1 _ rfl;have x2:=HX1.out.cell 2 _ rfl;have x3:=HX1.out.cell 3 _ rfl;have x4:=HX1.out.cell 4 _ rfl;have HC:=hJ (canon_ex _ HS1.out (HE.out _ HV1.out).env)
 go_wp2_with fail
 refine HC.out.mono ?_;rintro e w2 ⟨⟨p2,c2,t2,d2,q2,e2,rfl,h2⟩,hb2⟩;have HW2:=hJ (HV1.out.trans (hb2.mono HV1.out.size));have HX12:=hJ (HX1.out.below hb2 HX1.out.lt);have HS12:=hJ (RSch.below HS1.out hb2);have hl1:=hb2.size;rw [hz1] at hl1;clear hb2 x0 x1 x2 x3 x4 HX1 HS1 HC hz1 HB1 HV1;have HR2:=hJ h2;clear h2;obtain ⟨HB2,hx2,hz2⟩:=box1 w2 29 [.slice p2 as2.params.length c2,.string as2.result.elem,.string as2.result.shape.row,.slice t2 as2.result.shape.dims.length d2,.slice q2 as2.wh.length e2];have HX2:Hid (Bx _ _ _ _):=hJ hx2;have HV2:=hJ (HW2.out.trans (HB2.out.mono HW2.out.size));have HS2:=hJ (RSch.below HR2.out HB2.out);clear hx2 HR2 HW2;have x0:=HX2.out.cell 0 _ rfl;have x1:=HX2.out.cell 1 _ rfl;have x2:=HX2.out.cell 2 _ rfl;have x3:=HX2.out.cell 3 _ rfl;have x4:=HX2.out.cell 4 _ rfl;have HP2:=hJ (kDY HS2.out (kJP av2) (HE.out _ HV2.out).env);rw [ap2,av2,show ax2=((⟨#[40,91,114,49,46,46,93,105,110,116,44,32,91,110,49,93,65,49,41,32,45,62,32,91,110,49,93,65,49,32,119,104,101,114,101,32,110,49,45,49,44,32,110,49,43,110,50]⟩:Str)) from rfl] at HP2
 go_wp2_with fail
 refine HP2.out.mono ?_;rintro e w3 ⟨rfl,hb3⟩;have hl2:=hb3.size;rw [hz2] at hl2;have HX13:=hJ (HX12.out.below (HB2.out.trans (hb3.mono HB2.out.size)) (by omega));have HS13:=hJ (RSch.below (RSch.below HS12.out HB2.out) hb3);have HW3:=hJ (HV2.out.trans (hb3.mono HV2.out.size));clear hb3 x0 x1 x2 x3 x4 HX2 HS2 HP2 hz2 HB2 HV2 HX12 HS12
 go_wp2_with fail
 refine (HP3.out w3 HW3.out).mono ?_;rintro e w4 ⟨⟨p4,c4,t4,d4,q4,e4,rfl,h4⟩,hb4⟩;have HW4:=hJ (HW3.out.trans (hb4.mono HW3.out.size));have HX14:=hJ (HX13.out.below hb4 (by omega));have HS14:=hJ (RSch.below HS13.out hb4);have hl4:=hb4.size;clear hb4 HX13 HS13 HW3;have HR4:=hJ h4;clear h4;obtain ⟨HB4,hx4,hz4⟩:=box1 w4 29 [.slice p4 as3.params.length c4,.string as3.result.elem,.string as3.result.shape.row,.slice t4 as3.result.shape.dims.length d4,.slice q4 as3.wh.length e4];have HX4:Hid (Bx _ _ _ _):=hJ hx4;have HV4:=hJ (HW4.out.trans (HB4.out.mono HW4.out.size));have HS4:=hJ (RSch.below HR4.out HB4.out);clear hx4 HR4 HW4
 go_wp2_with fail
 refine (HP4.out _ HV4.out).mono ?_;rintro e w5 ⟨⟨p5,c5,t5,d5,q5,e5,rfl,h5⟩,hb5⟩;have HW5:=hJ (HV4.out.trans (hb5.mono HV4.out.size));have hl5:=hb5.size;rw [hz4] at hl5;have HX15:=hJ (HX14.out.below (HB4.out.trans (hb5.mono HB4.out.size)) (by omega));have HS15:=hJ (RSch.below (RSch.below HS14.out HB4.out) hb5);have HX45:=hJ (HX4.out.below hb5 HX4.out.lt);have HS45:=hJ (RSch.below HS4.out hb5);clear hb5 HX14 HS14 HX4 HS4 HV4 HB4 hz4;have HR5:=hJ h5;clear h5;obtain ⟨HB5,hx5,hz5⟩:=box1 w5 29 [.slice p5 as4.params.length c5,.string as4.result.elem,.string as4.result.shape.row,.slice t5 as4.result.shape.dims.length d5,.slice q5 as4.wh.length e5];have HX5:Hid (Bx _ _ _ _):=hJ hx5;have HV5:=hJ (HW5.out.trans (HB5.out.mono HW5.out.size));have HS5:=hJ (RSch.below HR5.out HB5.out);clear hx5 HR5 HW5;have HX16:=hJ (HX15.out.below HB5.out (by omega));have HS16:=hJ (RSch.below HS15.out HB5.out);have HX46:=hJ (HX45.out.below HB5.out (by omega));have HS46:=hJ (RSch.below HS45.out HB5.out);clear HX15 HS15 HX45 HS45;have y0:=HX46.out.cell 0 _ rfl;have y1:=HX46.out.cell 1 _ rfl;have y2:=HX46.out.cell 2 _ rfl;have y3:=HX46.out.cell 3 _ rfl;have y4:=HX46.out.cell 4 _ rfl;have z0:=HX5.out.cell 0 _ rfl;have z1:=HX5.out.cell 1 _ rfl;have z2:=HX5.out.cell 2 _ rfl;have z3:=HX5.out.cell 3 _ rfl;have z4:=HX5.out.cell 4 _ rfl;have HI:=hJ (inst_ex HS46.out HS5.out (HE.out _ HV5.out).env)
 go_wp2_with fail
 refine HI.out.mono ?_;rintro e w6 ⟨⟨ia,ic,rfl,hi⟩,hb6⟩;have HW6:=hJ (HV5.out.trans (hb6.mono HV5.out.size));have hl6:=hb6.size;rw [hz5] at hl6;have HX17:=hJ (HX16.out.below hb6 (by rw [hz5];omega));have HS17:=hJ (RSch.below HS16.out hb6);have HI6:=hJ hi;clear hi hb6 y0 y1 y2 y3 y4 z0 z1 z2 z3 z4 HI HX16 HS16 HX46 HS46 HX5 HS5 HV5 HB5;obtain ⟨ib,io,rfl,hib,_⟩:=HI6.out.form 0 (by decide);obtain ⟨_,_,_,_,_,_,i2,_⟩:=HI6.out.bnd 0 (by decide);obtain ⟨_,_,_,_,_,_,_,_,_,_,j6⟩:=HI6.out.bnd 1 (by decide);have k2:w6.cell? ⟨ib,io+2,none⟩=some (.int .i64 3):=i2;have k6:w6.cell? ⟨ib,io+7+6,none⟩=some (.string ⟨#[105,110,116]⟩):=j6;have k7:w6.cell? ⟨ib,io+13,none⟩=some (.string ⟨#[105,110,116]⟩):=j6;clear i2 j6;have x0:=HX17.out.cell 0 _ rfl;have x1:=HX17.out.cell 1 _ rfl;have x2:=HX17.out.cell 2 _ rfl;have x3:=HX17.out.cell 3 _ rfl;have x4:=HX17.out.cell 4 _ rfl;have HVs:=hJ (kA6 HS17.out (kJP av1) (HE.out _ HW6.out).env);rw [av1] at HVs
 go_wp2_with fail
 refine HVs.out.mono ?_;rintro e w7 ⟨rfl,hb7⟩;have HW7:=hJ (HW6.out.trans (hb7.mono HW6.out.size));clear hb7
 go_wp2_with fail
 go_ret;exact ⟨rfl,HW7.out⟩
theorem ref11_Parse (s:Str) (hs:s.size≤10000) (w:World) :
 Calls Tryz.prog 87 #[.string s] w fun e w'=>(∃ ds,e= .returned (.tuple #[.agg ds.toArray,.int .i64 (optE (readR s))])∧RShp.rd (fun k=>w.heap.size≤k) w' ds (optH (readR s)))∧Below w.heap.size w w':=by
 have HR:Hid (readR s=if okS s then (match goPR s.size (s.extract 1 (s.size - 1)) 0 ⟨⟨#[]⟩,[]⟩ with | none=>none | some x=>if kAG x && (kA3 x).toList==s.toList then some x else none) else none):=hJ rfl;generalize readR s=res at *;have HRb:=hJ (Bx.fresh w 24 [.string ⟨#[]⟩,.slice none 0 0]);have HB0:=hJ ((Below.refl _ w).alloc (Nat.le_refl _) (.cells #[.string ⟨#[]⟩,.slice none 0 0] 24));go_enter func87,ntmps87;by_cases hlt:s.size<2
 · have HF:Hid (res=none):=hJ (by rw [HR.out,if_neg (by unfold okS;rw [decide_eq_true hlt];exact Bool.false_ne_true)])
   have q1:decide ((s.size:Int)<2)=true:=decide_eq_true (by omega);have HRs:=HRb;have HBl:=HB0;clear HR HRb HB0;have z0:=HRs.out.cell 0 _ rfl;have z1:=HRs.out.cell 1 _ rfl;have f0:=HRs.out.fz 0;have f1:=HRs.out.fz 1;have hl0:=HRs.out.lt;have HZz:=hJ ((HRs.out.set 0 (.string ⟨#[]⟩)).set 1 (.slice none 0 0));have s0:=HZz.out.cell 0 _ rfl;have s1:=HZz.out.cell 1 _ rfl
   go_wp2_with fail
   refine bodyPost_ret (v:=.tuple #[.agg #[.string ⟨#[]⟩,.slice none 0 0],.int .i64 6]) (by simp [results,results87,go_sem,s0,s1,hl0]) rfl ?_;have HFr:Hid (∀ W,RShp.rd (fun k=>w.heap.size≤k) W [.string ⟨#[]⟩,.slice none 0 0] (optH res)):=hJ (fun W=>by rw [HF.out];exact ⟨_,rfl,none,0,rfl,Sl.empty RLin _ _⟩)
   first
    | exact ⟨⟨_,by rw [HF.out];rfl,HFr.out _⟩,HBl.out⟩
    | exact ⟨⟨_,by rw [HF.out];rfl,HFr.out _⟩,(HBl.out.setCell (Nat.le_refl _) _).setCell (Nat.le_refl _) _⟩
 · have q1:decide ((s.size:Int)<2)=false:=decide_eq_false (by omega)
   have g0:=kBP s 0 (by omega);have g1:=kBP s (s.size - 1) (by omega);have HOk:Hid (okS s=(bt s 0==91 && bt s (s.size - 1)==93)):=hJ (by unfold okS;rw [decide_eq_false hlt];rfl);generalize bt s 0=c0 at *;generalize bt s (s.size - 1)=c1 at *;have hto:((s.size:Int) - 1).toNat=s.size - 1:=by omega
   cases hc0:(c0==91) with
   | false =>
     have n0:(c0 != 91)=true:=by unfold bne;rw [hc0];rfl
     have HF:Hid (res=none):=hJ (by rw [HR.out,HOk.out,hc0];rfl);have HRs:=HRb;have HBl:=HB0;clear HR HRb HB0;have z0:=HRs.out.cell 0 _ rfl;have z1:=HRs.out.cell 1 _ rfl;have f0:=HRs.out.fz 0;have f1:=HRs.out.fz 1;have hl0:=HRs.out.lt;have HZz:=hJ ((HRs.out.set 0 (.string ⟨#[]⟩)).set 1 (.slice none 0 0));have s0:=HZz.out.cell 0 _ rfl;have s1:=HZz.out.cell 1 _ rfl
     go_wp2_with fail
     refine bodyPost_ret (v:=.tuple #[.agg #[.string ⟨#[]⟩,.slice none 0 0],.int .i64 6]) (by simp [results,results87,go_sem,s0,s1,hl0]) rfl ?_;have HFr:Hid (∀ W,RShp.rd (fun k=>w.heap.size≤k) W [.string ⟨#[]⟩,.slice none 0 0] (optH res)):=hJ (fun W=>by rw [HF.out];exact ⟨_,rfl,none,0,rfl,Sl.empty RLin _ _⟩)
     first
      | exact ⟨⟨_,by rw [HF.out];rfl,HFr.out _⟩,HBl.out⟩
      | exact ⟨⟨_,by rw [HF.out];rfl,HFr.out _⟩,(HBl.out.setCell (Nat.le_refl _) _).setCell (Nat.le_refl _) _⟩
   | true =>
     have n0:(c0 != 91)=false:=by unfold bne;rw [hc0];rfl
     cases hc1:(c1==93) with
     | false =>
       have n1:(c1 != 93)=true:=by unfold bne;rw [hc1];rfl
       have HF:Hid (res=none):=hJ (by rw [HR.out,HOk.out,hc0,hc1];rfl);have HRs:=HRb;have HBl:=HB0;clear HR HRb HB0;have z0:=HRs.out.cell 0 _ rfl;have z1:=HRs.out.cell 1 _ rfl;have f0:=HRs.out.fz 0;have f1:=HRs.out.fz 1;have hl0:=HRs.out.lt;have HZz:=hJ ((HRs.out.set 0 (.string ⟨#[]⟩)).set 1 (.slice none 0 0));have s0:=HZz.out.cell 0 _ rfl;have s1:=HZz.out.cell 1 _ rfl
       go_wp2_with fail
       refine bodyPost_ret (v:=.tuple #[.agg #[.string ⟨#[]⟩,.slice none 0 0],.int .i64 6]) (by simp [results,results87,go_sem,s0,s1,hl0]) rfl ?_;have HFr:Hid (∀ W,RShp.rd (fun k=>w.heap.size≤k) W [.string ⟨#[]⟩,.slice none 0 0] (optH res)):=hJ (fun W=>by rw [HF.out];exact ⟨_,rfl,none,0,rfl,Sl.empty RLin _ _⟩)
       first
        | exact ⟨⟨_,by rw [HF.out];rfl,HFr.out _⟩,HBl.out⟩
        | exact ⟨⟨_,by rw [HF.out];rfl,HFr.out _⟩,(HBl.out.setCell (Nat.le_refl _) _).setCell (Nat.le_refl _) _⟩
     | true =>
       have HR2:Hid (res=match goPR s.size (s.extract 1 (s.size - 1)) 0 ⟨⟨#[]⟩,[]⟩ with | none=>none | some x=>if kAG x && (kA3 x).toList==s.toList then some x else none):=hJ (by rw [HR.out,HOk.out,hc0,hc1];rfl);have hri:(s.extract 1 (s.size - 1)).size=s.size - 1 - 1:=kBN s (by omega);have n1:(c1 != 93)=false:=by unfold bne;rw [hc1];rfl
       clear HR HOk
       go_wp2_with fail
       have HRs:=hJ (HRb.out.alloc (.cells #[.string ⟨#[]⟩,.slice none 0 0] 24));have HOs:=hJ (Bx.fresh (w.alloc (.cells #[.string ⟨#[]⟩,.slice none 0 0] 24)) 24 [.string ⟨#[]⟩,.slice none 0 0]);have e1:(w.alloc (.cells #[.string ⟨#[]⟩,.slice none 0 0] 24)).heap.size=w.heap.size+1:=by simp
       have HBl:=hJ (HB0.out.alloc (by rw [e1];omega) (.cells #[.string ⟨#[]⟩,.slice none 0 0] 24));rw [e1] at HOs;clear HRb HB0 e1 g0 g1 q1;generalize (w.alloc (.cells #[.string ⟨#[]⟩,.slice none 0 0] 24)).alloc (.cells #[.string ⟨#[]⟩,.slice none 0 0] 24)=W at *;obtain ⟨tot,hto⟩:∃ tot,tot=goPR s.size (s.extract 1 (s.size - 1)) 0 ⟨⟨#[]⟩,[]⟩:=⟨_,rfl⟩
       rw [← hto] at HR2;have HTo:=hJ hto.symm;clear hto;generalize s.extract 1 (s.size - 1)=r0 at *
       go_loopg [5,6] (s.size) (fun g v5 v6 wr=>∃ (r:Str) (n:Nat) (acc:Shp),v5= .string r∧v6= .int .i64 n∧n+r.size≤s.size∧r.size<g∧acc.dims.length≤6∧acc.row.size≤10000∧Hid (∀ d ∈ acc.dims,kAC d=true)∧Hid (goPR g r n acc=tot)∧Hid (∃ v,Bx wr (w.heap.size+1) 24 [.string acc.row,v]∧Own RLin 45 (fun q=>w.heap.size+1<q) wr (w.heap.size+2) v acc.dims)∧Hid (Bx wr w.heap.size 24 [.string ⟨#[]⟩,.slice none 0 0])∧Hid (Below w.heap.size w wr))
       case atStart=>exact ⟨r0,0,⟨⟨#[]⟩,[]⟩,rfl,rfl,by omega,by omega,Nat.zero_le _,by decide,hJ (fun d hd=>by cases hd),HTo,hJ ⟨_,HOs.out,Own.nil _ _ _ _ _⟩,HRs,HBl⟩
       case round =>
        clear HRs HOs HBl HTo hri;obtain ⟨r,n,acc,rfl,rfl,hnr,hrg,hdl,hrz,HV,HRun,HO,HRs,HBl⟩:=hrel;obtain ⟨g,rfl⟩:∃ g,gk=g+1:=⟨gk - 1,by omega⟩
        obtain ⟨v,hbx,hown⟩:=HO.out;have HBX:=hJ hbx;have HOwn:=hJ hown;obtain ⟨va,vc,rfl,hsl⟩:=hown.sl;have HSl:=hJ hsl;clear HO hbx hown hsl;have hws:w.heap.size+1<wr.heap.size:=HBX.out.lt;cases hre:r.toList.isEmpty with
        | true =>
          have hr0:r.size=0:=by
           rw [ByteArray.toList_eq] at hre;have e:=List.isEmpty_iff.mp hre;have e2:r.data.toList.length=0:=by rw [e];rfl
           rw [Array.length_toList] at e2;exact e2
          have HTot:Hid (tot=some acc):=hJ (by rw [← HRun.out];show (if r.size=0 then _ else _)=_;rw [if_pos hr0]);have HR3:Hid (res=if kAG acc && (kA3 acc).toList==s.toList then some acc else none):=hJ (by rw [HR2.out,HTot.out]);have hz:szH acc:=⟨hrz,fun d hd=>kHG (HV.out d hd)⟩
          have HRd:Hid (RShp.rd (fun q=>w.heap.size+1<q) wr [.string acc.row,.slice va acc.dims.length vc] acc):=hJ ⟨_,rfl,va,vc,rfl,HSl.out.mono (fun q hq _=>by rcases hq with q | q <;> omega)⟩;have HCp:=hJ (ref11_Print HRd.out hz);have v0:=HBX.out.cell 0 _ rfl;have v1:=HBX.out.cell 1 _ rfl;clear HRun HR2 HTot;generalize acc.dims.length=vm at *;cases hv:kAG acc with
          | false =>
            have HF:Hid (res=none):=hJ (by rw [HR3.out,hv];rfl);rw [hv] at HCp;have HVe:Hid (kCF false=1):=hJ rfl;rw [HVe.out] at HCp;clear HR3 HRd
            go_wp2_with fail
            refine (HCp.out).mono ?_;rintro e w1 ⟨rfl,hb⟩;replace HRs:=hJ (HRs.out.below hb HRs.out.lt);replace HBl:=hJ (HBl.out.trans (hb.mono HBl.out.size));have z0:=HRs.out.cell 0 _ rfl;have z1:=HRs.out.cell 1 _ rfl;have f0:=HRs.out.fz 0;have f1:=HRs.out.fz 1;have hl0:=HRs.out.lt;have HZz:=hJ ((HRs.out.set 0 (.string ⟨#[]⟩)).set 1 (.slice none 0 0));have s0:=HZz.out.cell 0 _ rfl;have s1:=HZz.out.cell 1 _ rfl
            go_wp2_with fail
            refine bodyPost_ret (v:=.tuple #[.agg #[.string ⟨#[]⟩,.slice none 0 0],.int .i64 6]) (by simp [results,results87,go_sem,s0,s1,hl0]) rfl ?_;have HFr:Hid (∀ W,RShp.rd (fun k=>w.heap.size≤k) W [.string ⟨#[]⟩,.slice none 0 0] (optH res)):=hJ (fun W=>by rw [HF.out];exact ⟨_,rfl,none,0,rfl,Sl.empty RLin _ _⟩)
            first
             | exact ⟨⟨_,by rw [HF.out];rfl,HFr.out _⟩,HBl.out⟩
             | exact ⟨⟨_,by rw [HF.out];rfl,HFr.out _⟩,(HBl.out.setCell (Nat.le_refl _) _).setCell (Nat.le_refl _) _⟩
          | true =>
            have HPe:Hid (kCC acc=kA3 acc):=hJ (by unfold kCC;rw [hv];rfl);rw [hv] at HCp HR3;have HVe:Hid (kCF true=0):=hJ rfl;rw [HVe.out,HPe.out] at HCp;generalize kA3 acc=o at *
            go_wp2_with fail
            refine (HCp.out).mono ?_;rintro e w2 ⟨rfl,hb⟩;have HB2:=hJ hb;replace HRs:=hJ (HRs.out.below hb HRs.out.lt);replace HBl:=hJ (HBl.out.trans (hb.mono HBl.out.size));replace v0:=(hb.cell (by show w.heap.size+1<_;omega)).trans v0;replace v1:=(hb.cell (by show w.heap.size+1<_;omega)).trans v1;cases ho:(o.toList==s.toList) with
            | false =>
              have HF:Hid (res=none):=hJ (by rw [HR3.out,ho];rfl);have z0:=HRs.out.cell 0 _ rfl;have z1:=HRs.out.cell 1 _ rfl;have f0:=HRs.out.fz 0;have f1:=HRs.out.fz 1;have hl0:=HRs.out.lt;have HZz:=hJ ((HRs.out.set 0 (.string ⟨#[]⟩)).set 1 (.slice none 0 0));have s0:=HZz.out.cell 0 _ rfl;have s1:=HZz.out.cell 1 _ rfl
              go_wp2_with fail
              refine bodyPost_ret (v:=.tuple #[.agg #[.string ⟨#[]⟩,.slice none 0 0],.int .i64 6]) (by simp [results,results87,go_sem,s0,s1,hl0]) rfl ?_;have HFr:Hid (∀ W,RShp.rd (fun k=>w.heap.size≤k) W [.string ⟨#[]⟩,.slice none 0 0] (optH res)):=hJ (fun W=>by rw [HF.out];exact ⟨_,rfl,none,0,rfl,Sl.empty RLin _ _⟩)
              first
               | exact ⟨⟨_,by rw [HF.out];rfl,HFr.out _⟩,HBl.out⟩
               | exact ⟨⟨_,by rw [HF.out];rfl,HFr.out _⟩,(HBl.out.setCell (Nat.le_refl _) _).setCell (Nat.le_refl _) _⟩
            | true =>
              have HF:Hid (res=some acc):=hJ (by rw [HR3.out,ho];rfl);have z0:=HRs.out.cell 0 _ rfl;have z1:=HRs.out.cell 1 _ rfl;have f0:=HRs.out.fz 0;have f1:=HRs.out.fz 1;have hl0:=HRs.out.lt
              go_wp2_with fail
              have HZz:=hJ ((HRs.out.set 0 (.string acc.row)).set 1 (.slice va vm vc));have s0:=HZz.out.cell 0 _ rfl;have s1:=HZz.out.cell 1 _ rfl;refine bodyPost_ret (v:=.tuple #[.agg #[.string acc.row,.slice va vm vc],.int .i64 0]) (by simp [results,results87,go_sem,s0,s1,hl0]) rfl ?_;exact ⟨⟨_,by rw [HF.out];rfl,by rw [HF.out];exact RShp.mono (RShp.frame (RShp.frame (RShp.below HRd.out HB2.out) (fun q hq _=>kAB (a:=⟨w.heap.size,0,none⟩) (by show w.heap.size≠q;omega))) (fun q hq _=>kAB (a:=⟨w.heap.size,1,none⟩) (by show w.heap.size≠q;omega))) (fun q hq _=>by show w.heap.size≤q;omega)⟩,(HBl.out.setCell (Nat.le_refl _) _).setCell (Nat.le_refl _) _⟩
        | false =>
          have hr0:¬ r.size=0:=fun e=>by
           rw [ByteArray.toList_eq,show r.data.toList=[] from List.eq_nil_of_length_eq_zero (by rw [Array.length_toList];exact e)] at hre;cases hre
          replace HRun:Hid ((if badT (r.extract (comE r) r.size) then none else match stepR n (r.extract 0 (comE r)) acc with | none=>none | some acc'=>goPR g (restT (r.extract (comE r) r.size)) (n+1) acc')=tot):=hJ (by rw [← HRun.out];show _=(if r.size=0 then _ else _);rw [if_neg hr0];rfl)
          go_upto_block 2 with fail
          go_cut [7] (fun v7 W2=>∃ j:Nat,v7= .int .i64 j∧j≤r.size∧Hid (j=comE r)∧wr=W2)
          case first =>
           go_wp2_with fail
           go_loopw [7] (fun i W2=>∃ j:Nat,j≤r.size∧i= .int .i64 j∧Hid (kB6 (fun i=> !(bt r i==44)) r.size j=comE r)∧wr=W2) (fun i _=>r.size - (intOf i).toNat)
           case atStart=>exact ⟨0,Nat.zero_le _,rfl,hJ rfl,rfl⟩
           case round =>
            obtain ⟨j,hj,rfl,HE,rfl⟩:=hrel;by_cases hlt:j<r.size
            · have q1:decide ((j:Int)<(r.size:Int))=true:=decide_eq_true (by omega)
              have g0:=kBP r j hlt;have HYj:Hid ((bt r j==44)=false→kB6 (fun i=> !(bt r i==44)) r.size j=kB6 (fun i=> !(bt r i==44)) r.size (j+1)):=hJ (fun h=>kEG hlt (by rw [h];rfl));have HNj:Hid ((bt r j==44)=true→kB6 (fun i=> !(bt r i==44)) r.size j=j):=hJ (fun h=>kB5 (by rw [h];rfl));generalize bt r j=c at *;cases hc:(c==44) with
              | false =>
                have n0:(c != 44)=true:=by unfold bne;rw [hc];rfl
                go_wp2_with fail
                go_roundw
                case rel=>exact ⟨j+1,by omega,by go_num,hJ ((HYj.out hc).symm.trans HE.out),by trivial⟩
                case measure=>simp [intOf];omega
              | true =>
                have n0:(c != 44)=false:=by unfold bne;rw [hc];rfl
                have HF:Hid (j=comE r):=hJ ((HNj.out hc).symm.trans HE.out)
                go_wp2_with fail
                go_meet
                exact ⟨j,rfl,hj,HF,rfl⟩
            · have q1:decide ((j:Int)<(r.size:Int))=false:=decide_eq_false (by omega)
              have HF:Hid (j=comE r):=hJ ((kBX (by omega)).symm.trans HE.out)
              go_wp2_with fail
              go_meet
              exact ⟨j,rfl,hj,HF,rfl⟩
          case rest =>
           obtain ⟨j,rfl,hj,HF,rfl⟩:=hcut;have HSb:=hJ (kBN r (a:=j) (b:=r.size) (Nat.le_refl _));have HSa:=hJ (kBN r (a:=0) (b:=j) hj);rw [← HF.out] at HRun;obtain ⟨t,ht⟩:∃ t,r.extract j r.size=t:=⟨_,rfl⟩
           obtain ⟨x,hx⟩:∃ x,r.extract 0 j=x:=⟨_,rfl⟩
           rw [ht] at HRun HSb;rw [hx] at HRun HSa
           go_upto_if 59 with fail
           go_cut [5] (fun v5 W2=>∃ r2:Str,v5= .string r2∧Hid (r2.size<r.size)∧Hid (badT t=false)∧Hid (r2=restT t)∧wr=W2)
           case first =>
            by_cases ht0:0<t.size
            · have q2:decide ((0:Int)<(t.size:Int))=true:=decide_eq_true (by omega)
              by_cases ht3:t.size<3
              · have q3:decide ((t.size:Int)<3)=true:=decide_eq_true (by omega)
                replace HF:Hid (res=none):=hJ (by rw [HR2.out,← HRun.out,if_pos (by unfold badT;rw [decide_eq_true ht0,decide_eq_true ht3];rfl)]);have z0:=HRs.out.cell 0 _ rfl;have z1:=HRs.out.cell 1 _ rfl;have f0:=HRs.out.fz 0;have f1:=HRs.out.fz 1;have hl0:=HRs.out.lt;have HZz:=hJ ((HRs.out.set 0 (.string ⟨#[]⟩)).set 1 (.slice none 0 0));have s0:=HZz.out.cell 0 _ rfl;have s1:=HZz.out.cell 1 _ rfl
                go_wp2_with fail
                refine bodyPost_ret (v:=.tuple #[.agg #[.string ⟨#[]⟩,.slice none 0 0],.int .i64 6]) (by simp [results,results87,go_sem,s0,s1,hl0]) rfl ?_;have HFr:Hid (∀ W,RShp.rd (fun k=>w.heap.size≤k) W [.string ⟨#[]⟩,.slice none 0 0] (optH res)):=hJ (fun W=>by rw [HF.out];exact ⟨_,rfl,none,0,rfl,Sl.empty RLin _ _⟩)
                first
                 | exact ⟨⟨_,by rw [HF.out];rfl,HFr.out _⟩,HBl.out⟩
                 | exact ⟨⟨_,by rw [HF.out];rfl,HFr.out _⟩,(HBl.out.setCell (Nat.le_refl _) _).setCell (Nat.le_refl _) _⟩
              · have q3:decide ((t.size:Int)<3)=false:=decide_eq_false (by omega)
                have g1:=kBP t 1 (by omega);have hbd:badT t= !(bt t 1==32):=by unfold badT;rw [decide_eq_true ht0,decide_eq_false ht3];rfl
                generalize bt t 1=c2 at *;cases hc2:(c2==32) with
                | false =>
                  have n2:(c2 != 32)=true:=by unfold bne;rw [hc2];rfl
                  replace HF:Hid (res=none):=hJ (by rw [HR2.out,← HRun.out,hbd,hc2];rfl);have z0:=HRs.out.cell 0 _ rfl;have z1:=HRs.out.cell 1 _ rfl;have f0:=HRs.out.fz 0;have f1:=HRs.out.fz 1;have hl0:=HRs.out.lt;have HZz:=hJ ((HRs.out.set 0 (.string ⟨#[]⟩)).set 1 (.slice none 0 0));have s0:=HZz.out.cell 0 _ rfl;have s1:=HZz.out.cell 1 _ rfl
                  go_wp2_with fail
                  refine bodyPost_ret (v:=.tuple #[.agg #[.string ⟨#[]⟩,.slice none 0 0],.int .i64 6]) (by simp [results,results87,go_sem,s0,s1,hl0]) rfl ?_;have HFr:Hid (∀ W,RShp.rd (fun k=>w.heap.size≤k) W [.string ⟨#[]⟩,.slice none 0 0] (optH res)):=hJ (fun W=>by rw [HF.out];exact ⟨_,rfl,none,0,rfl,Sl.empty RLin _ _⟩)
                  first
                   | exact ⟨⟨_,by rw [HF.out];rfl,HFr.out _⟩,HBl.out⟩
                   | exact ⟨⟨_,by rw [HF.out];rfl,HFr.out _⟩,(HBl.out.setCell (Nat.le_refl _) _).setCell (Nat.le_refl _) _⟩
                | true =>
                  have n2:(c2 != 32)=false:=by unfold bne;rw [hc2];rfl
                  have HS2:=hJ (kBN t (a:=2) (b:=t.size) (Nat.le_refl _))
                  go_wp2_with fail
                  go_meet
                  exact ⟨_,rfl,hJ (by have:=HS2.out;have:=HSb.out;omega),hJ (by rw [hbd,hc2];rfl),hJ (by unfold restT;rw [if_pos ht0]),rfl⟩
            · have q2:decide ((0:Int)<(t.size:Int))=false:=decide_eq_false (by omega)
              go_wp2_with fail
              go_meet
              exact ⟨_,rfl,hJ (by omega),hJ (by unfold badT;rw [decide_eq_false ht0];rfl),hJ (by unfold restT;rw [if_neg ht0]),rfl⟩
           case rest =>
            obtain ⟨r2,rfl,HR2z,hbT,hrT,rfl⟩:=hcut;replace HRun:Hid ((match stepR n x acc with | none=>none | some acc'=>goPR g r2 (n+1) acc')=tot):=hJ (by rw [← HRun.out,hbT.out,← hrT.out];rfl);clear hbT hrT HSb;have hxb:x.size≤10000:=by have:=HSa.out;omega
            go_upto_region 17 with fail
            go_cut [85] (fun v W2=>v= .bool (kJ4 n x)∧wr=W2)
            case first =>
             by_cases hn:n=0
             · have hn1:(n:Int)=0:=by omega
               by_cases hx2:2<x.size
               · have q5:decide ((2:Int)<(x.size:Int))=true:=decide_eq_true (by omega)
                 have hto2:((x.size:Int) - 2).toNat=x.size - 2:=by omega
                 have hRw:kJ4 n x=((x.extract (x.size - 2) x.size).toList==[46,46]):=by unfold kJ4;rw [decide_eq_true hx2,decide_eq_true hn];rfl
                 go_wp2_with fail
                 go_meet
                 exact ⟨by rw [hRw],rfl⟩
               · have q5:decide ((2:Int)<(x.size:Int))=false:=decide_eq_false (by omega)
                 have hrw:kJ4 n x=false:=by unfold kJ4;rw [decide_eq_false hx2];simp
                 go_wp2_with fail
                 go_meet
                 exact ⟨by rw [hrw],rfl⟩
             · have hn1:¬ ((n:Int)=0):=by omega
               have hrw:kJ4 n x=false:=by unfold kJ4;rw [decide_eq_false hn];rfl
               go_wp2_with fail
               go_meet
               exact ⟨by rw [hrw],rfl⟩
            case rest =>
             obtain ⟨rfl,rfl⟩:=hcut;cases hrw:kJ4 n x with
             | true =>
               have hx2:2<x.size:=by
                unfold kJ4 at hrw;rw [Bool.and_eq_true,Bool.and_eq_true] at hrw;exact of_decide_eq_true hrw.1.2
               have hto2:((x.size:Int) - 2).toNat=x.size - 2:=by omega
               have HXr:=hJ (kBN x (a:=0) (b:=x.size - 2) (by omega));have HNx:Hid (goPR g r2 (n+1) ⟨x.extract 0 (x.size - 2),acc.dims⟩=tot):=hJ (by have q:=HRun.out;unfold stepR at q;rw [hrw,if_pos rfl] at q;exact q);have z0:=HBX.out.cell 0 _ rfl;have f0:=HBX.out.fz 0;clear HRun
               go_wp2_with fail
               go_roundg g
               case measure=>omega
               case rel=>exact ⟨r2,n+1,⟨x.extract 0 (x.size - 2),acc.dims⟩,rfl,by go_num,by have:=HR2z.out;omega,by have:=HR2z.out;omega,hdl,by show (x.extract 0 (x.size - 2)).size≤_;have:=HXr.out;omega,HV,HNx,hJ ⟨_,HBX.out.set 0 _,HOwn.out.set _ (fun q hq=>by show q≠w.heap.size+1;omega) (by show w.heap.size+1<_;omega)⟩,hJ (HRs.out.other (by show w.heap.size+1≠_;omega)),hJ (HBl.out.setCell (by show _≤w.heap.size+1;omega) _)⟩
             | false =>
               have HC:=hJ (ref04_Parse x (by have:=HSa.out;omega) wr);have HVl:=hJ (lossX_sz (kA5 (kCD x) x));have HStep:Hid (stepR n x acc=if kEU (kA5 (kCD x) x)=0∧¬ acc.dims.length=6 then some ⟨acc.row,acc.dims++[kET (kA5 (kCD x) x)]⟩ else none):=hJ (by unfold stepR;rw [hrw,if_neg Bool.false_ne_true]);generalize kEU (kA5 (kCD x) x)=er at *;generalize kET (kA5 (kCD x) x)=y at *
               go_wp2_with fail
               refine HC.out.mono ?_;rintro e w4 ⟨⟨ds,rfl,ty,rfl,ay,cy,rfl,hy⟩,hb4⟩;have HOld:=HOwn;have hz4:=hb4.size;have HT:=hJ (Bx.fresh w4 45 [.int .i64 y.const,.slice ay y.terms.length cy]);have t0:=HT.out.cell 0 _ rfl;have t1:=HT.out.cell 1 _ rfl;have HY:Hid (Sl kBE (fun k=>wr.heap.size≤k) (w4.alloc (.cells #[.int .i64 y.const,.slice ay y.terms.length cy] 45)) ay y.terms.length cy y.terms):=hJ (hy.below ((Below.refl _ _).alloc (Nat.le_refl _) _));have HB5:Hid (Below wr.heap.size wr (w4.alloc (.cells #[.int .i64 y.const,.slice ay y.terms.length cy] 45))):=hJ (hb4.alloc hz4 _);replace HBX:=hJ (HBX.out.below HB5.out HBX.out.lt);replace HOwn:=hJ (HOwn.out.below HB5.out);replace HRs:=hJ (HRs.out.below HB5.out HRs.out.lt);replace HBl:=hJ (HBl.out.trans (HB5.out.mono HBl.out.size));have v0:=HBX.out.cell 0 _ rfl;have v1:=HBX.out.cell 1 _ rfl;have fv1:=HBX.out.fz 1;clear hb4 hy HC;by_cases her:er=0
               · subst her
                 by_cases hd6:acc.dims.length=6
                 · have hd7:((acc.dims.length:Int)==6)=true:=beq_iff_eq.2 (by omega)
                   replace HF:Hid (res=none):=hJ (by have q:=HRun.out;rw [HStep.out,if_neg (fun h=>h.2 hd6)] at q;rw [HR2.out,← q]);clear HRun HStep hd6;have z0:=HRs.out.cell 0 _ rfl;have z1:=HRs.out.cell 1 _ rfl;have f0:=HRs.out.fz 0;have f1:=HRs.out.fz 1;have hl0:=HRs.out.lt;have HZz:=hJ ((HRs.out.set 0 (.string ⟨#[]⟩)).set 1 (.slice none 0 0));have s0:=HZz.out.cell 0 _ rfl;have s1:=HZz.out.cell 1 _ rfl
                   go_wp2_with fail
                   refine bodyPost_ret (v:=.tuple #[.agg #[.string ⟨#[]⟩,.slice none 0 0],.int .i64 6]) (by simp [results,results87,go_sem,s0,s1,hl0]) rfl ?_;have HFr:Hid (∀ W,RShp.rd (fun k=>w.heap.size≤k) W [.string ⟨#[]⟩,.slice none 0 0] (optH res)):=hJ (fun W=>by rw [HF.out];exact ⟨_,rfl,none,0,rfl,Sl.empty RLin _ _⟩)
                   first
                    | exact ⟨⟨_,by rw [HF.out];rfl,HFr.out _⟩,HBl.out⟩
                    | exact ⟨⟨_,by rw [HF.out];rfl,HFr.out _⟩,(HBl.out.setCell (Nat.le_refl _) _).setCell (Nat.le_refl _) _⟩
                 · have hd7:¬ (acc.dims.length:Int)=6:=by omega
                   have HNx:Hid (goPR g r2 (n+1) ⟨acc.row,acc.dims++[y]⟩=tot):=hJ (by have q:=HRun.out;rw [HStep.out,if_pos ⟨rfl,hd6⟩] at q;exact q);have hvy:Hid (kAC y=true):=hJ (HVl.out rfl);clear HStep HRun HVl
                   go_wp2_with (at_builtin;refine kAZ kCA rfl _ _ rfl (w.heap.size+2) _ _ rfl (HOwn.out.alloc _) _ y [.int .i64 y.const,.slice ay y.terms.length cy] rfl ⟨_,rfl,ay,cy,rfl,(HY.out.below ((Below.refl _ _).alloc (Nat.le_refl _) _)).mono (fun q hq _=>⟨by omega,fun e=>by have:=(HOld.out.block e).2;omega⟩)⟩ (kA2 45 (by (simp only [kAL,kAH,Array.getElem?_push,Array.size_push];simp))) (by omega) (by unfold maxLen;omega) (by simp;omega) ?_;intro v9 w9 hown9 hb9 hk9;obtain ⟨a9,m9,c9,rfl⟩:=hown9.shape;have HX9:=hJ ((HBX.out.alloc _).kp hk9 (HOwn.out.ne (by omega)));have HR9:=hJ ((HRs.out.alloc _).kp hk9 (HOwn.out.ne (by omega)));have z9:=HX9.out.cell 1 _ rfl;have f9:=HX9.out.fz 1)
                   go_roundg g
                   case measure=>omega
                   case rel=>exact ⟨r2,n+1,⟨acc.row,acc.dims++[y]⟩,rfl,by go_num,by have:=HR2z.out;omega,by have:=HR2z.out;omega,by rw [List.length_append];show acc.dims.length+1≤_;omega,hrz,hJ (fun d hd=>(List.mem_append.mp hd).elim (HV.out d) (fun q=>by rw [List.mem_singleton.mp q];exact hvy.out)),HNx,hJ ⟨_,HX9.out.set 1 _,hown9.set _ (fun q hq=>by show q≠w.heap.size+1;omega) (by show w.heap.size+1<_;omega)⟩,hJ (HR9.out.other (by show w.heap.size+1≠_;omega)),hJ (((HBl.out.alloc HBl.out.size _).trans (hb9.mono (by omega))).setCell (by show _≤w.heap.size+1;omega) _)⟩
               · replace HF:Hid (res=none):=hJ (by have q:=HRun.out;rw [HStep.out,if_neg (fun h=>her h.1)] at q;rw [HR2.out,← q])
                 clear HRun HStep;have z0:=HRs.out.cell 0 _ rfl;have z1:=HRs.out.cell 1 _ rfl;have f0:=HRs.out.fz 0;have f1:=HRs.out.fz 1;have hl0:=HRs.out.lt;have HZz:=hJ ((HRs.out.set 0 (.string ⟨#[]⟩)).set 1 (.slice none 0 0));have s0:=HZz.out.cell 0 _ rfl;have s1:=HZz.out.cell 1 _ rfl
                 go_wp2_with fail
                 refine bodyPost_ret (v:=.tuple #[.agg #[.string ⟨#[]⟩,.slice none 0 0],.int .i64 6]) (by simp [results,results87,go_sem,s0,s1,hl0]) rfl ?_;have HFr:Hid (∀ W,RShp.rd (fun k=>w.heap.size≤k) W [.string ⟨#[]⟩,.slice none 0 0] (optH res)):=hJ (fun W=>by rw [HF.out];exact ⟨_,rfl,none,0,rfl,Sl.empty RLin _ _⟩)
                 first
                  | exact ⟨⟨_,by rw [HF.out];rfl,HFr.out _⟩,HBl.out⟩
                  | exact ⟨⟨_,by rw [HF.out];rfl,HFr.out _⟩,(HBl.out.setCell (Nat.le_refl _) _).setCell (Nat.le_refl _) _⟩
theorem ref11_Parse_some {s:Str} {x:Shp} (h:kGB s=some x) (hs:s.size≤10000) (w:World) :
 Calls Tryz.prog 87 #[.string s] w fun e w'=>(∃ ds,e= .returned (.tuple #[.agg ds.toArray,.int .i64 0])∧RShp.rd (fun k=>w.heap.size≤k) w' ds x)∧Below w.heap.size w w':=by
 have:=ref11_Parse s hs w;rw [readR_eq,h] at this;exact this
theorem ref11_Parse_none {s:Str} (h:kGB s=none) (hs:s.size≤10000) (w:World) :
 Calls Tryz.prog 87 #[.string s] w fun e w'=>(∃ ds,e= .returned (.tuple #[.agg ds.toArray,.int .i64 6])∧RShp.rd (fun k=>w.heap.size≤k) w' ds kDH)∧Below w.heap.size w w':=by
 have:=ref11_Parse s hs w;rw [readR_eq,h] at this;exact this
theorem lastK_le (s:Str):∀ k,kHS s k≤k
 | 0=>Nat.le_refl _
 | k+1=>by
   rw [kID];have:=lastK_le s k
   split <;> omega
theorem kI5 (s:Str) (hs:s.size≤10000) (w:World) :
 Calls Tryz.prog 37 #[.string s] w fun e w'=>(∃ ds,e= .returned (.tuple #[.agg ds.toArray,.int .i64 (optE (kBS s))])∧RTyp.rd (fun k=>w.heap.size≤k) w' ds (optT (kBS s)))∧Below w.heap.size w w':=by
 have HR:Hid (kBS s=match kIT s (kHS s s.size) with | none=>none | some x=>if kAD ⟨s.extract (kHS s s.size) s.size,x⟩ && (kAQ ⟨s.extract (kHS s s.size) s.size,x⟩).toList==s.toList then some ⟨s.extract (kHS s s.size) s.size,x⟩ else none):=hJ (by rw [← readK_eq];rfl);generalize kBS s=res at *;have HRb:=hJ (Bx.fresh w 26 [.string ⟨#[]⟩,.string ⟨#[]⟩,.slice none 0 0]);have HB0:=hJ ((Below.refl _ w).alloc (Nat.le_refl _) (.cells #[.string ⟨#[]⟩,.string ⟨#[]⟩,.slice none 0 0] 26));have hlw0:w.heap.size<(w.alloc (.cells #[.string ⟨#[]⟩,.string ⟨#[]⟩,.slice none 0 0] 26)).heap.size:=HRb.out.lt;have e1:(w.alloc (.cells #[.string ⟨#[]⟩,.string ⟨#[]⟩,.slice none 0 0] 26)).heap.size=w.heap.size+1:=by simp
 go_enter func37,ntmps37
 go_wp2_with fail
 generalize w.alloc (.cells #[.string ⟨#[]⟩,.string ⟨#[]⟩,.slice none 0 0] 26)=W at *
 go_loopw [4,5] (fun va vi W2=>∃ k:Nat,k≤s.size∧va= .int .i64 (kHS s k:Nat)∧vi= .int .i64 k∧W=W2) (fun _ vi _=>s.size - (intOf vi).toNat)
 case atStart=>exact ⟨0,Nat.zero_le _,rfl,rfl,rfl⟩
 case round =>
  obtain ⟨k,hk,rfl,rfl,rfl⟩:=hrel;by_cases hlt:k<s.size
  · have q1:decide ((k:Int)<(s.size:Int))=true:=decide_eq_true (by omega)
    have g0:=kBP s k hlt;have HN:=hJ (kID s k);have hle:=lastK_le s k;generalize bt s k=c at *;generalize kHS s k=m at *;cases hc:(c==93) with
    | true =>
      rw [hc,if_pos rfl] at HN
      go_wp2_with fail
      go_roundw
      case rel=>exact ⟨k+1,by omega,by rw [HN.out];go_num,by go_num,by trivial⟩
      case measure=>simp [intOf];omega
    | false =>
      rw [hc,if_neg Bool.false_ne_true] at HN
      go_wp2_with fail
      go_roundw
      case rel=>exact ⟨k+1,by omega,by rw [HN.out],by go_num,by trivial⟩
      case measure=>simp [intOf];omega
  · have hk2:k=s.size:=by omega
    subst hk2;have q1:decide ((s.size:Int)<(s.size:Int))=false:=decide_eq_false (by omega);have hle:=lastK_le s s.size;generalize kHS s s.size=m at *;have HOb:=hJ (Bx.fresh W 26 [.string (s.extract m s.size),.string ⟨#[]⟩,.slice none 0 0]);have HRs:=hJ (HRb.out.alloc (.cells #[.string (s.extract m s.size),.string ⟨#[]⟩,.slice none 0 0] 26));have HBl:=hJ (HB0.out.alloc (by omega) (.cells #[.string (s.extract m s.size),.string ⟨#[]⟩,.slice none 0 0] 26));have hyz:=kBN s (a:=m) (b:=s.size) (Nat.le_refl _);have hWz:(W.alloc (.cells #[.string (s.extract m s.size),.string ⟨#[]⟩,.slice none 0 0] 26)).heap.size=w.heap.size+1+1:=by simp [e1]
    rw [e1] at HOb;by_cases hm0:m=0
    · have q2:decide (0<m)=false:=decide_eq_false (by omega)
      have HR3:Hid (res=if kAD ⟨s.extract m s.size,kDH⟩ && (kAQ ⟨s.extract m s.size,kDH⟩).toList==s.toList then some ⟨s.extract m s.size,kDH⟩ else none):=hJ (by rw [HR.out];unfold kIT;rw [if_neg (by omega)];rfl);clear HRb HB0 HR hm0
      go_upto_region 13 with fail
      generalize W.alloc (.cells #[.string (s.extract m s.size),.string ⟨#[]⟩,.slice none 0 0] 26)=W2 at *
      obtain ⟨y,ry,va,vm,vc,t,HBX,HRd,hz,HR3⟩:∃ y ry va vm vc t,Hid (Bx W2 (w.heap.size+1) 26 [.string y,.string ry,.slice va vm vc])∧Hid (RTyp.rd (fun q=>w.heap.size+1<q) W2 [.string y,.string ry,.slice va vm vc] t)∧szT t∧Hid (res=if kAD t && (kAQ t).toList==s.toList then some t else none) :=
       ⟨s.extract m s.size,⟨#[]⟩,none,0,0,⟨s.extract m s.size,kDH⟩,HOb,hJ ⟨_,rfl,none,0,rfl,Sl.empty RLin _ _⟩,⟨by show (s.extract m s.size).size≤_;omega,Nat.zero_le _,fun d hd=>by cases hd⟩,HR3⟩
      clear HOb;have HCv:=hJ (kE7 HRd.out hz);have v0:=HBX.out.cell 0 _ rfl;have v1:=HBX.out.cell 1 _ rfl;have v2:=HBX.out.cell 2 _ rfl;have hlw:=HBX.out.lt;cases hv:kAD t with
      | false =>
        have HF:Hid (res=none):=hJ (by rw [HR3.out,hv];rfl);have HVe:Hid (kCF (kAD t)=1):=hJ (by rw [hv];rfl);rw [HVe.out] at HCv;clear HR3 HRd
        go_wp2_with fail
        refine (HCv.out).mono ?_;rintro e w1 ⟨rfl,hb⟩;replace HRs:=hJ (HRs.out.below hb HRs.out.lt);replace HBl:=hJ (HBl.out.trans (hb.mono HBl.out.size));have z0:=HRs.out.cell 0 _ rfl;have z1:=HRs.out.cell 1 _ rfl;have z2:=HRs.out.cell 2 _ rfl;have f0:=HRs.out.fz 0;have f1:=HRs.out.fz 1;have f2:=HRs.out.fz 2;have hl0:=HRs.out.lt;have HZz:=hJ (((HRs.out.set 0 (.string ⟨#[]⟩)).set 1 (.string ⟨#[]⟩)).set 2 (.slice none 0 0));have s0:=HZz.out.cell 0 _ rfl;have s1:=HZz.out.cell 1 _ rfl;have s2:=HZz.out.cell 2 _ rfl
        go_upto_region 15 with fail
        (try simp only []);repeat (first | go_values | go_skip | go_guarded | go_step | go_upon)
        refine bodyPost_ret (v:=.tuple #[.agg #[.string ⟨#[]⟩,.string ⟨#[]⟩,.slice none 0 0],.int .i64 6]) (by simp [results,results37,go_sem,s0,s1,s2,hl0]) rfl ?_;have HFr:Hid (∀ W,RTyp.rd (fun k=>w.heap.size≤k) W [.string ⟨#[]⟩,.string ⟨#[]⟩,.slice none 0 0] (optT res)):=hJ (fun W=>by rw [HF.out];exact ⟨_,rfl,none,0,rfl,Sl.empty RLin _ _⟩);exact ⟨⟨_,by rw [HF.out];rfl,HFr.out _⟩,((HBl.out.setCell (Nat.le_refl _) _).setCell (Nat.le_refl _) _).setCell (Nat.le_refl _) _⟩
      | true =>
        have HVe:Hid (kCF (kAD t)=0):=hJ (by rw [hv];rfl);have HPe:Hid (kBQ t=kAQ t):=hJ (by unfold kBQ;rw [if_pos hv]);rw [HVe.out,HPe.out] at HCv;rw [hv] at HR3;generalize kAQ t=o at *
        go_wp2_with fail
        refine (HCv.out).mono ?_;rintro e w2 ⟨rfl,hb⟩;have HB2:=hJ hb;replace v0:=(hb.cell (by show w.heap.size+1<_;omega)).trans v0;replace v1:=(hb.cell (by show w.heap.size+1<_;omega)).trans v1;replace v2:=(hb.cell (by show w.heap.size+1<_;omega)).trans v2;replace HRs:=hJ (HRs.out.below HB2.out HRs.out.lt);replace HBl:=hJ (HBl.out.trans (HB2.out.mono HBl.out.size));cases ho:(o.toList==s.toList) with
        | false =>
          have HF:Hid (res=none):=hJ (by rw [HR3.out,ho];rfl);have z0:=HRs.out.cell 0 _ rfl;have z1:=HRs.out.cell 1 _ rfl;have z2:=HRs.out.cell 2 _ rfl;have f0:=HRs.out.fz 0;have f1:=HRs.out.fz 1;have f2:=HRs.out.fz 2;have hl0:=HRs.out.lt;have HZz:=hJ (((HRs.out.set 0 (.string ⟨#[]⟩)).set 1 (.string ⟨#[]⟩)).set 2 (.slice none 0 0));have s0:=HZz.out.cell 0 _ rfl;have s1:=HZz.out.cell 1 _ rfl;have s2:=HZz.out.cell 2 _ rfl
          go_upto_region 15 with fail
          (try simp only []);repeat (first | go_values | go_skip | go_guarded | go_step | go_upon)
          refine bodyPost_ret (v:=.tuple #[.agg #[.string ⟨#[]⟩,.string ⟨#[]⟩,.slice none 0 0],.int .i64 6]) (by simp [results,results37,go_sem,s0,s1,s2,hl0]) rfl ?_;have HFr:Hid (∀ W,RTyp.rd (fun k=>w.heap.size≤k) W [.string ⟨#[]⟩,.string ⟨#[]⟩,.slice none 0 0] (optT res)):=hJ (fun W=>by rw [HF.out];exact ⟨_,rfl,none,0,rfl,Sl.empty RLin _ _⟩);exact ⟨⟨_,by rw [HF.out];rfl,HFr.out _⟩,((HBl.out.setCell (Nat.le_refl _) _).setCell (Nat.le_refl _) _).setCell (Nat.le_refl _) _⟩
        | true =>
          have HF:Hid (res=some t):=hJ (by rw [HR3.out,ho];rfl);have z0:=HRs.out.cell 0 _ rfl;have z1:=HRs.out.cell 1 _ rfl;have z2:=HRs.out.cell 2 _ rfl;have f0:=HRs.out.fz 0;have f1:=HRs.out.fz 1;have f2:=HRs.out.fz 2;have hl0:=HRs.out.lt
          go_upto_region 16 with fail
          (try simp only []);repeat (first | go_values | go_skip | go_guarded | go_step | go_upon)
          have HZz:=hJ (((HRs.out.set 0 (.string y)).set 1 (.string ry)).set 2 (.slice va vm vc));have s0:=HZz.out.cell 0 _ rfl;have s1:=HZz.out.cell 1 _ rfl;have s2:=HZz.out.cell 2 _ rfl;refine bodyPost_ret (v:=.tuple #[.agg #[.string y,.string ry,.slice va vm vc],.int .i64 0]) (by simp [results,results37,go_sem,s0,s1,s2,hl0]) rfl ?_;exact ⟨⟨_,by rw [HF.out];rfl,by rw [HF.out];exact RTyp.mono (RTyp.frame (RTyp.frame (RTyp.frame (RTyp.below HRd.out HB2.out) (fun q hq _=>kAB (a:=⟨w.heap.size,0,none⟩) (by show w.heap.size≠q;omega))) (fun q hq _=>kAB (a:=⟨w.heap.size,1,none⟩) (by show w.heap.size≠q;omega))) (fun q hq _=>kAB (a:=⟨w.heap.size,2,none⟩) (by show w.heap.size≠q;omega))) (fun q hq _=>by show w.heap.size≤q;omega)⟩,((HBl.out.setCell (Nat.le_refl _) _).setCell (Nat.le_refl _) _).setCell (Nat.le_refl _) _⟩
    · have q2:decide (0<m)=true:=decide_eq_true (by omega)
      have HF0:Hid (kIT s m=kGB (s.extract 0 m)):=hJ (by unfold kIT;rw [if_pos (by omega)]);rw [HF0.out] at HR;have hxz:=kBN s (a:=0) (b:=m) hle;clear HRb HB0 HF0 hm0;cases hox:kGB (s.extract 0 m) with
      | none =>
        have HC:=hJ (fun W=>ref11_Parse_none hox (by rw [hxz];omega) W);have HF:Hid (res=none):=hJ (by rw [HR.out,hox]);clear HR hox hxz
        go_wp2_with fail
        generalize W.alloc (.cells #[.string (s.extract m s.size),.string ⟨#[]⟩,.slice none 0 0] 26)=W2 at *;refine (HC.out _).mono ?_;rintro e w4 ⟨⟨ds,rfl,ty,rfl,ay,cy,rfl,hy⟩,hb4⟩;have hz4:=hb4.size;have HX:=hJ (Bx.fresh w4 24 [.string (kDH).row,.slice ay (kDH).dims.length cy]);have HY:=hJ (hy.below ((Below.refl _ _).alloc (Nat.le_refl _) (.cells #[.string (kDH).row,.slice ay (kDH).dims.length cy] 24)));have HB5:=hJ (hb4.alloc hz4 (.cells #[.string (kDH).row,.slice ay (kDH).dims.length cy] 24));replace HRs:=hJ (HRs.out.below HB5.out HRs.out.lt);replace HOb:=hJ (HOb.out.below HB5.out HOb.out.lt);replace HBl:=hJ (HBl.out.trans (HB5.out.mono HBl.out.size));have x0:=HX.out.cell 0 _ rfl;have x1:=HX.out.cell 1 _ rfl;clear hb4 hy HC;clear HY HOb HX HB5 x0 x1;have z0:=HRs.out.cell 0 _ rfl;have z1:=HRs.out.cell 1 _ rfl;have z2:=HRs.out.cell 2 _ rfl;have f0:=HRs.out.fz 0;have f1:=HRs.out.fz 1;have f2:=HRs.out.fz 2;have hl0:=HRs.out.lt;have HZz:=hJ (((HRs.out.set 0 (.string ⟨#[]⟩)).set 1 (.string ⟨#[]⟩)).set 2 (.slice none 0 0));have s0:=HZz.out.cell 0 _ rfl;have s1:=HZz.out.cell 1 _ rfl;have s2:=HZz.out.cell 2 _ rfl
        go_upto_region 11 with fail
        (try simp only []);repeat (first | go_values | go_skip | go_guarded | go_step | go_upon)
        refine bodyPost_ret (v:=.tuple #[.agg #[.string ⟨#[]⟩,.string ⟨#[]⟩,.slice none 0 0],.int .i64 6]) (by simp [results,results37,go_sem,s0,s1,s2,hl0]) rfl ?_;have HFr:Hid (∀ W,RTyp.rd (fun k=>w.heap.size≤k) W [.string ⟨#[]⟩,.string ⟨#[]⟩,.slice none 0 0] (optT res)):=hJ (fun W=>by rw [HF.out];exact ⟨_,rfl,none,0,rfl,Sl.empty RLin _ _⟩);exact ⟨⟨_,by rw [HF.out];rfl,HFr.out _⟩,((HBl.out.setCell (Nat.le_refl _) _).setCell (Nat.le_refl _) _).setCell (Nat.le_refl _) _⟩
      | some x =>
        have HC:=hJ (fun W=>ref11_Parse_some hox (by rw [hxz];omega) W);have hxs:=readH_sz hox;replace HR:Hid (res=if kAD ⟨s.extract m s.size,x⟩ && (kAQ ⟨s.extract m s.size,x⟩).toList==s.toList then some ⟨s.extract m s.size,x⟩ else none):=hJ (by rw [HR.out,hox]);clear hox hxz
        go_wp2_with fail
        generalize W.alloc (.cells #[.string (s.extract m s.size),.string ⟨#[]⟩,.slice none 0 0] 26)=W2 at *;refine (HC.out _).mono ?_;rintro e w4 ⟨⟨ds,rfl,ty,rfl,ay,cy,rfl,hy⟩,hb4⟩;have hz4:=hb4.size;have HX:=hJ (Bx.fresh w4 24 [.string (x).row,.slice ay (x).dims.length cy]);have HY:=hJ (hy.below ((Below.refl _ _).alloc (Nat.le_refl _) (.cells #[.string (x).row,.slice ay (x).dims.length cy] 24)));have HB5:=hJ (hb4.alloc hz4 (.cells #[.string (x).row,.slice ay (x).dims.length cy] 24));replace HRs:=hJ (HRs.out.below HB5.out HRs.out.lt);replace HOb:=hJ (HOb.out.below HB5.out HOb.out.lt);replace HBl:=hJ (HBl.out.trans (HB5.out.mono HBl.out.size));have x0:=HX.out.cell 0 _ rfl;have x1:=HX.out.cell 1 _ rfl;clear hb4 hy HC;have v1:=HOb.out.cell 1 _ rfl;have v2:=HOb.out.cell 2 _ rfl;have f1:=HOb.out.fz 1;have f2:=HOb.out.fz 2;have hlo:=HOb.out.lt
        go_upto_region 13 with fail
        have hne:w.heap.size+1≠w.heap.size:=by omega
        replace HOb:=hJ ((HOb.out.set 1 (.string x.row)).set 2 (.slice ay x.dims.length cy));replace HRs:=hJ ((HRs.out.other (a:=⟨w.heap.size+1,1,none⟩) (u:=.string x.row) hne).other (a:=⟨w.heap.size+1,2,none⟩) (u:=.slice ay x.dims.length cy) hne);replace HBl:=hJ ((HBl.out.setCell (show w.heap.size≤(⟨w.heap.size+1,1,none⟩:Addr).block from Nat.le_succ _) (.string x.row)).setCell (show w.heap.size≤(⟨w.heap.size+1,2,none⟩:Addr).block from Nat.le_succ _) (.slice ay x.dims.length cy));replace HY:=hJ ((HY.out.frame (w':=World.setCell _ ⟨w.heap.size+1,1,none⟩ (.string x.row)) (fun k hk _=>kAB (by show w.heap.size+1≠k;omega))).frame (w':=World.setCell _ ⟨w.heap.size+1,2,none⟩ (.slice ay x.dims.length cy)) (fun k hk _=>kAB (by show w.heap.size+1≠k;omega)));clear x0 x1 v1 v2 f1 f2 HX HB5 hlo;generalize ((w4.alloc (.cells #[.string x.row,.slice ay x.dims.length cy] 24)).setCell ⟨w.heap.size+1,1,none⟩ (.string x.row)).setCell ⟨w.heap.size+1,2,none⟩ (.slice ay x.dims.length cy)=W3 at *
        obtain ⟨y,ry,va,vm,vc,t,HBX,HRd,hz,HR3⟩:∃ y ry va vm vc t,Hid (Bx W3 (w.heap.size+1) 26 [.string y,.string ry,.slice va vm vc])∧Hid (RTyp.rd (fun q=>w.heap.size+1<q) W3 [.string y,.string ry,.slice va vm vc] t)∧szT t∧Hid (res=if kAD t && (kAQ t).toList==s.toList then some t else none) :=
         ⟨s.extract m s.size,x.row,ay,x.dims.length,cy,⟨s.extract m s.size,x⟩,HOb,hJ ⟨_,rfl,ay,cy,rfl,HY.out.mono (fun q hq _=>by omega)⟩,⟨by show (s.extract m s.size).size≤_;omega,hxs⟩,HR⟩
        clear HOb HR HY;have HCv:=hJ (kE7 HRd.out hz);have v0:=HBX.out.cell 0 _ rfl;have v1:=HBX.out.cell 1 _ rfl;have v2:=HBX.out.cell 2 _ rfl;have hlw:=HBX.out.lt;cases hv:kAD t with
        | false =>
          have HF:Hid (res=none):=hJ (by rw [HR3.out,hv];rfl);have HVe:Hid (kCF (kAD t)=1):=hJ (by rw [hv];rfl);rw [HVe.out] at HCv;clear HR3 HRd
          go_wp2_with fail
          refine (HCv.out).mono ?_;rintro e w1 ⟨rfl,hb⟩;replace HRs:=hJ (HRs.out.below hb HRs.out.lt);replace HBl:=hJ (HBl.out.trans (hb.mono HBl.out.size));have z0:=HRs.out.cell 0 _ rfl;have z1:=HRs.out.cell 1 _ rfl;have z2:=HRs.out.cell 2 _ rfl;have f0:=HRs.out.fz 0;have f1:=HRs.out.fz 1;have f2:=HRs.out.fz 2;have hl0:=HRs.out.lt;have HZz:=hJ (((HRs.out.set 0 (.string ⟨#[]⟩)).set 1 (.string ⟨#[]⟩)).set 2 (.slice none 0 0));have s0:=HZz.out.cell 0 _ rfl;have s1:=HZz.out.cell 1 _ rfl;have s2:=HZz.out.cell 2 _ rfl
          go_upto_region 15 with fail
          (try simp only []);repeat (first | go_values | go_skip | go_guarded | go_step | go_upon)
          refine bodyPost_ret (v:=.tuple #[.agg #[.string ⟨#[]⟩,.string ⟨#[]⟩,.slice none 0 0],.int .i64 6]) (by simp [results,results37,go_sem,s0,s1,s2,hl0]) rfl ?_;have HFr:Hid (∀ W,RTyp.rd (fun k=>w.heap.size≤k) W [.string ⟨#[]⟩,.string ⟨#[]⟩,.slice none 0 0] (optT res)):=hJ (fun W=>by rw [HF.out];exact ⟨_,rfl,none,0,rfl,Sl.empty RLin _ _⟩);exact ⟨⟨_,by rw [HF.out];rfl,HFr.out _⟩,((HBl.out.setCell (Nat.le_refl _) _).setCell (Nat.le_refl _) _).setCell (Nat.le_refl _) _⟩
        | true =>
          have HVe:Hid (kCF (kAD t)=0):=hJ (by rw [hv];rfl);have HPe:Hid (kBQ t=kAQ t):=hJ (by unfold kBQ;rw [if_pos hv]);rw [HVe.out,HPe.out] at HCv;rw [hv] at HR3;generalize kAQ t=o at *
          go_wp2_with fail
          refine (HCv.out).mono ?_;rintro e w2 ⟨rfl,hb⟩;have HB2:=hJ hb;replace v0:=(hb.cell (by show w.heap.size+1<_;omega)).trans v0;replace v1:=(hb.cell (by show w.heap.size+1<_;omega)).trans v1;replace v2:=(hb.cell (by show w.heap.size+1<_;omega)).trans v2;replace HRs:=hJ (HRs.out.below HB2.out HRs.out.lt);replace HBl:=hJ (HBl.out.trans (HB2.out.mono HBl.out.size));cases ho:(o.toList==s.toList) with
          | false =>
            have HF:Hid (res=none):=hJ (by rw [HR3.out,ho];rfl);have z0:=HRs.out.cell 0 _ rfl;have z1:=HRs.out.cell 1 _ rfl;have z2:=HRs.out.cell 2 _ rfl;have f0:=HRs.out.fz 0;have f1:=HRs.out.fz 1;have f2:=HRs.out.fz 2;have hl0:=HRs.out.lt;have HZz:=hJ (((HRs.out.set 0 (.string ⟨#[]⟩)).set 1 (.string ⟨#[]⟩)).set 2 (.slice none 0 0));have s0:=HZz.out.cell 0 _ rfl;have s1:=HZz.out.cell 1 _ rfl;have s2:=HZz.out.cell 2 _ rfl
            go_upto_region 15 with fail
            (try simp only []);repeat (first | go_values | go_skip | go_guarded | go_step | go_upon)
            refine bodyPost_ret (v:=.tuple #[.agg #[.string ⟨#[]⟩,.string ⟨#[]⟩,.slice none 0 0],.int .i64 6]) (by simp [results,results37,go_sem,s0,s1,s2,hl0]) rfl ?_;have HFr:Hid (∀ W,RTyp.rd (fun k=>w.heap.size≤k) W [.string ⟨#[]⟩,.string ⟨#[]⟩,.slice none 0 0] (optT res)):=hJ (fun W=>by rw [HF.out];exact ⟨_,rfl,none,0,rfl,Sl.empty RLin _ _⟩);exact ⟨⟨_,by rw [HF.out];rfl,HFr.out _⟩,((HBl.out.setCell (Nat.le_refl _) _).setCell (Nat.le_refl _) _).setCell (Nat.le_refl _) _⟩
          | true =>
            have HF:Hid (res=some t):=hJ (by rw [HR3.out,ho];rfl);have z0:=HRs.out.cell 0 _ rfl;have z1:=HRs.out.cell 1 _ rfl;have z2:=HRs.out.cell 2 _ rfl;have f0:=HRs.out.fz 0;have f1:=HRs.out.fz 1;have f2:=HRs.out.fz 2;have hl0:=HRs.out.lt
            go_upto_region 16 with fail
            (try simp only []);repeat (first | go_values | go_skip | go_guarded | go_step | go_upon)
            have HZz:=hJ (((HRs.out.set 0 (.string y)).set 1 (.string ry)).set 2 (.slice va vm vc));have s0:=HZz.out.cell 0 _ rfl;have s1:=HZz.out.cell 1 _ rfl;have s2:=HZz.out.cell 2 _ rfl;refine bodyPost_ret (v:=.tuple #[.agg #[.string y,.string ry,.slice va vm vc],.int .i64 0]) (by simp [results,results37,go_sem,s0,s1,s2,hl0]) rfl ?_;exact ⟨⟨_,by rw [HF.out];rfl,by rw [HF.out];exact RTyp.mono (RTyp.frame (RTyp.frame (RTyp.frame (RTyp.below HRd.out HB2.out) (fun q hq _=>kAB (a:=⟨w.heap.size,0,none⟩) (by show w.heap.size≠q;omega))) (fun q hq _=>kAB (a:=⟨w.heap.size,1,none⟩) (by show w.heap.size≠q;omega))) (fun q hq _=>kAB (a:=⟨w.heap.size,2,none⟩) (by show w.heap.size≠q;omega))) (fun q hq _=>by show w.heap.size≤q;omega)⟩,((HBl.out.setCell (Nat.le_refl _) _).setCell (Nat.le_refl _) _).setCell (Nat.le_refl _) _⟩
theorem kG5 {α :Type} {p: α →Bool} {l:List α} (h:(!l.any (fun x=> !p x))=true):∀ x ∈ l,p x=true:=by
 intro x hx;cases hp:p x with
 | true=>rfl
 | false =>
   have:l.any (fun x=> !p x)=true:=List.any_eq_true.2 ⟨x,hx,by rw [hp];rfl⟩;rw [this] at h;cases h
theorem few_lin {x:Lin} (h:kGJ x=true):szL x:=by
 unfold kGJ at h;rw [Bool.and_eq_true] at h;intro t ht;have:=kG5 h.1 t ht;unfold fewC at this;have:=of_decide_eq_true this;omega
theorem few_shp {s:Shp} (h:kFN s=true):szH s∧s.dims.length≤8:=by
 unfold kFN at h;rw [Bool.and_eq_true,Bool.and_eq_true,decide_eq_true_eq,decide_eq_true_eq] at h;exact ⟨⟨by omega,fun x hx=>few_lin (kG5 h.1 x hx)⟩,h.2.1⟩
theorem few_typ {t:Typ} (h:kDW t=true):szT t:=by
 unfold kDW at h;rw [Bool.and_eq_true,decide_eq_true_eq] at h;exact ⟨by omega,(few_shp h.2).1⟩
theorem few_sch {s:Sch} (h:kFO s=true) (hw:∀ y ∈ s.wh,szL y):szS s∧s.params.length≤13∧(kAI s=true→s.wh.length≤8):=by
 unfold kFO at h;rw [Bool.and_eq_true,Bool.and_eq_true,Bool.and_eq_true,Bool.or_eq_true,decide_eq_true_eq,decide_eq_true_eq,beq_iff_eq] at h;obtain ⟨h1,h2,h3,h4⟩:=h;have ha:=kG5 h1;refine ⟨⟨fun t ht=>few_typ (ha t ?_),few_typ (ha _ ?_),hw⟩,h3,fun hv=>?_⟩
 · unfold allT;exact List.mem_append_left _ ht
 · unfold allT;exact List.mem_append_right _ (List.mem_singleton.2 rfl)
 · have:=(kAY hv).2.1
   omega
theorem E6.size (e:E6):e.cs.length=6:=rfl
theorem pick6:∀ (l:List Ent) (P:Nat→E6→Prop),(∀ i x,l[i]? =some x→∃ e:E6,e.x=x∧P i e)→∃ zs:List E6,zs.map E6.x=l∧∀ i e,zs[i]? =some e→P i e
 | [],P,_=>⟨[],rfl,fun i e h=>by simp at h⟩
 | x :: l,P,h=>by
   obtain ⟨e0,he0,hp0⟩:=h 0 x rfl;obtain ⟨zs,hz,hp⟩:=pick6 l (fun i e=>P (i+1) e) (fun i y hy=>h (i+1) y (by simpa using hy));refine ⟨e0 :: zs,by rw [List.map_cons,he0,hz],fun i e hi=>?_⟩;cases i with
   | zero=>simp at hi;subst hi;exact hp0
   | succ i=>exact hp i e (by simpa using hi)
def Fit (w:World) (a:Option Addr):Prop:=∀ ad,a=some ad→∃ b off,ad=⟨b,off,none⟩∧b<w.heap.size
theorem Fit.below {w w':World} {a:Option Addr} (h:Fit w a) (hs:w.heap.size≤w'.heap.size):Fit w' a:=fun ad e=>by
 obtain ⟨b,off,e',hb⟩:=h ad e;exact ⟨b,off,e',by omega⟩
theorem Sl.e6 {S:Blk} {w:World} {a:Option Addr} {n c:Nat} {l:List Ent} (h:Sl REnt S w a n c l) (hf:Fit w a):∃ zs:List E6,zs.map E6.x=l∧Hold6 w.heap.size w (.slice a n c) zs∧∀ z ∈ zs,REnt.rd S w z.cs z.x:=by
 obtain ⟨zs,hz,hp⟩:=pick6 l (fun i e=>REnt.rd S w e.cs e.x∧∃ b off,a=some ⟨b,off,none⟩∧∀ j u,e.cs[j]? =some u→w.cell? ⟨b,off+(i * 6+j),none⟩=some u) (fun i x hx=>by
  obtain ⟨b,off,cs,ha,_,hr,hc⟩:=h.at_ i x hx;obtain ⟨e,he,rfl⟩:=E6.of hr;exact ⟨e,he,by rw [he];exact hr,b,off,ha,hc⟩)
 have hl:zs.length=n:=by rw [← h.len,← hz,List.length_map]
 refine ⟨zs,hz,?_,fun z hz'=>?_⟩
 · cases a with
   | none =>
     have h0:=h.nil rfl;have h1:=h.cap;subst h0;obtain rfl:n=0:=by omega
     exact .inl ⟨rfl,List.eq_nil_of_length_eq_zero hl⟩
   | some ad =>
     obtain ⟨b,off,rfl,hb⟩:=hf ad rfl;refine .inr ⟨b,off,c,by rw [hl],hb,fun j x hx i u hu=>?_⟩;obtain ⟨_,b',off',e',hc⟩:=hp j x hx;cases e';exact hc i u hu
 · obtain ⟨i,hi,rfl⟩:=List.getElem_of_mem hz'
   exact (hp i _ (List.getElem?_eq_getElem hi)).1
theorem Hold6.lift {n₀ n₁ :Nat} {A:World} (h:n₀ ≤n₁) {sv:Value} {zs:List E6}:Hold6 n₀ A sv zs→Hold6 n₁ A sv zs
 | .inl e=>.inl e
 | .inr ⟨b,off,cap,e,hb,hc⟩=>.inr ⟨b,off,cap,e,by omega,hc⟩
theorem eqList_len {α :Type} [Inhabited α] {p: α → α →Bool} {l l2:List α} (h:l.length≠l2.length):kA0 p l l2=false:=by
 unfold kA0;rw [show (l.length==l2.length)=false from beq_eq_false_iff_ne.2 h];rfl
theorem eqList_bad {α :Type} [Inhabited α] {p: α → α →Bool} {l l2:List α} {k:Nat} (hk:k<l.length) (h:p (l.getD k default) (l2.getD k default)=false):kA0 p l l2=false:=by
 unfold kA0;rw [kIJ hk h,Bool.and_false]
theorem eqList_good {α :Type} [Inhabited α] {p: α → α →Bool} {l l2:List α} (hl:l.length=l2.length) (h:∀ j,j<l.length→p (l.getD j default) (l2.getD j default)=true):kA0 p l l2=true:=by
 unfold kA0;rw [show (l.length==l2.length)=true from beq_iff_eq.2 hl,kEA h];rfl
theorem allT_len (x:Sch):(allT x).length=x.params.length+1:=by unfold allT;rw [List.length_append];rfl
theorem eqSch_all (x y:Sch):eqSch x y=(kA0 kEM (allT x) (allT y) && kA0 kCY x.wh y.wh):=by
 rw [Bool.eq_iff_iff,kJ7,Bool.and_eq_true,kE2 _ kHX,kE2 _ kGK];unfold allT
 constructor
 · rintro rfl;exact ⟨rfl,rfl⟩
 · rintro ⟨h1,h2⟩
   have:=List.append_inj' h1 rfl;cases x;cases y
   simp_all
theorem kD3 {S T:Blk} {x y:Sch} {cs ds:List Value} {w:World} (h:RSch.rd S w cs x) (h2:RSch.rd T w ds y) (hnx:x.params.length≤1000000) (hny:y.params.length≤1000000) :
 Calls Tryz.prog 16 #[.agg cs.toArray,.agg ds.toArray] w fun e w'=>e= .returned (.bool (eqSch x y))∧Below w.heap.size w w':=by
 have HCX:Hid (∀ W,Below w.heap.size w W→Calls Tryz.prog 41 #[.agg cs.toArray] W fun e w'=>(∃ v,e= .returned v∧Own RTyp 26 S w' W.heap.size v (allT x))∧Below W.heap.size W w') :=
  hJ (fun W hW=>kHL (RSch.below h hW) hnx)
 have HCY:Hid (∀ W,Below w.heap.size w W→Calls Tryz.prog 41 #[.agg ds.toArray] W fun e w'=>(∃ v,e= .returned v∧Own RTyp 26 T w' W.heap.size v (allT y))∧Below W.heap.size W w') :=
  hJ (fun W hW=>kHL (RSch.below h2 hW) hny)
 obtain ⟨_,_,_,rfl,⟨ap,cp,rfl,hp⟩,⟨at_,ct,rfl,ht⟩,⟨aq,cq,rfl,hq⟩⟩:=h;obtain ⟨_,_,_,rfl,⟨ap2,cp2,rfl,hp2⟩,⟨at2,ct2,rfl,ht2⟩,⟨aq2,cq2,rfl,hq2⟩⟩:=h2;have HQ0:=hJ hq;have HQ20:=hJ hq2;have hm:=hq.small;have hm2:=hq2.small;clear hp ht hq hp2 ht2 hq2;have HN:=hJ (eqSch_all x y);have HAX:=hJ (allT_len x);have HAY:=hJ (allT_len y);generalize hn1:x.params.length=n at *;generalize hn2:y.params.length=n2 at *;generalize hl1:x.wh.length=m at *;generalize hl2:y.wh.length=m2 at *;have HL1:=hJ hl1;have HL2:=hJ hl2;clear hn1 hn2 hl1 hl2;by_cases hd:n=n2
 case neg =>
  obtain ⟨B0,ya,yb,hW0⟩:=box2 w 29 [.slice ap n cp,.string x.result.elem,.string x.result.shape.row,.slice at_ x.result.shape.dims.length ct,.slice aq m cq] 29 [.slice ap2 n2 cp2,.string y.result.elem,.string y.result.shape.row,.slice at2 y.result.shape.dims.length ct2,.slice aq2 m2 cq2];have xa0:=box0 ya 0 _ rfl;have xa1:=box0 ya 1 _ rfl;have xa2:=box0 ya 2 _ rfl;have xa3:=box0 ya 3 _ rfl;have xa4:=box0 ya 4 _ rfl;have xb0:=box0 yb 0 _ rfl;have xb1:=box0 yb 1 _ rfl;have xb2:=box0 yb 2 _ rfl;have xb3:=box0 yb 3 _ rfl;have xb4:=box0 yb 4 _ rfl;clear ya yb;have q1:((n:Int) != (n2:Int))=true:=bne_iff_ne.2 (by omega);have HF:Hid (eqSch x y=false):=hJ (by rw [HN.out,eqList_len (by rw [HAX.out,HAY.out];omega)];rfl);go_enter func16,ntmps16
  go_wp2_with fail
  go_ret;exact ⟨by rw [HF.out];rfl,B0.out⟩
 subst hd;by_cases hd2:m=m2
 case neg =>
  obtain ⟨B0,ya,yb,hW0⟩:=box2 w 29 [.slice ap n cp,.string x.result.elem,.string x.result.shape.row,.slice at_ x.result.shape.dims.length ct,.slice aq m cq] 29 [.slice ap2 n cp2,.string y.result.elem,.string y.result.shape.row,.slice at2 y.result.shape.dims.length ct2,.slice aq2 m2 cq2];have xa0:=box0 ya 0 _ rfl;have xa1:=box0 ya 1 _ rfl;have xa2:=box0 ya 2 _ rfl;have xa3:=box0 ya 3 _ rfl;have xa4:=box0 ya 4 _ rfl;have xb0:=box0 yb 0 _ rfl;have xb1:=box0 yb 1 _ rfl;have xb2:=box0 yb 2 _ rfl;have xb3:=box0 yb 3 _ rfl;have xb4:=box0 yb 4 _ rfl;clear ya yb;have q1:((n:Int) != (n:Int))=false:=by simp
  have q2:((m:Int) != (m2:Int))=true:=bne_iff_ne.2 (by omega);have HF:Hid (eqSch x y=false):=hJ (by rw [HN.out,eqList_len (p:=kCY) (by rw [HL1.out,HL2.out];exact hd2),Bool.and_false]);go_enter func16,ntmps16
  go_wp2_with fail
  go_ret;exact ⟨by rw [HF.out];rfl,B0.out⟩
 subst hd2;obtain ⟨B0,ya,yb,hW0⟩:=box2 w 29 [.slice ap n cp,.string x.result.elem,.string x.result.shape.row,.slice at_ x.result.shape.dims.length ct,.slice aq m cq] 29 [.slice ap2 n cp2,.string y.result.elem,.string y.result.shape.row,.slice at2 y.result.shape.dims.length ct2,.slice aq2 m cq2];have xa0:=box0 ya 0 _ rfl;have xa1:=box0 ya 1 _ rfl;have xa2:=box0 ya 2 _ rfl;have xa3:=box0 ya 3 _ rfl;have xa4:=box0 ya 4 _ rfl;have xb0:=box0 yb 0 _ rfl;have xb1:=box0 yb 1 _ rfl;have xb2:=box0 yb 2 _ rfl;have xb3:=box0 yb 3 _ rfl;have xb4:=box0 yb 4 _ rfl;clear ya yb;have q1:((n:Int) != (n:Int))=false:=by simp
 have q2:((m:Int) != (m:Int))=false:=by simp
 go_enter func16,ntmps16
 go_wp2_with fail
 generalize ((w.alloc (.cells #[.slice ap n cp,.string x.result.elem,.string x.result.shape.row,.slice at_ x.result.shape.dims.length ct,.slice aq m cq] 29)).alloc (.cells #[.slice ap2 n cp2,.string y.result.elem,.string y.result.shape.row,.slice at2 y.result.shape.dims.length ct2,.slice aq2 m cq2] 29))=W at *
 have HCX:Hid (∀ W',Below W.heap.size W W'→Calls Tryz.prog 41 #[.agg #[.slice ap n cp,.string x.result.elem,.string x.result.shape.row,.slice at_ x.result.shape.dims.length ct,.slice aq m cq]] W' fun e w'=>(∃ a c,e= .returned (.slice a (allT x).length c)∧Sl RTyp All w' a (allT x).length c (allT x))∧Below W.heap.size W w'∧Below W'.heap.size W' w') :=
  hJ (fun W' hW'=>(HCX.out W' (B0.out.trans (hW'.mono B0.out.size))).mono fun e w' ⟨⟨v,he,ho⟩,hb⟩=>by
   obtain ⟨a,c,rfl,hs⟩:=ho.sl;exact ⟨⟨a,c,he,hs.all⟩,hW'.trans (hb.mono hW'.size),hb⟩)
 have HCY:Hid (∀ W',Below W.heap.size W W'→Calls Tryz.prog 41 #[.agg #[.slice ap2 n cp2,.string y.result.elem,.string y.result.shape.row,.slice at2 y.result.shape.dims.length ct2,.slice aq2 m cq2]] W' fun e w'=>(∃ a c,e= .returned (.slice a (allT y).length c)∧Sl RTyp All w' a (allT y).length c (allT y))∧Below W.heap.size W w'∧Below W'.heap.size W' w') :=
  hJ (fun W' hW'=>(HCY.out W' (B0.out.trans (hW'.mono B0.out.size))).mono fun e w' ⟨⟨v,he,ho⟩,hb⟩=>by
   obtain ⟨a,c,rfl,hs⟩:=ho.sl;exact ⟨⟨a,c,he,hs.all⟩,hW'.trans (hb.mono hW'.size),hb⟩)
 obtain ⟨N,hN⟩:∃ N,N=n+1:=⟨_,rfl⟩
 rw [HAX.out,← hN] at HCX;rw [HAY.out,← hN] at HCY;have hN2:N≤9223372036854775807:=by omega
 have HQ:=hJ (HQ0.out.below B0.out);have HQ2:=hJ (HQ20.out.below B0.out)
 go_region_with (first
  | (go_at_call_of 41 (Value.slice ap n cp)
     refine (HCX.out _ ?hw).mono ?_
     case hw=>(repeat (first | assumption | exact Below.refl _ _ | exact Hid.out (by assumption) | refine kHZ ?_ _ | refine kKL ?_))
     rintro e w1 ⟨⟨ax,cx,rfl,hslx⟩,hbx,hbx2⟩;have r0:=kAE xb0 _ hbx;have r1:=kAE xb1 _ hbx;have r2:=kAE xb2 _ hbx;have r3:=kAE xb3 _ hbx;have r4:=kAE xb4 _ hbx)
  | (go_at_call_of 41 (Value.slice ap2 n cp2)
     refine (HCY.out _ ?hw).mono ?_
     case hw=>(repeat (first | assumption | exact Below.refl _ _ | exact Hid.out (by assumption) | refine kHZ ?_ _ | refine kKL ?_))
     rintro e w2 ⟨⟨ay,cy,rfl,hsly⟩,hby,hby2⟩;have r0:=kAE xa0 _ hby;have r1:=kAE xa1 _ hby;have r2:=kAE xa2 _ hby;have r3:=kAE xa3 _ hby;have r4:=kAE xa4 _ hby))
 all_goals
  have HSX:=hJ (hslx.below hby2);have HSY:=hJ hsly;have HLX:Hid ((allT x).length=N):=hJ (by rw [HAX.out,hN]);have HLY:Hid ((allT y).length=N):=hJ (by rw [HAY.out,hN]);have g4:=kAE xa4 _ hby;have k4:=kAE xb4 _ hby;have HW2:=hJ hby;have HQ2:=hJ (HQ2.out.below hby);have HQ:=hJ (HQ.out.below hby);clear hslx hsly hbx hbx2 hby hby2 r0 r1 r2 r3 r4 xa0 xa1 xa2 xa3 xa4 xb0 xb1 xb2 xb3 xb4 HCX HCY
  go_wp2_with fail
  go_loopw [7] (fun i wr=>∃ k:Nat,k≤N∧i= .int .i64 k∧Hid (∀ j,j<k→kEM ((allT x).getD j default) ((allT y).getD j default)=true)∧Below w2.heap.size w2 wr) (fun i _=>N - (intOf i).toNat)
  case atStart=>exact ⟨0,Nat.zero_le _,rfl,fun j hj=>absurd hj (by omega),Below.refl _ _⟩
  case round =>
   obtain ⟨k,hk,rfl,HT,hB⟩:=hrel;by_cases hlt:k<N
   · obtain ⟨b,off,rfl,hbW,_⟩:=HSX.out.form k hlt
     obtain ⟨b2,off2,rfl,hbW2,_⟩:=HSY.out.form k hlt;obtain ⟨t,hr,hd,c0,c1,c2⟩:=(HSX.out.below hB).typ k hlt;obtain ⟨t2,hr2,hd2,d0,d1,d2⟩:=(HSY.out.below hB).typ k hlt;have HC:=hJ (fun t9:Later wr=>kGV (RTyp.below hr t9.b) (RTyp.below hr2 t9.b));have c0:=Later.cell c0;have c1:=Later.cell c1;have c2:=Later.cell c2;have d0:=Later.cell d0;have d1:=Later.cell d1;have d2:=Later.cell d2;have HBad:=hJ (fun q=>eqList_bad (p:=kEM) (l:=allT x) (l2:=allT y) (k:=k) (by rw [HLX.out];exact hlt) q);have HGo:=hJ (fun q=>upto HT.out (p:=fun j=>kEM ((allT x).getD j default) ((allT y).getD j default)=true) q);clear hr hr2 hd hd2;generalize (allT x).getD k default=u at *;generalize (allT y).getD k default=u2 at *;generalize kEM u u2=q at *;cases q with
     | true =>
       replace HGo:=hJ (HGo.out rfl)
       go_wp2_with fail
       refine kAA (by kernel_rfl) (by kernel_rfl) ?_
       repeat (go_big_quiet_step (first | fail | exact Later.call (HC.out _)))
       refine wpQuiet_nil ?_;rintro _ ⟨t9,rfl⟩
       go_wp2_with fail
       go_roundw
       case rel=>exact ⟨k+1,by omega,by go_num,HGo,hB.trans (t9.b.mono hB.size)⟩
       case measure=>simp [intOf];omega
     | false =>
       have HF:Hid (eqSch x y=false):=hJ (by rw [HN.out,HBad.out rfl];rfl)
       go_wp2_with fail
       refine kAA (by kernel_rfl) (by kernel_rfl) ?_
       repeat (go_big_quiet_step (first | fail | exact Later.call (HC.out _)))
       refine wpQuiet_nil ?_;rintro _ ⟨t9,rfl⟩
       go_wp2_with fail
       go_ret;exact ⟨by rw [HF.out];rfl,B0.out.trans ((HW2.out.trans ((hB.trans (t9.b.mono hB.size)).mono HW2.out.size)).mono B0.out.size)⟩
   · have HA:Hid (kA0 kEM (allT x) (allT y)=true):=hJ (eqList_good (by rw [HLX.out,HLY.out]) (fun j hj=>HT.out j (by rw [HLX.out] at hj;omega)))
     have HN2:Hid (eqSch x y=kA0 kCY x.wh y.wh):=hJ (by rw [HN.out,HA.out];rfl);have hW3:=HW2.out.trans (hB.mono HW2.out.size);have g5:=kAE g4 _ hB;have k5:=kAE k4 _ hB;have HW3:=hJ hB;clear hW3 hB
     go_wp2_with fail
     go_loopw [8] (fun i wr=>∃ k:Nat,k≤m∧i= .int .i64 k∧Hid (∀ j,j<k→kCY (x.wh.getD j default) (y.wh.getD j default)=true)∧Below w2.heap.size w2 wr) (fun i _=>m - (intOf i).toNat)
     case atStart=>exact ⟨0,Nat.zero_le _,rfl,fun j hj=>absurd hj (by omega),HW3.out⟩
     case round =>
      obtain ⟨k,hk,rfl,HT,hB⟩:=hrel;have g6:=kAE g4 _ hB;have k6:=kAE k4 _ hB;by_cases hlt:k<m
      · obtain ⟨b,off,rfl,hbW,_⟩:=HQ.out.form k hlt
        obtain ⟨b2,off2,rfl,hbW2,_⟩:=HQ2.out.form k hlt;obtain ⟨t,hr,hd,c0,c1⟩:=(HQ.out.below hB).lin k hlt;obtain ⟨t2,hr2,hd2,d0,d1⟩:=(HQ2.out.below hB).lin k hlt;have HC:=hJ (fun t9:Later wr=>ref04_Equal (RLin.below hr t9.b) (RLin.below hr2 t9.b));have g7:=Later.cell g6;have k7:=Later.cell k6;have c0:=Later.cell c0;have c1:=Later.cell c1;have d0:=Later.cell d0;have d1:=Later.cell d1;have HBad:=hJ (fun q=>eqList_bad (p:=kCY) (l:=x.wh) (l2:=y.wh) (k:=k) (by rw [HL1.out];exact hlt) q);have HGo:=hJ (fun q=>upto HT.out (p:=fun j=>kCY (x.wh.getD j default) (y.wh.getD j default)=true) q);clear hr hr2 hd hd2;generalize x.wh.getD k default=u at *;generalize y.wh.getD k default=u2 at *;generalize kCY u u2=q at *;cases q with
        | true =>
          replace HGo:=hJ (HGo.out rfl)
          go_wp2_with fail
          refine kAA (by kernel_rfl) (by kernel_rfl) ?_
          repeat (go_big_quiet_step (first | fail | exact Later.call (HC.out _)))
          refine wpQuiet_nil ?_;rintro _ ⟨t9,rfl⟩
          go_wp2_with fail
          go_roundw
          case rel=>exact ⟨k+1,by omega,by go_num,HGo,hB.trans (t9.b.mono hB.size)⟩
          case measure=>simp [intOf];omega
        | false =>
          have HF:Hid (eqSch x y=false):=hJ (by rw [HN2.out,HBad.out rfl])
          go_wp2_with fail
          refine kAA (by kernel_rfl) (by kernel_rfl) ?_
          repeat (go_big_quiet_step (first | fail | exact Later.call (HC.out _)))
          refine wpQuiet_nil ?_;rintro _ ⟨t9,rfl⟩
          go_wp2_with fail
          go_ret;exact ⟨by rw [HF.out];rfl,B0.out.trans ((HW2.out.trans ((hB.trans (t9.b.mono hB.size)).mono HW2.out.size)).mono B0.out.size)⟩
      · have HF:Hid (eqSch x y=true):=hJ (by rw [HN2.out];exact eqList_good (by rw [HL1.out,HL2.out]) (fun j hj=>HT.out j (by rw [HL1.out] at hj;omega)))
        go_wp2_with fail
        go_ret;exact ⟨by rw [HF.out];rfl,B0.out.trans ((HW2.out.trans (hB.mono HW2.out.size)).mono B0.out.size)⟩
theorem Own.fit {α :Type} {R:Rep α} {E:TypeId} {S:Blk} {w:World} {base:Nat} {a:Option Addr} {n c:Nat} {l:List α} (h:Own R E S w base (.slice a n c) l):Fit w a:=fun ad e=>by
 subst e;obtain ⟨css,_,hrow,_⟩:=h.row;obtain ⟨a2,c2,hv,_,_,_,hg⟩:=kEI hrow;rw [Value.slice.injEq] at hv;obtain ⟨rfl,-,rfl⟩:=hv;obtain ⟨g,e,_,hg2⟩:=hg ad rfl;exact ⟨g,0,e,hg2⟩
theorem Own.ready {E:TypeId} {L B:Nat} {w:World} {v:Value} {l:List Ent} (h:Own REnt E (fun k=>k<L) w B v l):∃ a c,v= .slice a l.length c∧Sl REnt (fun k=>(k<L∨B≤k)∧k<w.heap.size) w a l.length c l∧Fit w a:=by
 obtain ⟨a,c,rfl,hs,hat⟩:=h.slAt;exact ⟨a,c,rfl,hs.mono (fun k hk hlt=>⟨hk.elim .inl (fun q=>.inr (hat k q).1),hlt⟩),h.fit⟩
theorem put2 {S:Blk} {W0 w1:World} {g B:Nat} {T:TypeId} {z0 z1:Value} (v0 v1:Value) {a:Option Addr} {n c:Nat} {l:List Ent} (hb:Bx W0 g T [z0,z1]) (hr:Sl REnt S W0 a n c l) (hS:∀ k,S k→k<W0.heap.size→k≠g) (hB:Below B w1 W0) (hg:B≤g) :
 Hid (Bx ((W0.setCell ⟨g,0,none⟩ v0).setCell ⟨g,1,none⟩ v1) g T [v0,v1])∧Hid (Sl REnt All ((W0.setCell ⟨g,0,none⟩ v0).setCell ⟨g,1,none⟩ v1) a n c l)∧Hid (Below B w1 ((W0.setCell ⟨g,0,none⟩ v0).setCell ⟨g,1,none⟩ v1)) :=
 ⟨hJ ((hb.set 0 v0).set 1 v1),hJ ((hr.frame (fun k hk hlt=>(kAB (fun e=>hS k hk hlt e.symm)).trans (kAB (fun e=>hS k hk hlt e.symm)))).all),hJ ((hB.setCell hg _).setCell hg _)⟩
open Go.RowKit Go.ChangeShapes Go.WideShapes Go.Deep
section
variable {H:Type} {enc:TypeId × Value→H} {w:World} {base:Nat} {spare:Nat→Bool} {held:Bool}
theorem bulk_part {d:DataW H} {l:List (DataW H)} (h:d ∈ l):Rows.uptoBulk d≤Rows.uptoBulkAll l:=by
 induction l with
 | nil=>cases h
 | cons x r ih =>
   simp only [Rows.uptoBulkAll];cases List.mem_cons.1 h with
   | inl e=>subst e;omega
   | inr e=>have:=ih e;omega
theorem bulk_two:∀ (l:List (DataW H)),(∀ d ∈ l,2≤Rows.uptoBulk d)→l.length * 2≤Rows.uptoBulkAll l
 | [],_=>Nat.zero_le _
 | d :: l,h=>by
   have h1:=h d (List.mem_cons_self ..);have h2:=bulk_two l (fun x hx=>h x (List.mem_cons_of_mem _ hx));simp only [Rows.uptoBulkAll,List.length_cons];omega
theorem bulk_slice (elems spare:List (DataW H)):Rows.uptoBulkAll elems≤Rows.uptoBulk (.slice elems spare):=by simp only [Rows.uptoBulk];omega
theorem bulk_agg (parts:List (DataW H)):Rows.uptoBulkAll parts≤Rows.uptoBulk (.agg parts):=by simp only [Rows.uptoBulk];omega
theorem pickL {α :Type} [Inhabited α]:∀ (n:Nat) (P:Nat→ α →Prop),(∀ i,i<n→∃ y,P i y)→∃ l:List α,l.length=n∧∀ i y,l[i]? =some y→P i y
 | 0,P,_=>⟨[],rfl,fun i y h=>by simp at h⟩
 | n+1,P,h=>by
   obtain ⟨y0,h0⟩:=h 0 (by omega);obtain ⟨l,hl,hp⟩:=pickL n (fun i y=>P (i+1) y) (fun i hi=>h (i+1) (by omega));refine ⟨y0 :: l,by rw [List.length_cons,hl],fun i y hy=>?_⟩;cases i with
   | zero=>simp at hy;subst hy;exact h0
   | succ i=>exact hp i y (by simpa using hy)
theorem open_sl {α :Type} [Inhabited α] {R:Rep α} {Good: α →Prop} {t e:TypeId} {fuel:Nat} {cs:List Value} {x:DataW H × List MemPlace} {B:Nat} (ht:Tryz.prog.underlying t=some (.slice e)) (hC:Tryz.prog.cellsOf e=R.size)
 (step:∀ (n:Nat) (cs':List Value) (z:DataW H × List MemPlace),DataW.trod enc Tryz.prog w base spare held n e cs'=some z→Rows.uptoBulk z.1≤B→(∃ y,R.rd All w cs' y∧Good y)∧2≤Rows.uptoBulk z.1)
 (h:DataW.trod enc Tryz.prog w base spare held fuel t cs=some x) (hB:Rows.uptoBulk x.1≤B) :
 ∃ (a:Option Addr) (n c:Nat) (l:List α),cs=[.slice a n c]∧Sl R All w a n c l∧(∀ y ∈ l,Good y)∧l.length * 2≤B:=by
 rcases open_slice ht h with ⟨rfl,rfl⟩ | ⟨a,len,cap,m,n,D,Pl,rfl,hb,hl,hm,hmm,rfl,hi⟩
 · exact ⟨none,0,0,[],rfl,Sl.empty _ _ _,fun y hy=>absurd hy (List.not_mem_nil),Nat.zero_le _⟩
 · have hle:len≤m:=by rw [hmm];split <;> omega
   have hbk:=bulk_slice ((List.range len).map D) ((List.range (m - len)).map fun j=>D (len+j));have hD:∀ i,i<len→Rows.uptoBulk (D i)≤B:=fun i hi'=>Nat.le_trans (bulk_part (List.mem_map.2 ⟨i,List.mem_range.2 hi',rfl⟩)) (Nat.le_trans hbk hB)
   rw [hC] at hi
   have hstep:∀ i,i<len→(∃ y cs',R.rd All w cs' y∧Good y∧∀ j u,cs'[j]? =some u→w.cell? (a.add (i * R.size+j))=some u)∧2≤Rows.uptoBulk (D i):=fun i hi'=>by
    obtain ⟨cs',hcs,htr⟩:=hi i (by omega);obtain ⟨⟨y,hy,hg⟩,h2⟩:=step n cs' _ htr (hD i hi');obtain ⟨_,hlen,hat⟩:=World.cells?_some hcs;refine ⟨⟨y,cs',hy,hg,fun j u hu=>?_⟩,h2⟩
    have hj:j<R.size:=by
     rcases Nat.lt_or_ge j cs'.length with q | q
     · omega
     · rw [List.getElem?_eq_none q] at hu;cases hu
    rw [← Go.Deep.add_add,hat j hj,hu]
   obtain ⟨l,hll,hp⟩:=pickL len (fun i y=>∃ cs',R.rd All w cs' y∧Good y∧∀ j u,cs'[j]? =some u→w.cell? (a.add (i * R.size+j))=some u) (fun i hi'=>(hstep i hi').1);refine ⟨some a,len,cap,l,rfl,⟨hll,hl,hm,by intro h;(cases h),fun i y hy=>?_⟩,fun y hy=>?_,?_⟩
   · obtain ⟨cs',hr,hg,hc⟩:=hp i y hy
     have hlt:i<len:=by
      rcases Nat.lt_or_ge i l.length with q | q
      · omega
      · rw [List.getElem?_eq_none q] at hy;cases hy
     obtain ⟨y0,cs0,hr0,_,hc0⟩:=(hstep 0 (by omega)).1;have hl0:=R.len hr0;have hpos:=R.pos;have h00:=hc0 0 _ (List.getElem?_eq_getElem (show 0<cs0.length by omega));rw [Nat.zero_mul,Nat.zero_add] at h00;obtain ⟨b,off,sp⟩:=a
     have hsp:sp=none:=by
      cases sp with
      | none=>rfl
      | some k =>
        have:w.cell? (Addr.add ⟨b,off,some k⟩ 0)=none:=by
         show w.cell? ⟨b,off,some k⟩=none
         unfold World.cell?;cases w.heap[b]? with
         | none=>rfl
         | some o=>cases o <;> rfl
        rw [this] at h00;cases h00
     subst hsp;exact ⟨b,off,cs',rfl,trivial,hr,fun j u hu=>by have:=hc j u hu;rwa [add_mk] at this⟩
   · obtain ⟨i,hi',rfl⟩:=List.getElem_of_mem hy
     obtain ⟨_,_,hg,_⟩:=hp i _ (List.getElem?_eq_getElem hi');exact hg
   · have h2:=bulk_two ((List.range len).map D) (fun d hd=>by
      obtain ⟨i,hi',rfl⟩:=List.mem_map.1 hd;exact (hstep i (List.mem_range.1 hi')).2)
     rw [List.length_map,List.length_range] at h2;have h3:=Nat.le_trans hbk hB;omega
def gC (B:Nat) (y:Coef):Prop:=y.v.size≤B
def gL (B:Nat) (y:Lin):Prop:=∀ t ∈ y.terms,gC B t
def gT (B:Nat) (y:Typ):Prop:=y.elem.size≤B∧y.shape.row.size≤B∧∀ d ∈ y.shape.dims,gL B d
def gS (B:Nat) (y:Sch):Prop:=(∀ t ∈ y.params,gT B t)∧gT B y.result∧(∀ d ∈ y.wh,gL B d)∧y.params.length * 2≤B
theorem bulk_str {s:Str}:Rows.uptoBulk (DataW.lit (H:=H) (.string s.data.toList))=s.size+1:=by
 simp [Rows.uptoBulk]
theorem open_coef {B n:Nat} {cs:List Value} {z:DataW H × List MemPlace} (h:DataW.trod enc Tryz.prog w base spare held n 77 cs=some z) (hB:Rows.uptoBulk z.1≤B):(∃ y,kBE.rd All w cs y∧gC B y)∧2≤Rows.uptoBulk z.1:=by
 obtain ⟨xs,m,rfl,rfl,hl,hx,hf⟩:=DataW.trod_struct underlying77 h;have h0:=hf 0 _ rfl;have h1:=hf 1 _ rfl
 obtain ⟨x0,x1,rfl⟩:∃ x0 x1,xs=[x0,x1]:=by
  match xs,hx with
  | [x0,x1],_=>exact ⟨x0,x1,rfl⟩
 obtain ⟨c0,c1,rfl⟩:∃ c0 c1,cs=[c0,c1]:=by
  have hl:cs.length=2:=hl.trans (by kernel_rfl)
  match cs,hl with
  | [c0,c1],_=>exact ⟨c0,c1,rfl⟩
 obtain ⟨s,e0,rfl,hs⟩:=DataW.trod_string underlying9 (show DataW.trod enc Tryz.prog w base spare held m 9 [c0]=some x0 from h0);obtain ⟨k,e1,rfl,hk⟩:=DataW.trod_int underlying3 (show DataW.trod enc Tryz.prog w base spare held m 3 [c1]=some x1 from h1);cases e0;cases e1;have hb:=bulk_agg ([(DataW.lit (.string s.data.toList):DataW H),.lit (.int .i64 k)])
 have hq:Rows.uptoBulkAll ([(DataW.lit (.string s.data.toList):DataW H),.lit (.int .i64 k)])=s.size+1+(1+0):=by
  simp only [Rows.uptoBulkAll,bulk_str];rfl
 have hB:Rows.uptoBulk (DataW.agg [(DataW.lit (.string s.data.toList):DataW H),.lit (.int .i64 k)])≤B:=hB;refine ⟨⟨⟨s,k⟩,rfl,by show s.size≤B;omega⟩,?_⟩
 show 2≤Rows.uptoBulk (DataW.agg [(DataW.lit (.string s.data.toList):DataW H),.lit (.int .i64 k)])
 omega
theorem bulk_pos (d:DataW H):1≤Rows.uptoBulk d:=by
 cases d with
 | lit l=>cases l <;> simp [Rows.uptoBulk]
 | nil=>simp [Rows.uptoBulk]
 | ptr d=>simp [Rows.uptoBulk]
 | slice elems spare=>simp [Rows.uptoBulk]
 | agg parts=>simp [Rows.uptoBulk]
 | iface t d=>simp [Rows.uptoBulk]
 | map entries=>simp [Rows.uptoBulk]
 | held h=>simp [Rows.uptoBulk]
theorem agg_two (d:DataW H) (l:List (DataW H)):2≤Rows.uptoBulk (.agg (d :: l)):=by
 have h:=bulk_pos d;simp only [Rows.uptoBulk,Rows.uptoBulkAll];omega
theorem kEB {d:DataW H} {l:List (DataW H)} {B:Nat} (h:Rows.uptoBulk (.agg l)≤B) (hd:d ∈ l):Rows.uptoBulk d≤B:=Nat.le_trans (bulk_part hd) (Nat.le_trans (bulk_agg l) h)
theorem open_str {B m:Nat} {c:Value} {x:DataW H × List MemPlace} (h:DataW.trod enc Tryz.prog w base spare held m 9 [c]=some x) (hB:Rows.uptoBulk x.1≤B):∃ s:Str,c= .string s∧s.size≤B:=by
 obtain ⟨s,e0,rfl,hs⟩:=DataW.trod_string underlying9 h;cases e0;have hB:Rows.uptoBulk (DataW.lit (H:=H) (.string s.data.toList))≤B:=hB;rw [bulk_str] at hB;exact ⟨s,rfl,by omega⟩
theorem two_of {α :Type} {l:List α} (h:l.length=2):∃ a b,l=[a,b]:=by
 match l,h with
 | [a,b],_=>exact ⟨a,b,rfl⟩
theorem three_of {α :Type} {l:List α} (h:l.length=3):∃ a b c,l=[a,b,c]:=by
 match l,h with
 | [a,b,c],_=>exact ⟨a,b,c,rfl⟩
theorem five_of {α :Type} {l:List α} (h:l.length=5):∃ a b c d e,l=[a,b,c,d,e]:=by
 match l,h with
 | [a,b,c,d,e],_=>exact ⟨a,b,c,d,e,rfl⟩
theorem open_lin {B n:Nat} {cs:List Value} {z:DataW H × List MemPlace} (h:DataW.trod enc Tryz.prog w base spare held n 45 cs=some z) (hB:Rows.uptoBulk z.1≤B):(∃ y,RLin.rd All w cs y∧gL B y)∧2≤Rows.uptoBulk z.1:=by
 obtain ⟨xs,m,rfl,rfl,hl,hx,hf⟩:=DataW.trod_struct underlying45 h;obtain ⟨x0,x1,rfl⟩:=two_of hx;obtain ⟨c0,c1,rfl⟩:=two_of (hl.trans (by kernel_rfl));have hB:Rows.uptoBulk (.agg [x0.1,x1.1])≤B:=hB;obtain ⟨k,e0,_,_⟩:=DataW.trod_int underlying3 (show DataW.trod enc Tryz.prog w base spare held m 3 [c0]=some x0 from hf 0 _ rfl);cases e0;obtain ⟨a,n,c,l,e1,hs,hg,_⟩:=open_sl (R:=kBE) (Good:=gC B) underlying43 (by kernel_rfl) (fun n cs' z h hb=>open_coef h hb) (show DataW.trod enc Tryz.prog w base spare held m 43 [c1]=some x1 from hf 1 _ rfl) (kEB hB (by simp));cases e1;obtain rfl:=hs.len;exact ⟨⟨⟨k,l⟩,⟨_,rfl,a,c,rfl,hs⟩,hg⟩,agg_two _ _⟩
theorem open_shp {B n:Nat} {cs:List Value} {z:DataW H × List MemPlace} (h:DataW.trod enc Tryz.prog w base spare held n 24 cs=some z) (hB:Rows.uptoBulk z.1≤B):∃ y:Shp,RShp.rd All w cs y∧y.row.size≤B∧∀ d ∈ y.dims,gL B d:=by
 obtain ⟨xs,m,rfl,rfl,hl,hx,hf⟩:=DataW.trod_struct underlying24 h;obtain ⟨x0,x1,rfl⟩:=two_of hx;obtain ⟨c0,c1,rfl⟩:=two_of (hl.trans (by kernel_rfl));have hB:Rows.uptoBulk (.agg [x0.1,x1.1])≤B:=hB;obtain ⟨s,rfl,hs0⟩:=open_str (show DataW.trod enc Tryz.prog w base spare held m 9 [c0]=some x0 from hf 0 _ rfl) (kEB hB (by simp));obtain ⟨a,n,c,l,e1,hs,hg,_⟩:=open_sl (R:=RLin) (Good:=gL B) underlying22 (by kernel_rfl) (fun n cs' z h hb=>open_lin h hb) (show DataW.trod enc Tryz.prog w base spare held m 22 [c1]=some x1 from hf 1 _ rfl) (kEB hB (by simp));cases e1;obtain rfl:=hs.len;exact ⟨⟨s,l⟩,⟨_,rfl,a,c,rfl,hs⟩,hs0,hg⟩
theorem kJX {B n:Nat} {cs:List Value} {z:DataW H × List MemPlace} (h:DataW.trod enc Tryz.prog w base spare held n 26 cs=some z) (hB:Rows.uptoBulk z.1≤B):(∃ y,RTyp.rd All w cs y∧gT B y)∧2≤Rows.uptoBulk z.1:=by
 obtain ⟨xs,m,rfl,rfl,hl,hx,hf⟩:=DataW.trod_struct underlying26 h;obtain ⟨x0,x1,rfl⟩:=two_of hx;obtain ⟨c0,c1,c2,rfl⟩:=three_of (hl.trans (by kernel_rfl));have hB:Rows.uptoBulk (.agg [x0.1,x1.1])≤B:=hB;obtain ⟨s,rfl,hs0⟩:=open_str (show DataW.trod enc Tryz.prog w base spare held m 9 [c0]=some x0 from hf 0 _ rfl) (kEB hB (by simp));have h1:=hf 1 _ rfl;obtain ⟨y,⟨t,e,ht⟩,hy1,hy2⟩:=open_shp (show DataW.trod enc Tryz.prog w base spare held m 24 [c1,c2]=some x1 from h1) (kEB hB (by simp));cases e;exact ⟨⟨⟨s,y⟩,⟨_,rfl,ht⟩,hs0,hy1,hy2⟩,agg_two _ _⟩
theorem open_sch {B n:Nat} {cs:List Value} {z:DataW H × List MemPlace} (h:DataW.trod enc Tryz.prog w base spare held n 29 cs=some z) (hB:Rows.uptoBulk z.1≤B):∃ y,RSch.rd All w cs y∧gS B y:=by
 obtain ⟨xs,m,rfl,rfl,hl,hx,hf⟩:=DataW.trod_struct underlying29 h;obtain ⟨x0,x1,x2,rfl⟩:=three_of hx;obtain ⟨c0,c1,c2,c3,c4,rfl⟩:=five_of (hl.trans (by kernel_rfl));have hB:Rows.uptoBulk (.agg [x0.1,x1.1,x2.1])≤B:=hB;obtain ⟨a,n,c,l,e1,hs,hg,hln⟩:=open_sl (R:=RTyp) (Good:=gT B) underlying27 (by kernel_rfl) (fun n cs' z h hb=>kJX h hb) (show DataW.trod enc Tryz.prog w base spare held m 27 [c0]=some x0 from hf 0 _ rfl) (kEB hB (by simp));cases e1;obtain rfl:=hs.len;have h1:=hf 1 _ rfl;obtain ⟨⟨y,⟨t,e,ht⟩,hy⟩,_⟩:=kJX (show DataW.trod enc Tryz.prog w base spare held m 26 [c1,c2,c3]=some x1 from h1) (kEB hB (by simp));cases e;obtain ⟨a2,n2,c5,l2,e2,hs2,hg2,_⟩:=open_sl (R:=RLin) (Good:=gL B) underlying22 (by kernel_rfl) (fun n cs' z h hb=>open_lin h hb) (show DataW.trod enc Tryz.prog w base spare held m 22 [c4]=some x2 from hf 2 _ rfl) (kEB hB (by simp));cases e2;obtain rfl:=hs2.len;exact ⟨⟨l,y,l2⟩,⟨_,_,_,rfl,⟨a,c,rfl,hs⟩,ht,⟨a2,c5,rfl,hs2⟩⟩,hg,hy,hg2,hln⟩
theorem gL_big {B:Nat} (hB:B≤2000000) {y:Lin} (h:gL B y):bigL y∧szL y:=⟨fun t ht=>Nat.le_trans (h t ht) (by omega),fun t ht=>Nat.le_trans (h t ht) hB⟩
end
open Go.ChangeShapes Go.WideShapes Go.ChangeAt
theorem kHU (P:Program) (f:FuncId) (fn:Func) (s:ChangeSpec) (c:OpenClaim) (h0:((c.inPlace==P.inPlace f))=true) (h1:((c.unfollowed==P.unfollowed f))=true) (h2:((c.recurses==P.recurses f))=true) (h3:((c.named==P.varsNamed f))=true) (h4:(laidOutB P)=true) (h5:((c.lifted==P.liftsFinal))=true) (h6:(mapsRowed P)=true)
 (hr:(c.wf (OpenSpec.ofChange s) && fn.params.all (P.readableRec ·) && namedTie P c.named s.vars && (c.stops==[]) && (P.stops==[]) && (c.knobs==[]) && (P.stopKnobs==[]) && (c.maps==(fn.params.toList++s.plain.varTypes P).any (P.mapsRec ·)) && (c.ifaces==(fn.params.toList++s.plain.varTypes P).any (P.ifacesRec ·)) && (c.mapsOut==P.mapsAmong fn.resultTypes.toList) && (c.loops==(fn.params.toList++s.plain.varTypes P).any (P.loopsFrom ·)) && (c.wideKeys==(fn.params.toList++s.plain.varTypes P++fn.resultTypes.toList).any (P.wideKeysFrom ·)) && s.vars.all (P.varReadable ·) && fn.resultTypes.all (fun t=>P.readableRec t && decide (t<P.types.size)) && (c.ifacesOut==fn.resultTypes.toList.any (P.ifacesRec ·)) && (c.loopsOut==fn.resultTypes.toList.any (P.loopsFrom ·)) && (c.plainKeys==P.plainKeys) && c.shortTexts.isNone && P.stopsHeard && P.mayEnter && (P.make==some c.make) && (c.kinds==(if c.domain.isEmpty then [] else fn.params.toList.map fun t=>match P.underlying t with | some (.int k)=>some k | _=>none)) && (c.pinned==c.pinnedBy) && (c.veiled==(fn.params.toList++s.plain.varTypes P++fn.resultTypes.toList).any (P.veiledRec ·)) && c.veiledFits P fn.params.toList (fn.params.toList++s.plain.varTypes P++fn.resultTypes.toList))=true):joinedFacts P f fn s c=true:=by
 simp only [Bool.and_eq_true] at hr;unfold joinedFacts;simp only [Bool.and_eq_true];simp only [hr,h0,h1,h2,h3,h4,h5,h6,and_self];exact ⟨⟨⟨⟨trivial,hr.1.1.1.2⟩,trivial⟩,trivial⟩,trivial⟩
theorem goes_none {P:Program} (h:P.funcs.any Func.goes=false) (f:FuncId):P.goes f=false:=by
 have one:∀ g:FuncId,(P.funcs[g]?).any Func.goes=false:=fun g=>by
  cases e:P.funcs[g]? with
  | none=>rfl
  | some fn =>
    obtain ⟨hg,e2⟩:=Array.getElem?_eq_some_iff.1 e
    show Func.goes fn=false
    rw [Bool.eq_false_iff];intro q;have:=Array.any_eq_false.1 h g hg;rw [e2] at this;exact this q
 unfold Program.goes;rw [h,Bool.and_false,Bool.or_false];rw [Bool.eq_false_iff];intro q;obtain ⟨g,_,hg⟩:=List.any_eq_true.1 q;rw [one g] at hg;cases hg
theorem kJA {c:OpenClaim} {P:Program} (hs:c.start= .entering) (h:P.funcs.any Func.goes=false):false=c.goesBy P:=by
 unfold OpenClaim.goesBy Program.goesAt Program.goesFrom;rw [hs,Bool.or_false];cases P.funcNamed c.func with
 | none=>rfl
 | some f=>exact (goes_none h f).symm
open Go.RowKit Go.ChangeShapes Go.WideShapes Go.Deep
theorem okWide_arrN {P:Program} {w:World} {r:Reach} {base:Nat} {t e:TypeId} {n:Nat} {v:Value} (ht:P.underlying t=some (.array n e)) (h:Value.okWide P w r base t v):∃ cs,v= .agg cs∧cs.size=P.cellsOf t:=by
 simp only [Value.okWide,ht] at h;obtain ⟨cs,h1,h2,_⟩:=h;exact ⟨cs,h1,h2⟩
section
variable {H:Type} {enc:TypeId × Value→H} {w:World} {base:Nat} {spare:Nat→Bool} {held:Bool}
theorem open_sch2 {B n:Nat} {cs:List Value} {z:DataW H × List MemPlace} (h:DataW.trod enc Tryz.prog w base spare held n 55 cs=some z) (hB:Rows.uptoBulk z.1≤B):∃ (y u:Sch) (es fs:List Value),cs=es++fs∧RSch.rd All w es y∧RSch.rd All w fs u∧gS B y∧gS B u:=by
 obtain ⟨xs,m,rfl,rfl,hl,hx,hf⟩:=DataW.trod_array underlying55 h;obtain ⟨x0,x1,rfl⟩:=two_of hx;have hc:Tryz.prog.cellsOf 29=5:=by kernel_rfl
 have hl:cs.length=10:=hl.trans (by kernel_rfl);have hB:Rows.uptoBulk (.agg [x0.1,x1.1])≤B:=hB;have h0:=hf 0 (by decide);have h1:=hf 1 (by decide);rw [hc] at h0 h1;obtain ⟨y,hy,hg⟩:=open_sch (z:=x0) h0 (kEB hB (by simp));obtain ⟨u,hu,hh⟩:=open_sch (z:=x1) h1 (kEB hB (by simp));refine ⟨y,u,_,_,?_,hy,hu,hg,hh⟩;rw [Nat.zero_mul,List.drop_zero,List.take_of_length_le (l:=cs.drop (1 * 5)) (by rw [List.length_drop,hl];decide),Nat.one_mul,List.take_append_drop]
theorem gS_big {B:Nat} (hB:B≤2000000) {s:Sch} (h:gS B s):bigS s∧∀ y ∈ s.wh,szL y:=by
 obtain ⟨h2,h3,h4,h5⟩:=h;have hT:∀ t,gT B t→bigT t:=fun t q=>⟨fun d hd=>(gL_big hB (q.2.2 d hd)).1,Nat.le_trans q.2.1 (by omega),Nat.le_trans q.1 (by omega)⟩
 refine ⟨⟨fun t ht=>?_,fun y hy=>(gL_big hB (h4 y hy)).1,by omega⟩,fun y hy=>(gL_big hB (h4 y hy)).2⟩;unfold allT at ht;rcases List.mem_append.1 ht with q | q
 · exact hT t (h2 t q)
 · rw [List.mem_singleton] at q;subst q;exact hT _ h3
end
end Go.Proofs.YtkndimjghfomcaaGreatDoor
